/- Laws of walks, each under its own conditions. -/
import Derived.Test.YtpbhoidjmpjfpaaGreatDoorXP40
import Derived.Test.YtpbhoidjmpjfpaaGreatDoorXP32
set_option maxRecDepth 100000
set_option maxHeartbeats 40000000
namespace Go.Proofs.Wit
open Go Go.RowKit
def oZ:Tr:=.un 4 0 0 0 (.bin 7 0 0 0 (.un 9 0 0 0 (.leaf 3 0 0 0)) (.leaf 3 0 0 0))
def my:List NV:=[⟨3,0,0,0,0,0⟩,⟨9,0,0,0,0,0⟩,⟨4,0,0,0,0,0⟩,⟨5,0,0,0,1,2⟩,⟨10,0,0,0,2,0⟩,⟨6,0,0,0,4,0⟩]
def UK(l:Int):TC:=⟨l,iG oZ,[2,4,0,5,1,3],1#64⟩
theorem VR:((ie (UK 0) 65 [] ⟨[],[]⟩ 8#64).map λz=>z.1.1)=some (-1):=by decide+kernel
instance:DecidableEq SD:=λa b=>decidable_of_iff (a.set=b.set/\a.fK=b.fK/\a.on=b.on/\a.e=b.e/\a.fr=b.fr) (by
  constructor;obtain⟨_,_,_,_,_⟩:=a;obtain⟨_,_,_,_,_⟩:=b;rintro ⟨h1,h2,h3,h4,h5⟩;dsimp only at h1 h2 h3 h4 h5;subst h1 h2 h3 h4 h5;rfl;rintro rfl;exact⟨rfl,rfl,rfl,rfl,rfl⟩)
def Rv(b:List NV)(i:Nat):Int:=match (List.range b.length).find? (λj=>decide (fe b j=(fC (fe b i)).2))with
 |some j=>(j:Int)
 |none=>-1
theorem Rt{b:List NV}(hb:fS b){i:Nat}(hi:i<b.length):kU b i=Rv b i:=by
 have h:jT (tA b (i:Int))=(fC (fe b i)).2:=by unfold tA jT;rw[dy,if_pos (hb.fit hi).1]
 unfold kU Rv;rw[h];rfl
theorem Ru{b:List NV}(hb:fS b):iD b=(List.range b.length).map (Rv b):=
 c6 (λ_i hi=>Rt hb (eD.1 hi))
theorem Sa:oZ.ok:=jF (jG (gI aI yX) yX)
theorem D8:iG oZ=my:=by decide+kernel
theorem LS:jE (λop _ _=>op<=10) oZ:=by
 show(4:Int)<=10/\(7:Int)<=10/\((9:Int)<=10/\(3:Int)<=10)/\(3:Int)<=10;decide
theorem Uy:fS my:=by rw[<-D8];exact F8 Sa LS (by rw[D8];decide)
theorem Uz:iD my=[2,4,0,5,1,3]:=by rw[Ru Uy];decide+kernel
theorem Ur{l:Int}:Sm l oZ (mw (iG oZ) (iG oZ).length)=UK l:=by
 have h:Sm l oZ (mw (iG oZ) (iG oZ).length)=⟨l,iG oZ,iD (iG oZ),mw (iG oZ) (iG oZ).length⟩:=rfl;rw[h,D8,Uz];unfold UK;rw[D8,show mw my my.length=1#64 by decide+kernel]
theorem Ut{l:Int}:uW l oZ (mw (iG oZ) (iG oZ).length)=ie (UK l) 65 [] ⟨[],[]⟩ 8#64:=by
 unfold uW;rw[Ur,D8,show lk oZ=3 by decide+kernel];rfl
def mW:List SD:=[⟨15#64,1,0,2,[]⟩,⟨14#64,5,1,0,[0]⟩,⟨8#64,2,3,0,[1]⟩]
theorem Uu:(ie (UK 2) 65 [] ⟨[],[]⟩ 8#64).map (λz=>(z.1.1,z.2.ss))=some (2,mW):=by decide+kernel
theorem vE:bT oZ≠[]/\gp (bT oZ)=0/\fF (bT oZ)=oZ/\bT (fC oZ).1≠[]/\bT (fU oZ)≠[]/\bT (fC oZ).2≠[]:=by decide+kernel
theorem Ht:vY (bT oZ)/\(iG (fF (bT oZ))).length<=24:=by
 obtain⟨_,h1,h2,h3,h4,h5⟩:=vE;unfold vY;rw[h2];exact⟨⟨h1,LS,h3,h4,h5,by rw[D8];decide⟩,by rw[D8];decide⟩
theorem FY{p:Nat->Bool}:∀{k:Nat},(∀j,j<k->p j=true)->gq p k=k
 |0,_=>rfl
 |k+1,h=>by rw[lB,if_pos (h k (dS k)),FY (λj hj=>h j aH)]
theorem TZ{ss:List SD}(h:∀k,k<ss.length->iS ss k=true)(hf:∀x∈ss,∀j∈x.fr,0<=j/\j<ss.length):v5 ss=ss:=by
 have key:∀k,k<=ss.length->wx ss k=ss.take k:=λk=>by
  induction k with
  |zero=>intro _;rfl
  |succ k ih=>
   intro hk;rw[tG aH,if_pos (h k aH),ih aH,aU aH]
   congr 2
   have hx:=hf _ (dL (show k<ss.length by omega));unfold JC;rw[show(ss[k].fr.map (λj=>((gq (iS ss) j.toNat:Nat):Int)))=ss[k].fr from by
    conv=>rhs;rw[<-List.map_id ss[k].fr]
    refine c6 (λj hj=>?_);have:=hx j hj;rw[FY (λi hi=>h i aH)];show((j.toNat:Nat):Int)=j;omega]
 unfold v5;rw[key _ (eR _),dR]
theorem Qm:Ic mW 2:=.last rfl
theorem Qn:Ic mW 1:=.fr (k:=2) aI Qm (by decide+kernel)
theorem UA:Ic mW 0:=.fr (k:=1) aI Qn (by decide+kernel)
theorem Bm:∀k,k<mW.length->iS mW k=true:=λk hk=>me.2 (match k,hk with
 |0,_=>UA
 |1,_=>Qn
 |2,_=>Qm)
theorem Ql:v5 mW=mW:=TZ Bm (by decide+kernel)
theorem UJ:∃low σ,uW 2 oZ (mw (iG oZ) (iG oZ).length)=some ((2,low),σ)/\σ.ss=mW:=by
 have h:=Uu;rw[<-Ut]at h;cases e:uW 2 oZ (mw (iG oZ) (iG oZ).length)with
 |none=>rw[e]at h;cases h
 |some z=>
  obtain⟨⟨n,low⟩,σ⟩:=z;rw[e]at h;simp only[ez,dD,Prod.mk.injEq]at h;obtain⟨rfl,h2⟩:=h;exact⟨low,σ,rfl,h2⟩
theorem VQ:∃low σ,uW 0 oZ (mw (iG oZ) (iG oZ).length)=some ((-1,low),σ):=by
 have h:=VR;rw[<-Ut]at h;cases e:uW 0 oZ (mw (iG oZ) (iG oZ).length)with
 |none=>rw[e]at h;cases h
 |some z=>
  obtain⟨⟨n,low⟩,σ⟩:=z;rw[e]at h;simp only[ez,dD]at h;subst h;exact⟨low,σ,rfl⟩
theorem UL:fe my 0=pT:=by decide+kernel
theorem VT:fe my 1=fN 0 pT:=by decide+kernel
abbrev Xe:List SD:=[⟨5#64,1,0,2,[]⟩,⟨6#64,5,1,0,[0]⟩,⟨8#64,2,3,0,[1]⟩]
theorem FN:xv my mW 0=5#64/\xv my mW 1=6#64/\xv my mW 2=8#64:=by decide+kernel
theorem LX{k:Nat}(hk:k<=3):gq (iS mW) k=k:=FY (λj hj=>Bm j (dt hj hk))
theorem zz:jD my mW=Xe:=by
 show uQ my mW 3=_;rw[nU (k:=2) aI,if_pos (Bm 2 aI),nU (k:=1) aI,if_pos (Bm 1 aI),nU (k:=0) aI,if_pos (Bm 0 aI)];show []++[m7 my mW 0 ⟨15#64,1,0,2,[]⟩]++[m7 my mW 1 ⟨14#64,5,1,0,[0]⟩]++[m7 my mW 2 ⟨8#64,2,3,0,[1]⟩]=_;rw[m7,m7,m7,FN.1,FN.2.1,FN.2.2,if_neg (by decide+kernel),if_neg (by decide+kernel),if_neg (by decide+kernel)];show []++[_]++[SD.mk 6#64 5 1 0 [((gq (iS mW) 0:Nat):Int)]]++[SD.mk 8#64 2 3 0 [((gq (iS mW) 1:Nat):Int)]]=_;rw[LX aI,LX aI];rfl
theorem FP:jl mW mW.length=[15#64,14#64,8#64]:=by
 have h:∀k (hk:k<3),jl mW (k+1)=jl mW k++[(mW[k]'hk).set]:=λk hk=>by
  rw[jl,bJ (show k<mW.length from hk)];dsimp only;rw[if_pos (Bm k hk)];rfl
 show jl mW 3=_;rw[h 2 aI,h 1 aI,h 0 aI];rfl
abbrev JG:Tr:=fU (uj pT (fU pT))
abbrev Hx:Tr:=fU (uj (fN 0 pT) (fU pT))
abbrev Ft:List TL:=[⟨JG,1,0,0,0⟩,⟨gv JG JG,1,0,0,0⟩,⟨JG,10,0,1,0⟩]
abbrev IY:List TL:=Ft++[⟨gv (fN 0 pT) pT,3,0,0,0⟩,⟨gv (gv (fN 0 pT) pT) (gv JG Hx),1,0,0,0⟩,⟨gv JG Hx,10,3,4,0⟩,⟨Hx,10,2,5,0⟩]
abbrev RB:List TL:=IY++[⟨gv Hx Hx,1,0,0,0⟩,⟨Hx,10,6,7,0⟩]
theorem UE:iV my 5#64=JG:=by decide+kernel
theorem UD:iV my 6#64=Hx:=by decide+kernel
theorem UC:iV my 8#64=Hx:=by decide+kernel
theorem VY:gQ fg my (jD my mW) 15#64 ⟨5#64,1,0,2,[]⟩ [] ⟨[],false⟩=(2,⟨Ft,false⟩):=by
 unfold gQ;dsimp only;rw[if_pos rfl,if_neg (by decide+kernel),UE,show tA my 0=fe my 0 from rfl,UL,T5];dsimp only;rw[Ci (u:=gv JG JG) rfl (by decide+kernel),eG,List.map_nil,xW (u:=JG) rfl (by decide+kernel)];rfl
theorem VX:gQ fg my (jD my mW) 14#64 ⟨6#64,5,1,0,[0]⟩ [2] ⟨Ft,false⟩=(6,⟨IY,false⟩):=by
 unfold gQ;dsimp only;rw[if_neg aI,if_neg aI,if_neg aI,if_neg aI,if_pos rfl,UD,show tA my 1=fe my 1 from rfl,VT,show tA my (nd my 1).x=fe my 0 from rfl,UL,vS (by decide+kernel)];dsimp only;rw[show([2]:aq).getD (([0]:ar).getD 0 0).toNat 0=2 from rfl,show Ft.length=3 from rfl];rw[Ci (u:=gv (gv (fN 0 pT) pT) (gv JG Hx)) rfl (by decide+kernel),eG,eG,List.map_nil,xW (u:=gv JG Hx) rfl (by decide+kernel),xW (u:=Hx) rfl (by decide+kernel)];rfl
theorem VW:gQ fg my (jD my mW) 8#64 ⟨8#64,2,3,0,[1]⟩ [2,6] ⟨IY,false⟩=(8,⟨RB,false⟩):=by
 unfold gQ;dsimp only;rw[if_neg aI,if_pos rfl,UC,show([2,6]:aq).getD (([1]:ar).getD 0 0).toNat 0=6 from rfl];rw[Ci (u:=gv Hx Hx) rfl (by decide+kernel),eG,List.map_nil,xW (u:=Hx) rfl (by decide+kernel)];rfl
theorem FO:kS fg my mW=(8,⟨RB,false⟩):=by
 have hl:(jD my mW).length=3:=by rw[zz];rfl
 have h1:gj fg my (jD my mW) (jl mW mW.length) 1=([2],⟨Ft,false⟩):=by
  rw[kE (q:=0) aH,FP];have e:(jD my mW)[0]'aH=⟨5#64,1,0,2,[]⟩:=by simp only[zz];rfl
  rw[e];show([]++[(gQ fg my (jD my mW) 15#64 ⟨5#64,1,0,2,[]⟩ [] ⟨[],false⟩).1],(gQ fg my (jD my mW) 15#64 ⟨5#64,1,0,2,[]⟩ [] ⟨[],false⟩).2)=_;rw[VY];rfl
 have h2:gj fg my (jD my mW) (jl mW mW.length) 2=([2,6],⟨IY,false⟩):=by
  rw[kE (q:=1) aH,h1,FP];have e:(jD my mW)[1]'aH=⟨6#64,5,1,0,[0]⟩:=by simp only[zz];rfl
  rw[e];show([2]++[(gQ fg my (jD my mW) 14#64 ⟨6#64,5,1,0,[0]⟩ [2] ⟨Ft,false⟩).1],(gQ fg my (jD my mW) 14#64 ⟨6#64,5,1,0,[0]⟩ [2] ⟨Ft,false⟩).2)=_;rw[VX];rfl
 have h3:gj fg my (jD my mW) (jl mW mW.length) 3=([2,6,8],⟨RB,false⟩):=by
  rw[kE (q:=2) aH,h2,FP];have e:(jD my mW)[2]'aH=⟨8#64,2,3,0,[1]⟩:=by simp only[zz];rfl
  rw[e];show([2,6]++[(gQ fg my (jD my mW) 8#64 ⟨8#64,2,3,0,[1]⟩ [2,6] ⟨IY,false⟩).1],(gQ fg my (jD my mW) 8#64 ⟨8#64,2,3,0,[1]⟩ [2,6] ⟨IY,false⟩).2)=_;rw[VW];rfl
 unfold kS;dsimp only;rw[hl,h3,if_pos (by rw[zz];decide+kernel)];rfl
theorem Sb{ls:List LV}(hd:ls.map LV.d=RB.map (λx=>x.v.d)):lG 0 ls≠0:=λh=>by
 have hl:ls.length=9:=by have:=eV List.length hd;simpa using this
 have h3:ls[3].r=3:=by
  have:=eV (λl=>l[3]?) hd;simp only[dB,bJ (show 3<ls.length by omega),ez]at this;have h4:=eA this;exact eV LD.r h4
 have h5:=(rC.1 ((lZ.1 h).2.2.2 3 aH)).2.2.2.1;rw[h3]at h5;cases h5
end Go.Proofs.Wit
