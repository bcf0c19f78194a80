/- Laws of walks, each under its own conditions. -/
import Derived.Test.YtpbhoidjmpjfpaaGreatDoorXT39
import Derived.Test.YtpbhoidjmpjfpaaGreatDoorXT31
set_option maxRecDepth 100000
set_option maxHeartbeats 40000000
namespace Go.Proofs.Wit
open Go Go.RowKit
def mX:Tr:=.un 4 0 0 0 (.bin 7 0 0 0 (.un 9 0 0 0 (.leaf 3 0 0 0)) (.leaf 3 0 0 0))
def k0:List NV:=[⟨3,0,0,0,0,0⟩,⟨9,0,0,0,0,0⟩,⟨4,0,0,0,0,0⟩,⟨5,0,0,0,1,2⟩,⟨10,0,0,0,2,0⟩,⟨6,0,0,0,4,0⟩]
def Ny(l:Int):TC:=⟨l,gU mX,[2,4,0,5,1,3],1#64⟩
theorem OK:((gx (Ny 0) 65 [] ⟨[],[]⟩ 8#64).map λz=>z.1.1)=some (-1):=by decide+kernel
instance:DecidableEq SD:=λa b=>decidable_of_iff (a.set=b.set/\a.eM=b.eM/\a.on=b.on/\a.e=b.e/\a.fr=b.fr) (by
  constructor;obtain⟨_,_,_,_,_⟩:=a;obtain⟨_,_,_,_,_⟩:=b;rintro ⟨h1,h2,h3,h4,h5⟩;dsimp only at h1 h2 h3 h4 h5;subst h1 h2 h3 h4 h5;rfl;rintro rfl;exact⟨rfl,rfl,rfl,rfl,rfl⟩)
def Kp(b:List NV)(i:Nat):Int:=match (List.range b.length).find? (λj=>decide (eA b j=(eH (eA b i)).2))with
 |some j=>(j:Int)
 |none=>-1
theorem Kn{b:List NV}(hb:eX b){i:Nat}(hi:i<b.length):jP b i=Kp b i:=by
 have h:jv (tA b (i:Int))=(eH (eA b i)).2:=by unfold tA jv;rw[c7,if_pos (hb.fit hi).1]
 unfold jP Kp;rw[h];rfl
theorem Ko{b:List NV}(hb:eX b):gy b=(List.range b.length).map (Kp b):=
 cK (λ_i hi=>Kn hb (dO.1 hi))
theorem K4:mX.ok:=iW (iM (fP aI vw) vw)
theorem zN:gU mX=k0:=by decide+kernel
theorem Fk:kI (λop _ _=>op<=10) mX:=by
 show(4:Int)<=10/\(7:Int)<=10/\((9:Int)<=10/\(3:Int)<=10)/\(3:Int)<=10;decide
theorem Nl:eX k0:=by rw[<-zN];exact A7 K4 Fk (by rw[zN];decide)
theorem Nn:gy k0=[2,4,0,5,1,3]:=by rw[Ko Nl];decide+kernel
theorem Nf{l:Int}:L6 l mX (lX (gU mX) (gU mX).length)=Ny l:=by
 have h:L6 l mX (lX (gU mX) (gU mX).length)=⟨l,gU mX,gy (gU mX),lX (gU mX) (gU mX).length⟩:=rfl;rw[h,zN,Nn];unfold Ny;rw[zN,show lX k0 k0.length=1#64 by decide+kernel]
theorem Ng{l:Int}:rI l mX (lX (gU mX) (gU mX).length)=gx (Ny l) 65 [] ⟨[],[]⟩ 8#64:=by
 unfold rI;rw[Nf,zN,show km mX=3 by decide+kernel];rfl
def lz:List SD:=[⟨15#64,1,0,2,[]⟩,⟨14#64,5,1,0,[0]⟩,⟨8#64,2,3,0,[1]⟩]
theorem Nh:(gx (Ny 2) 65 [] ⟨[],[]⟩ 8#64).map (λz=>(z.1.1,z.2.ss))=some (2,lz):=by decide+kernel
theorem sC:bT mX≠[]/\fK (bT mX)=0/\eP (bT mX)=mX/\bT (eH mX).1≠[]/\bT (eY mX)≠[]/\bT (eH mX).2≠[]:=by decide+kernel
theorem B7:xF (bT mX)/\(gU (eP (bT mX))).length<=24:=by
 obtain⟨_,h1,h2,h3,h4,h5⟩:=sC;unfold xF;rw[h2];exact⟨⟨h1,Fk,h3,h4,h5,by rw[zN];decide⟩,by rw[zN];decide⟩
theorem A3{p:Nat->Bool}:∀{k:Nat},(∀j,j<k->p j=true)->ff p k=k
 |0,_=>rfl
 |k+1,h=>by rw[jw,if_pos (h k (dy k)),A3 (λj hj=>h j aH)]
theorem MO{ss:List SD}(h:∀k,k<ss.length->gj ss k=true)(hf:∀x∈ss,∀j∈x.fr,0<=j/\j<ss.length):tB ss=ss:=by
 have key:∀k,k<=ss.length->tz ss k=ss.take k:=λk=>by
  induction k with
  |zero=>intro _;rfl
  |succ k ih=>
   intro hk;rw[qy aH,if_pos (h k aH),ih aH,aU aH]
   congr 2
   have hx:=hf _ (dq (show k<ss.length by omega));unfold DI;rw[show(ss[k].fr.map (λj=>((ff (gj ss) j.toNat:Nat):Int)))=ss[k].fr from by
    conv=>rhs;rw[<-List.map_id ss[k].fr]
    refine cK (λj hj=>?_);have:=hx j hj;rw[A3 (λi hi=>h i aH)];show((j.toNat:Nat):Int)=j;omega]
 unfold tB;rw[key _ (dZ _),dx]
theorem Ji:Am lz 2:=.last rfl
theorem Jj:Am lz 1:=.fr (k:=2) aI Ji (by decide+kernel)
theorem No:Am lz 0:=.fr (k:=1) aI Jj (by decide+kernel)
theorem xq:∀k,k<lz.length->gj lz k=true:=λk hk=>jB.2 (match k,hk with
 |0,_=>No
 |1,_=>Jj
 |2,_=>Ji)
theorem Jh:tB lz=lz:=MO xq (by decide+kernel)
theorem Nx:∃low σ,rI 2 mX (lX (gU mX) (gU mX).length)=some ((2,low),σ)/\σ.ss=lz:=by
 have h:=Nh;rw[<-Ng]at h;cases e:rI 2 mX (lX (gU mX) (gU mX).length)with
 |none=>rw[e]at h;cases h
 |some z=>
  obtain⟨⟨n,low⟩,σ⟩:=z;rw[e]at h;simp only[dL,df,Prod.mk.injEq]at h;obtain⟨rfl,h2⟩:=h;exact⟨low,σ,rfl,h2⟩
theorem OJ:∃low σ,rI 0 mX (lX (gU mX) (gU mX).length)=some ((-1,low),σ):=by
 have h:=OK;rw[<-Ng]at h;cases e:rI 0 mX (lX (gU mX) (gU mX).length)with
 |none=>rw[e]at h;cases h
 |some z=>
  obtain⟨⟨n,low⟩,σ⟩:=z;rw[e]at h;simp only[dL,df]at h;subst h;exact⟨low,σ,rfl⟩
theorem Nz:eA k0 0=pT:=by decide+kernel
theorem OL:eA k0 1=eT 0 pT:=by decide+kernel
abbrev Qc:List SD:=[⟨5#64,1,0,2,[]⟩,⟨6#64,5,1,0,[0]⟩,⟨8#64,2,3,0,[1]⟩]
theorem AX:qe k0 lz 0=5#64/\qe k0 lz 1=6#64/\qe k0 lz 2=8#64:=by decide+kernel
theorem Fq{k:Nat}(hk:k<=3):ff (gj lz) k=k:=A3 (λj hj=>xq j (cX hj hk))
theorem vZ:fT k0 lz=Qc:=by
 show te k0 lz 3=_;rw[mU (k:=2) aI,if_pos (xq 2 aI),mU (k:=1) aI,if_pos (xq 1 aI),mU (k:=0) aI,if_pos (xq 0 aI)];show []++[kZ k0 lz 0 ⟨15#64,1,0,2,[]⟩]++[kZ k0 lz 1 ⟨14#64,5,1,0,[0]⟩]++[kZ k0 lz 2 ⟨8#64,2,3,0,[1]⟩]=_;rw[kZ,kZ,kZ,AX.1,AX.2.1,AX.2.2,if_neg (by decide+kernel),if_neg (by decide+kernel),if_neg (by decide+kernel)];show []++[_]++[SD.mk 6#64 5 1 0 [((ff (gj lz) 0:Nat):Int)]]++[SD.mk 8#64 2 3 0 [((ff (gj lz) 1:Nat):Int)]]=_;rw[Fq aI,Fq aI];rfl
theorem AZ:gJ lz lz.length=[15#64,14#64,8#64]:=by
 have h:∀k (hk:k<3),gJ lz (k+1)=gJ lz k++[(lz[k]'hk).set]:=λk hk=>by
  rw[gJ,bH (show k<lz.length from hk)];dsimp only;rw[if_pos (xq k hk)];rfl
 show gJ lz 3=_;rw[h 2 aI,h 1 aI,h 0 aI];rfl
abbrev DM:Tr:=eY (rA pT (eY pT))
abbrev Cc:Tr:=eY (rA (eT 0 pT) (eY pT))
abbrev AK:List TL:=[⟨DM,1,0,0,0⟩,⟨fF DM DM,1,0,0,0⟩,⟨DM,10,0,1,0⟩]
abbrev C6:List TL:=AK++[⟨fF (eT 0 pT) pT,3,0,0,0⟩,⟨fF (fF (eT 0 pT) pT) (fF DM Cc),1,0,0,0⟩,⟨fF DM Cc,10,3,4,0⟩,⟨Cc,10,2,5,0⟩]
abbrev Kv:List TL:=C6++[⟨fF Cc Cc,1,0,0,0⟩,⟨Cc,10,6,7,0⟩]
theorem Ns:ic k0 5#64=DM:=by decide+kernel
theorem Nr:ic k0 6#64=Cc:=by decide+kernel
theorem Nq:ic k0 8#64=Cc:=by decide+kernel
theorem OQ:fO eC k0 (fT k0 lz) 15#64 ⟨5#64,1,0,2,[]⟩ [] ⟨[],false⟩=(2,⟨AK,false⟩):=by
 unfold fO;dsimp only;rw[if_pos rfl,if_neg (by decide+kernel),Ns,show tA k0 0=eA k0 0 from rfl,Nz,MX];dsimp only;rw[yu (u:=fF DM DM) rfl (by decide+kernel),dR,List.map_nil,uK (u:=DM) rfl (by decide+kernel)];rfl
theorem OP:fO eC k0 (fT k0 lz) 14#64 ⟨6#64,5,1,0,[0]⟩ [2] ⟨AK,false⟩=(6,⟨C6,false⟩):=by
 unfold fO;dsimp only;rw[if_neg aI,if_neg aI,if_neg aI,if_neg aI,if_pos rfl,Nr,show tA k0 1=eA k0 1 from rfl,OL,show tA k0 (nd k0 1).x=eA k0 0 from rfl,Nz,sS (by decide+kernel)];dsimp only;rw[show([2]:aq).getD (([0]:ar).getD 0 0).toNat 0=2 from rfl,show AK.length=3 from rfl];rw[yu (u:=fF (fF (eT 0 pT) pT) (fF DM Cc)) rfl (by decide+kernel),dR,dR,List.map_nil,uK (u:=fF DM Cc) rfl (by decide+kernel),uK (u:=Cc) rfl (by decide+kernel)];rfl
theorem OO:fO eC k0 (fT k0 lz) 8#64 ⟨8#64,2,3,0,[1]⟩ [2,6] ⟨C6,false⟩=(8,⟨Kv,false⟩):=by
 unfold fO;dsimp only;rw[if_neg aI,if_pos rfl,Nq,show([2,6]:aq).getD (([1]:ar).getD 0 0).toNat 0=6 from rfl];rw[yu (u:=fF Cc Cc) rfl (by decide+kernel),dR,List.map_nil,uK (u:=Cc) rfl (by decide+kernel)];rfl
theorem AY:kC eC k0 lz=(8,⟨Kv,false⟩):=by
 have hl:(fT k0 lz).length=3:=by rw[vZ];rfl
 have h1:fz eC k0 (fT k0 lz) (gJ lz lz.length) 1=([2],⟨AK,false⟩):=by
  rw[iS (q:=0) aH,AZ];have e:(fT k0 lz)[0]'aH=⟨5#64,1,0,2,[]⟩:=by simp only[vZ];rfl
  rw[e];show([]++[(fO eC k0 (fT k0 lz) 15#64 ⟨5#64,1,0,2,[]⟩ [] ⟨[],false⟩).1],(fO eC k0 (fT k0 lz) 15#64 ⟨5#64,1,0,2,[]⟩ [] ⟨[],false⟩).2)=_;rw[OQ];rfl
 have h2:fz eC k0 (fT k0 lz) (gJ lz lz.length) 2=([2,6],⟨C6,false⟩):=by
  rw[iS (q:=1) aH,h1,AZ];have e:(fT k0 lz)[1]'aH=⟨6#64,5,1,0,[0]⟩:=by simp only[vZ];rfl
  rw[e];show([2]++[(fO eC k0 (fT k0 lz) 14#64 ⟨6#64,5,1,0,[0]⟩ [2] ⟨AK,false⟩).1],(fO eC k0 (fT k0 lz) 14#64 ⟨6#64,5,1,0,[0]⟩ [2] ⟨AK,false⟩).2)=_;rw[OP];rfl
 have h3:fz eC k0 (fT k0 lz) (gJ lz lz.length) 3=([2,6,8],⟨Kv,false⟩):=by
  rw[iS (q:=2) aH,h2,AZ];have e:(fT k0 lz)[2]'aH=⟨8#64,2,3,0,[1]⟩:=by simp only[vZ];rfl
  rw[e];show([2,6]++[(fO eC k0 (fT k0 lz) 8#64 ⟨8#64,2,3,0,[1]⟩ [2,6] ⟨C6,false⟩).1],(fO eC k0 (fT k0 lz) 8#64 ⟨8#64,2,3,0,[1]⟩ [2,6] ⟨C6,false⟩).2)=_;rw[OO];rfl
 unfold kC;dsimp only;rw[hl,h3,if_pos (by rw[vZ];decide+kernel)];rfl
theorem K5{ls:List LV}(hd:ls.map LV.d=Kv.map (λx=>x.v.d)):kX 0 ls≠0:=λh=>by
 have hl:ls.length=9:=by have:=eh List.length hd;simpa using this
 have h3:ls[3].r=3:=by
  have:=eh (λl=>l[3]?) hd;simp only[dc,bH (show 3<ls.length by omega),dL]at this;have h4:=dM this;exact eh LD.r h4
 have h5:=(oV.1 ((kH.1 h).2.2.2 3 aH)).2.2.2.1;rw[h3]at h5;cases h5
end Go.Proofs.Wit
