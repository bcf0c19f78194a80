/- Laws of walks, each under its own conditions. -/
import Derived.Test.YtaamcaiglooemaaGreatDoorXP43
set_option maxRecDepth 100000
set_option maxHeartbeats 40000000
namespace Go.Proofs.Wit
open Go Go.RowKit
section
variable{ei:Bool}{ls:List LV}{t:Tr}
theorem AJ:∀(xs:List Tr),∃l:List Tr,l.Nodup/\(∀u,u∈l↔u∈xs)/\l.length<=xs.length
 |[]=>⟨[],ed,λ_=>Iff.rfl,eG _⟩
 |x::xs=>by
  obtain⟨l,h1,h2,h3⟩:=AJ xs;by_cases h:x∈l;exact⟨l,h1,λu=>by rw[h2,ew];exact⟨.inr,λe=>e.elim (λe=>by rw[e];exact(h2 x).1 h) id⟩,by simp;omega⟩;exact⟨x::l,dS.2 ⟨h,h1⟩,λu=>by rw[ew,ew,h2],by simp;omega⟩
theorem Mv (h:(ov t).length<=10):eR t:=by
 obtain⟨l,h1,h2,h3⟩:=AJ (ov t);exact⟨l,h1,h2,aH⟩
def OV(t:Tr)(r:Int)(ls:List TL):Bool:=decide ((iD t).length<=200) && (decide (ls.length<400) && (decide (r≠1)||decide ((ov t).length<=10)))
theorem pf {r:Int}{a b:Nat}{g:Int}{ls:List TL}(h:OV t r ls=true):gq eR t r a b g ⟨ls,false⟩=(ls.length,⟨ls++[⟨t,r,a,b,g⟩],false⟩):=by
 unfold OV at h;simp only[dx,dK,du]at h;obtain⟨h1,h2,h3⟩:=h;rw[gq,if_neg];rintro (e|e|e|⟨e1,e2⟩);cases e;exact e h1;dsimp only at e;omega;rcases h3 with h3|h3;exact h3 e1;exact e2 (Mv h3)
theorem yS (h:decide ((iD (fH t)).length<=200)=true):kk t=(fB t).2:=by
 unfold kk;split;rfl;rename_i h2;exact absurd (of_decide_eq_true h:(iD (fH t)).length<=200) h2
theorem IP:kk pT=fH pT:=by rw[yS (by decide+kernel)];decide+kernel
theorem Kj:kk (fH pT)=pT:=by rw[yS (by decide+kernel)];decide+kernel
theorem Pf:kk (fe 0 pT)=l8 0 (fH pT):=by rw[yS (by decide+kernel)];decide+kernel
theorem r9{g u:Tr}{fr:aq}{ls:List TL}(hu:u=gQ (fr.map (l6 ⟨ls,false⟩)) g)(h:OV u 1 ls=true):ga eR g fr ⟨ls,false⟩=ph eR g (fr.map (λn=>(n,l6 ⟨ls,false⟩ n))) ls.length ⟨ls++[⟨u,1,0,0,0⟩],false⟩:=by
 rw[ga,if_neg aL,<-hu,pf h]
theorem rZ{g u:Tr}{n m:Nat}{ps:List (Nat×Tr)}{ls:List TL}(hu:u=gQ (ps.map (·.2)) g)(h:OV u 10 ls=true):ph eR g ((m,t)::ps) n ⟨ls,false⟩=ph eR g ps ls.length ⟨ls++[⟨u,10,m,n,0⟩],false⟩:=by
 rw[ph,<-hu,pf h]
abbrev Lz:Tr:=fH (fH pT)
abbrev MC(ei:Bool):Tr:=if ei=true then .bin 6 0 0 0 pT (fH pT)else fH (oI pT (fH pT))
abbrev JC(ei:Bool):Tr:=if ei=true then .bin 6 0 0 0 (fe 0 pT) (l8 0 (fH pT))else fH (oI (fe 0 pT) (l8 0 (fH pT)))
abbrev kP(ei:Bool):Tr:=if ei=true then Lz else pT
abbrev kQ(ei:Bool):Tr:=if ei=true then pT else Lz
abbrev Pp(ei:Bool):List TL:=[⟨MC ei,1,0,0,0⟩]
abbrev F0(ei:Bool):List TL:=[⟨MC ei,1,0,0,0⟩,⟨fO (MC ei) (fO (kP ei) (kQ ei)),1,0,0,0⟩,⟨fO (kP ei) (kQ ei),10,0,1,0⟩]
abbrev LN(ei:Bool):List TL:=F0 ei++[⟨fe 0 (fO (kP ei) (kQ ei)),11,2,0,0⟩,⟨fO (fe 0 (fO (kP ei) (kQ ei))) (fO (fe 0 (kP ei)) (fe 0 (kQ ei))),2,0,0,0⟩,⟨fO (fe 0 (kP ei)) (fe 0 (kQ ei)),10,3,4,0⟩,⟨sZ (l8 0 (fH pT)) (fH (fe 0 Lz)),7,0,0,0⟩]
abbrev OW(ei:Bool):List TL:=LN ei++[⟨fO (fO (fe 0 (kP ei)) (fe 0 (kQ ei))) (fO (sZ (l8 0 (fH pT)) (fH (fe 0 Lz))) (JC ei)),1,0,0,0⟩,⟨fO (sZ (l8 0 (fH pT)) (fH (fe 0 Lz))) (JC ei),10,5,7,0⟩,⟨JC ei,10,6,8,0⟩]
theorem PF :pK ei pT=MC ei:=by unfold pK MC;rw[IP]
theorem PG :pK ei (fe 0 pT)=JC ei:=by unfold pK JC;rw[Pf]
theorem LR :fF eR ei pT ⟨[],false⟩=(0,⟨Pp ei,false⟩):=by
 show fF eR ei (.leaf 3 0 0 0) _=_;rw[fF,show(Tr.leaf 3 0 0 0)=pT from rfl,PF,r9 (u:=MC ei) rfl (by cases ei<;>decide+kernel)];rfl
theorem LS :fF eR ei (fe 0 pT) ⟨[],false⟩=(9,⟨OW ei,false⟩):=by
 show fF eR ei (.un 9 0 0 0 pT) _=_;rw[fF,if_pos (.inl rfl),LR,show(Tr.un 9 0 0 0 pT)=fe 0 pT from rfl];have hp:uL ei 9 pT=kP ei:=by unfold uL kP vT uT;rw[if_pos rfl,if_pos rfl,IP]
 have hq:uI ei 9 pT=kQ ei:=by unfold uI kQ vT uT;rw[if_pos rfl,if_pos rfl,IP]
 have hv:vT 9 pT=fH pT:=by unfold vT;rw[if_pos rfl,IP]
 have h1:ga eR (fO (kP ei) (kQ ei)) [0] ⟨Pp ei,false⟩=(2,⟨F0 ei,false⟩):=by
  rw[r9 (u:=fO (MC ei) (fO (kP ei) (kQ ei))) rfl (by cases ei<;>decide+kernel)];rw[ep,List.map_nil,rZ (u:=fO (kP ei) (kQ ei)) rfl (by cases ei<;>decide+kernel)];rfl
 have h2:mn eR 0 (kP ei) (kQ ei) 2 ⟨F0 ei,false⟩=(5,⟨F0 ei++[⟨fe 0 (fO (kP ei) (kQ ei)),11,2,0,0⟩,⟨fO (fe 0 (fO (kP ei) (kQ ei))) (fO (fe 0 (kP ei)) (fe 0 (kQ ei))),2,0,0,0⟩,⟨fO (fe 0 (kP ei)) (fe 0 (kQ ei)),10,3,4,0⟩],false⟩):=by
  rw[mn,pf (by cases ei<;>decide+kernel)];dsimp only;rw[kW,pf (by cases ei<;>decide+kernel)];dsimp only;rw[pf (by cases ei<;>decide+kernel)];rfl
 have h3:jU eR 0 (fH pT) ⟨F0 ei++[⟨fe 0 (fO (kP ei) (kQ ei)),11,2,0,0⟩,⟨fO (fe 0 (fO (kP ei) (kQ ei))) (fO (fe 0 (kP ei)) (fe 0 (kQ ei))),2,0,0,0⟩,⟨fO (fe 0 (kP ei)) (fe 0 (kQ ei)),10,3,4,0⟩],false⟩=(6,⟨LN ei,false⟩):=by
  rw[jU,pf (by cases ei<;>decide+kernel)];rfl
 have h4:ga eR (JC ei) [5,6] ⟨LN ei,false⟩=(9,⟨OW ei,false⟩):=by
  rw[r9 (u:=fO (fO (fe 0 (kP ei)) (fe 0 (kQ ei))) (fO (sZ (l8 0 (fH pT)) (fH (fe 0 Lz))) (JC ei))) rfl (by cases ei<;>decide+kernel)];rw[ep,ep,List.map_nil,rZ (u:=fO (sZ (l8 0 (fH pT)) (fH (fe 0 Lz))) (JC ei)) rfl (by cases ei<;>decide+kernel),rZ (u:=JC ei) rfl (by cases ei<;>decide+kernel)];rfl
 rw[uR,hp,hq,hv,h1];dsimp only;rw[h2];dsimp only;rw[h3];dsimp only;rw[PG,h4]
def nj:List NV:=[⟨3,0,0,0,0,0⟩,⟨4,0,0,0,0,0⟩,⟨9,0,0,0,0,0⟩]
def H9:SD:=⟨7#64,1,1,0,[]⟩
def H8:SD:=⟨6#64,5,2,0,[0]⟩
def jV:List SD:=[H9,H8]
theorem KX:fY nj:=⟨by decide+kernel,aI,by decide+kernel⟩
theorem Ns:eP nj 0=pT:=by decide+kernel
theorem Nr:eP nj 1=fH pT:=by decide+kernel
theorem O5:eP nj 2=fe 0 pT:=by decide+kernel
theorem KV:oi nj 1=0:=uQ (i:=1) (j:=0) aI (by rw[Ns,show tA nj 1=eP nj 1 from rfl,Nr,Kj]) (λk hk=>absurd hk (dV _))
theorem H7:jJ 2 nj jV 0 H9:=by
 refine⟨λk hk=>?_,.inl ⟨rfl,rfl,.inr ⟨by decide+kernel,aI,by decide+kernel,KV⟩⟩⟩;have:∀k:Fin 64,(7#64).getLsbD k.val=true->k.val<3:=by decide+kernel
 exact this ⟨k,cu hk⟩ hk
theorem H6:jJ 2 nj jV 1 H8:=by
 refine⟨λk hk=>?_,.inr (.inr (.inr (.inr (.inl ⟨rfl,rfl,.inl rfl,⟨aI,by decide+kernel,by decide+kernel⟩,?_⟩))))⟩;have:∀k:Fin 64,(6#64).getLsbD k.val=true->k.val<3:=by decide+kernel
 exact this ⟨k,cu hk⟩ hk;exact⟨⟨⟨aI,aI⟩,by decide+kernel⟩,eO⟩
theorem Cj:mr 2 nj jV:=by
 refine⟨aI,KX,aI,aI,λk hk=>?_⟩
 match k,hk with
 |0,_=>exact H7
 |1,_=>exact H6
theorem H5:sw nj jV 0=3#64:=by decide+kernel
theorem H4:sw nj jV 1=6#64:=by decide+kernel
theorem J9:jz jV 1=true:=mY.2 (.last rfl)
theorem Ka:jz jV 0=true:=mY.2 (.fr (k:=1) aI (.last rfl) (by decide+kernel))
theorem wg:iE nj jV=[⟨3#64,1,1,0,[]⟩,⟨6#64,5,2,0,[0]⟩]:=by
 have h0:sQ nj jV 1=[⟨3#64,1,1,0,[]⟩]:=by
  rw[oN (k:=0) aI,if_pos Ka];show []++[mI nj jV 0 H9]=_;rw[mI,H5,if_neg (by decide+kernel)];rfl
 have hc:gL (jz jV) 0=0:=rfl;rw[iE];show sQ nj jV 2=_;rw[oN (k:=1) aI,if_pos J9,h0];show _++[mI nj jV 1 H8]=_;rw[mI,H4,if_neg (by decide+kernel)];show [_]++[SD.mk 6#64 5 2 0 [((gL (jz jV) 0:Nat):Int)]]=_;rw[hc];rfl
theorem EP:gJ jV jV.length=[7#64,6#64]:=by
 show gJ jV 2=_;have h0:gJ jV 1=[7#64]:=by
  show(match jV[0]? with|some x=>if jz jV 0=true then gJ jV 0++[x.set]else gJ jV 0|none=>gJ jV 0)=_;show(if jz jV 0=true then _ else _)=_;rw[if_pos Ka];rfl
 show(if jz jV 1=true then gJ jV 1++[6#64]else gJ jV 1)=_;rw[if_pos J9,h0];rfl
abbrev Jj:Tr:=fH (oI pT (fH pT))
abbrev Ms:Tr:=fH (oI (fH pT) (fe 0 pT))
abbrev Nh:Tr:=fH (oI (fH pT) pT)
abbrev BG:List TL:=[⟨Nh,1,0,0,0⟩,⟨fO Nh Jj,1,0,0,0⟩,⟨Jj,10,0,1,0⟩]
abbrev Nd:List TL:=BG++[⟨fO (fe 0 pT) pT,3,0,0,0⟩,⟨fO (fO (fe 0 pT) pT) (fO Jj Ms),1,0,0,0⟩,⟨fO Jj Ms,10,3,4,0⟩,⟨Ms,10,2,5,0⟩]
theorem NX:iv nj 3#64=Jj:=by decide+kernel
theorem NW:iv nj 6#64=Ms:=by decide+kernel
theorem Pq:fF eR false (fH pT) ⟨[],false⟩=(0,⟨[⟨Nh,1,0,0,0⟩],false⟩):=by
 have hc:pK false (fH pT)=Nh:=by unfold pK;rw[if_neg aI,Kj]
 show fF eR false (.un 4 0 0 0 pT) _=_;rw[fF,if_neg aI,show(Tr.un 4 0 0 0 pT)=fH pT from rfl,hc,r9 (u:=Nh) rfl (by decide+kernel)];rfl
theorem O7:gm eR nj (iE nj jV) 7#64 ⟨3#64,1,1,0,[]⟩ [] ⟨[],false⟩=(2,⟨BG,false⟩):=by
 unfold gm;dsimp only;rw[if_pos rfl,if_neg (by decide+kernel),NX,show tA nj 1=eP nj 1 from rfl,Nr,Pq];dsimp only;rw[r9 (u:=fO Nh Jj) rfl (by decide+kernel),ep,List.map_nil,rZ (u:=Jj) rfl (by decide+kernel)];rfl
theorem O6:gm eR nj (iE nj jV) 6#64 ⟨6#64,5,2,0,[0]⟩ [2] ⟨BG,false⟩=(6,⟨Nd,false⟩):=by
 unfold gm;dsimp only;rw[if_neg aI,if_neg aI,if_neg aI,if_neg aI,if_pos rfl,NW,show tA nj 2=eP nj 2 from rfl,O5,show tA nj (nd nj 2).x=eP nj 0 from rfl,Ns,pf (by decide+kernel)];dsimp only;rw[show([2]:aq).getD (([0]:ar).getD 0 0).toNat 0=2 from rfl,show BG.length=3 from rfl];rw[r9 (u:=fO (fO (fe 0 pT) pT) (fO Jj Ms)) rfl (by decide+kernel),ep,ep,List.map_nil,rZ (u:=fO Jj Ms) rfl (by decide+kernel),rZ (u:=Ms) rfl (by decide+kernel)];rfl
theorem Li:kY eR nj jV=(6,⟨Nd,false⟩):=by
 have hl:(iE nj jV).length=2:=by rw[wg];rfl
 have h1:fP eR nj (iE nj jV) (gJ jV jV.length) 1=([2],⟨BG,false⟩):=by
  rw[kA (q:=0) aH,EP];have e:(iE nj jV)[0]'aH=⟨3#64,1,1,0,[]⟩:=by simp only[wg];rfl
  rw[e];show([]++[(gm eR nj (iE nj jV) 7#64 ⟨3#64,1,1,0,[]⟩ [] ⟨[],false⟩).1],(gm eR nj (iE nj jV) 7#64 ⟨3#64,1,1,0,[]⟩ [] ⟨[],false⟩).2)=_;rw[O7];rfl
 have h2:fP eR nj (iE nj jV) (gJ jV jV.length) 2=([2,6],⟨Nd,false⟩):=by
  rw[kA (q:=1) aH,h1,EP];have e:(iE nj jV)[1]'aH=⟨6#64,5,2,0,[0]⟩:=by simp only[wg];rfl
  rw[e];show([2]++[(gm eR nj (iE nj jV) 6#64 ⟨6#64,5,2,0,[0]⟩ [2] ⟨BG,false⟩).1],(gm eR nj (iE nj jV) 6#64 ⟨6#64,5,2,0,[0]⟩ [2] ⟨BG,false⟩).2)=_;rw[O6];rfl
 unfold kY;dsimp only;rw[hl,h2,if_pos (by rw[wg];decide+kernel)];rfl
theorem wV{l:Int}{σ:Sg}(hg:Good l σ)(hl:0<=l/\l<=6)(h0:0<σ.ls.length) (hd:ls.map LV.d=σ.ls.map (λx=>x.v.d)):m7 l ls=0:=by
 have h1:m7 l (σ.ls.map TL.v)=0:=rE.2 ⟨hl,by rw[dM];exact h0,by rw[dM];exact hg.len,hg.ok⟩;exact B1 (by rw[hd,ez];rfl) h1
theorem De {ts:List TL}(hd:ls.map LV.d=ts.map (λx=>x.v.d)){k:Nat}(hk:k<ls.length)(hk2:k<ts.length):ls[k].f.f=bT ts[k].t:=by
 have h1:ls[k].d=ts[k].v.d:=by
  have:=eK (λl=>l[k]?) hd;simpa[hk,hk2]using this
 exact eK LD.f h1
theorem Pk:uz pT:=by show(3:Int)<=3;decide
theorem Pm:uz (fe 0 pT):=.inr ⟨.inl rfl,Pk⟩
theorem vu:(fe 0 pT).ok:=gk aI km
theorem LO :yd ei (bT pT)=0/\LP ei (bT pT)=(Pp ei).map (λx=>x.v.d):=by
 have h1:fX (bT pT)=0:=by decide+kernel
 have h2:gA (bT pT)=pT:=by decide+kernel
 have h3:∀n∈eT (bT pT),jD (eT (bT pT)) n:=by decide+kernel
 refine⟨?_,?_⟩;rw[yd,if_neg (by simp[h1]),if_neg (λh=>h h3),h2,LR,if_neg aL];rw[LP,h2,LR]
theorem D8 :yd ei (bT (fe 0 pT))=0/\LP ei (bT (fe 0 pT))=(OW ei).map (λx=>x.v.d):=by
 have h1:fX (bT (fe 0 pT))=0:=by decide+kernel
 have h2:gA (bT (fe 0 pT))=fe 0 pT:=by decide+kernel
 have h3:∀n∈eT (bT (fe 0 pT)),jD (eT (bT (fe 0 pT))) n:=by decide+kernel
 refine⟨?_,?_⟩;rw[yd,if_neg (by simp[h1]),if_neg (λh=>h h3),h2,LS,if_neg aL];rw[LP,h2,LS]
theorem N7:yd false (bT (fO pT pT))=10:=by
 have h1:fX (bT (fO pT pT))=0:=by decide+kernel
 have h3:¬∀n∈eT (bT (fO pT pT)),jD (eT (bT (fO pT pT))) n:=by decide+kernel
 rw[yd,if_neg (by simp[h1]),if_pos h3]
theorem Lk:xq 2 nj jV=0/\II nj jV=Nd.map (λx=>x.v.d):=by
 have h1:rf 2 nj jV=0:=nV.2 Cj;refine⟨?_,?_⟩;rw[xq,if_neg (by simp[h1]),Li,if_neg aL];rw[II,Li]
theorem Ot (hd:ls.map LV.d=(OW false).map (λx=>x.v.d)):m7 0 ls=0:=by
 have h:=(r0 (l:=0) (ei:=false) Pm vu AA).jZ;rw[LS]at h;exact wV h aI aI hd
theorem Oq (hd:ls.map LV.d=Nd.map (λx=>x.v.d)):m7 2 ls=0:=by
 have h:=Cj.Pb.2.1;rw[Li]at h;exact wV h aI aI hd
theorem Mx:gv ⟨3,0,0,0,0,0⟩ []=bT pT:=by decide+kernel
end
end Go.Proofs.Wit
