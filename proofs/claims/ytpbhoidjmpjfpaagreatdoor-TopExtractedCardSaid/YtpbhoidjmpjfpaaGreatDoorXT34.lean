/- What calls return, each under its own conditions. -/
import Derived.Test.YtpbhoidjmpjfpaaGreatDoorXT32
import Derived.Test.YtpbhoidjmpjfpaaGreatDoorXT33
set_option maxRecDepth 100000
set_option maxHeartbeats 40000000
namespace Go.Proofs.YtpbhoidjmpjfpaaGreatDoor
open Go.RowKit Go.Proofs.Wit Tryz
section
variable{i:Nat}{c:TC}{s:eF}
theorem HU   (h:fw s i=true/\(c.n i).op=5/\s &&& (bW (c.n i).x|||bW (c.n i).y)≠bW (c.n i).x|||bW (c.n i).y):DJ c s i=some (SD.mk s 2 i 0 [],[s|||bW (c.n i).x|||bW (c.n i).y]):=if_pos h
theorem MY   (h:fw s i=true/\(c.n i).op=9/\c.BA=true/\s &&& bW (c.n i).x=0#64):DJ c s i=some (SD.mk s 5 i 0 [],[s|||bW (c.n i).x]):=by
 unfold DJ;rw[if_neg (λg=>by have:=h.2.1;have:=g.2.1;omega),if_pos h]
theorem Kz   (h:¬(fw s i=true/\(c.n i).op=5/\s &&& (bW (c.n i).x|||bW (c.n i).y)≠bW (c.n i).x|||bW (c.n i).y))(h2:¬(fw s i=true/\(c.n i).op=9/\c.BA=true/\s &&& bW (c.n i).x=0#64)):DJ c s i=none:=by
 unfold DJ;rw[if_neg h,if_neg h2]
theorem Kx   (h:fw s i=true/\(c.n i).op=6/\s &&& (bW (c.n i).x|||bW (c.n i).y)=0#64):Gy c s i=some (SD.mk s 3 i 0 [],[s|||bW (c.n i).x,s|||bW (c.n i).y]):=if_pos h
theorem BV   (h:c.cut=true/\(c.n i).op=9/\fw s i=false/\fw s (c.m i)=false):Gy c s i=some (SD.mk s 4 i (c.m i) [],[s|||bW i,s|||bW (c.m i)]):=by
 unfold Gy;rw[if_neg (λg=>by have:=h.2.1;have:=g.2.1;omega),if_pos h]
theorem Ky   (h:¬(fw s i=true/\(c.n i).op=6/\s &&& (bW (c.n i).x|||bW (c.n i).y)=0#64))(h2:¬(c.cut=true/\(c.n i).op=9/\fw s i=false/\fw s (c.m i)=false)):Gy c s i=none:=by
 unfold Gy;rw[if_neg h,if_neg h2]
theorem D3(x:Tx)(c:TC)(vp vs:aC)(s:eF)(w:aB)(hR:IY w x c vp vs)(hb:eX c.b)(hn:c.ng.length=c.b.length)(hkn:∀i,i<c.b.length->(c.n i).op=9->0<=c.m i):Qqa 137 [aQ x.bs,U s] w
    (λv w'=>(∃y xs bl,kV c s=some (y,xs)/\v=.tuple #[LU y,.slice (aR bl) xs.length xs.length]/\jR w w' [(some bl,ob U 43 xs [])])\/(kV c s=none/\v=.tuple #[LU DG,.slice none 0 0])):=by
  obtain⟨bs,hbs⟩:∃b,b=x.bs:=⟨_,rfl⟩;have HB:∀{w':aB} {j:Nat} {u:aC},Ex [] w w'->(uu c.l (fL x.qb c.b.length x.cb) (fL x.qn c.ng.length x.cn) c.ag x.mr x.mo vp vs)[j]?=some u->w'.cell? ⟨bs,j,none⟩=some u:=λe h=>Ex.cell e (hbs ▸ hR.ie) h;have ha:=hR.fa;have T:=hR.na;have hrf:=λw' (e:Ex [] w w')=>JO x c vp vs w' (hR.ex e);rw[<-hbs]at hrf;obtain⟨C,hC⟩:∃C,C=c:=⟨_,rfl⟩;rw[<-hC];rw[<-hC]at hrf hkn;obtain⟨l,b,ng,ag⟩:=c;dsimp only at HB ha T hb hn⊢;have hlen:=hb.len;have hxy:∀k (hk:k<b.length),0<=b[k].x/\0<=b[k].y:=λk hk=>by
    have ho:=(eO.1 hb.oe).nodes k hk;constructor;cases e:iX b[k].op with
    |true=>exact(ho.x e).1
    |false=>rw[ho.x0 e];exact Int.le_refl _
    cases e:ij b[k].op with
    |true=>exact(ho.y e).1
    |false=>rw[ho.y0 e];exact Int.le_refl _
  have hnE:∀k (hk:k<b.length),C.n k=b[k]:=λk hk=>by rw[hC];exact jf hk
  have hmE:∀k (hk:k<ng.length),C.m k=ng[k]:=λk hk=>by rw[hC];unfold TC.m;simp[hk]
  have hCb:C.b.length=b.length:=by rw[hC]
  rw[hCb]at hkn;rw[<-hbs];refine gI func137 ?_;refine gY ?_;refine eB.fZ (λ_=>RL _) (λb4=>?_);refine gY ?_;refine eB.v (eD.iB (p:=⟨bs,1,none⟩) Rj (λw _ D=>HB D.ext rfl)) ?_;refine gY ?_;refine eB.loop (σ:=Nat) (λk=>[(0,aQ bs),(1,U s),(4,aQ b4),(19,fL x.qb b.length x.cb),(20,aS b.length),(21,aS k)]) (λ_=>[(some b4,.cells (SV.cells ⟨DG,none,0⟩).toArray 46 (0,0))]) (λk=>k<=b.length/\∀j,j<k->DJ C s j=none) (λk=>b.length - k) 0 ⟨aG,λj h=>absurd h (dK _)⟩ zT aD (λk hI IH=>?_);obtain⟨hk,N⟩:=hI;refine eG (λF:k<b.length=>?_) λhge:¬k<b.length=>?_;have hcb:k<C.b.length:=aH;have E:=hnE k F;obtain⟨x0,y0⟩:=hxy k F;refine gY ?_;refine eB.v (eD.gN Rf Q7 ⟨_,(ha).at_⟩ ry aI (k) ⟨rfl,F⟩) ?_;refine eB.v (eD.kM (cs:=NV.cells b[k]) Rn Q7 (λw _ D=>Sl.many (enc:=NV.cells) (sz:=6) (ha.eQ D.ext).at_ (λ_=>rfl) F)) ?_;refine eB.fZ (λ_=>Re _) (λb7=>?_);refine gY ?_;refine eB.fA Q7 0 ?_;refine gY ?_;refine eB.draw 8 mixed rfl ?_;refine rY ?_;refine fi.v (eD.bin (a:=U 1#64) rfl rfl rfl rfl (me b[k].x.toNat aH) rfl) ?_;refine rY ?_;refine fi.v (eD.bin (a:=U 1#64) rfl rfl rfl rfl (me b[k].y.toNat aH) rfl) ?_;refine rY ?_;refine fi.nil ?_;refine gY ?_;refine eB.v (eD.fU (bd46 (c:=[_,_,_,_,_]) rfl)) ?_;refine eB.fZ (λ_=>RL _) (λb10=>?_);refine eB.fA Ra 0 ?_;refine gE (gB (gS ?_))
  refine gq (α:={p:Bool // p=true↔(fw s k=true/\b[k].op=5/\s &&& (bW b[k].x|||bW b[k].y)≠bW b[k].x|||bW b[k].y)}) [] (λz=>[(0,aQ bs),(1,U s),(4,aQ b4),(6,aS k),(7,aQ b7),(8,U (bW b[k].x)),(9,U (bW b[k].y)),(10,aQ b10),(19,fL x.qb b.length x.cb),(20,aS b.length),(21,aS k),(35,.bool z.1)]) (λz=>[(some b10,.cells (SV.cells ⟨⟨s,0,k,0,[]⟩,none,0⟩).toArray 46 (0,0)),(some b7,.cells (NV.cells b[k]).toArray 88 (0,0)),(some b4,.cells (SV.cells ⟨DG,none,0⟩).toArray 46 (0,0))]) (λz=>?_) (λK=>?_);obtain⟨p,hp⟩:=z;dsimp only at hp⊢;refine lU (λhc=>?_) λhc=>?_;have h1:=hp.1 hc;rw[<-E]at h1;refine gY ?_;refine eB.qF Q6 0 ?_;refine gY ?_;refine eB.fR (c:=[_]) Rq Rm RI (λb62=>?_);refine eB.fA Ra 3 ?_;refine gY ?_;refine eB.js Tryz.f137 func137 _ (eS.cell rfl RH Ra (j:=3) rfl rfl (eS.tmp rfl eS.nil)) (λw' D=>?_);exact⟨D.ext,.inl ⟨_,_,b62,by rw[yb (re hcb N (HU h1))],by rw[E];rfl,jR.of (D.pick (pre':=[(some b62,ob U 43 [s|||bW (C.n k).x|||bW (C.n k).y] [])]) [0] aI (by rw[E];rfl))⟩⟩;have hp1:¬(fw s k=true/\b[k].op=5/\s &&& (bW b[k].x|||bW b[k].y)≠bW b[k].x|||bW b[k].y):=λh=>by have:=hp.2 h;rw[show p=false from hc]at this;cases this
  rw[<-E]at hp1;refine gS ?_;refine gq (α:={p:Bool // p=true↔(fw s k=true/\b[k].op=9/\C.BA=true/\s &&& bW b[k].x=0#64)}) [] (λz=>[(0,aQ bs),(1,U s),(4,aQ b4),(6,aS k),(7,aQ b7),(8,U (bW b[k].x)),(9,U (bW b[k].y)),(10,aQ b10),(19,fL x.qb b.length x.cb),(20,aS b.length),(21,aS k),(63,.bool z.1)]) (λz=>[(some b10,.cells (SV.cells ⟨⟨s,0,k,0,[]⟩,none,0⟩).toArray 46 (0,0)),(some b7,.cells (NV.cells b[k]).toArray 88 (0,0)),(some b4,.cells (SV.cells ⟨DG,none,0⟩).toArray 46 (0,0))]) (λz=>?_) (λK=>?_);obtain⟨q,hq⟩:=z;dsimp only at hq⊢;refine lU (λhc=>?_) λhc=>?_;have h1:=hq.1 hc;rw[<-E]at h1;refine gY ?_;refine eB.qF Q6 0 ?_;refine gY ?_;refine eB.fR (c:=[_]) Rq Rm RI (λb87=>?_);refine eB.fA Ra 3 ?_;refine gY ?_;refine eB.js Tryz.f137 func137 _ (eS.cell rfl RH Ra (j:=3) rfl rfl (eS.tmp rfl eS.nil)) (λw' D=>?_);exact⟨D.ext,.inl ⟨_,_,b87,by rw[yb (re hcb N (MY h1))],by rw[E];rfl,jR.of (D.pick (pre':=[(some b87,ob U 43 [s|||bW (C.n k).x] [])]) [0] aI (by rw[E];rfl))⟩⟩;have hp2:¬(fw s k=true/\b[k].op=9/\C.BA=true/\s &&& bW b[k].x=0#64):=λh=>by have:=hq.2 h;rw[show q=false from hc]at this;cases this
  rw[<-E]at hp2;refine gY ?_;exact IH (k+1) _ _ ⟨F,λj hj=>by
  by_cases e:j=k;subst e;exact Kz hp1 hp2;exact N j aH⟩ aH zT (.cons _ (.cons _ aD))
  refine gD call136 (λw _ D=>(by exact oP s (k:Int) w)) ?_;refine mu 67 (λhc=>?_) λhc=>?_;have Y:fw s k=true:=hc;refine fy 72 (λX:b[k].op=9=>?_) λX:¬b[k].op=9=>?_;refine gD call157 (λw _ D=>(by exact hrf w D.ext)) ?_;refine mu 76 (λhc=>?_) λhc=>?_;have g3:C.BA=true:=hc;refine gY ?_;refine eB.v (eD.bin (b:=U 0#64) rfl rfl rfl rfl z9 rfl) ?_;refine qQ ?_;refine lD ?_;exact K ⟨s &&& bW b[k].x==0#64,by simp[Y,X,g3]⟩ _ _ sF (λ_ _ D=>D);have g3:¬C.BA=true:=by rw[show C.BA=false from hc];decide
  iterate 4 refine nD ?_
  refine qA ?_;refine lD ?_;exact K ⟨false,by simp[g3]⟩ _ _ sF (λ_ _ D=>D)
  iterate 2 refine nD ?_
  refine qA ?_;refine uy ?_
  iterate 4 refine nD ?_
  refine qA ?_;refine lD ?_;exact K ⟨false,by simp[X]⟩ _ _ sF (λ_ _ D=>D);have Y:¬fw s k=true:=by rw[show fw s k=false from hc];decide
  iterate 3 refine nD ?_
  refine qA ?_;refine uy ?_
  iterate 2 refine nD ?_
  refine qA ?_;refine uy ?_
  iterate 4 refine nD ?_
  refine qA ?_;refine lD ?_;exact K ⟨false,by simp[Y]⟩ _ _ sF (λ_ _ D=>D);refine gD call136 (λw _ D=>(by exact oP s (k:Int) w)) ?_;refine mu 39 (λhc=>?_) λhc=>?_;have Y:fw s k=true:=hc;refine fy 44 (λX:b[k].op=5=>?_) λX:¬b[k].op=5=>?_
  iterate 3 refine uy ?_
  refine oM Ll ?_;refine oM Dv ?_
  iterate 2 refine uy ?_
  refine oM Ll ?_;refine oM IG ?_;refine qQ ?_;refine lD ?_;exact K ⟨s &&& (bW b[k].x|||bW b[k].y) !=(bW b[k].x|||bW b[k].y),by simp[Y,X]⟩ _ _ sF (λ_ _ D=>D)
  iterate 9 refine nD ?_
  refine qA ?_;refine lD ?_;exact K ⟨false,by simp[X]⟩ _ _ sF (λ_ _ D=>D);have Y:¬fw s k=true:=by rw[show fw s k=false from hc];decide
  iterate 3 refine nD ?_
  refine qA ?_;refine uy ?_
  iterate 9 refine nD ?_
  refine qA ?_;refine lD ?_;exact K ⟨false,by simp[Y]⟩ _ _ sF (λ_ _ D=>D);obtain rfl:k=b.length:=aH;have hlB:=BU (c:=C) (s:=s) (E7 (by rw[hCb];exact N));refine lE (gS ?_);refine gq (α:={p:Bool // p=C.cut}) [] (λz=>[(0,aQ bs),(1,U s),(4,aQ b4),(11,.bool z.1)]) (λz=>[(some b4,.cells (SV.cells ⟨DG,none,0⟩).toArray 46 (0,0))]) (λz=>?_) (λK=>?_);obtain⟨cu,hcu⟩:=z;dsimp only at hcu⊢;refine gY ?_;refine eB.v (eD.iB (p:=⟨bs,1,none⟩) Rj (λw _ D=>HB D.ext rfl)) ?_;refine gY ?_;refine eB.loop (σ:=Nat) (λk=>[(0,aQ bs),(1,U s),(4,aQ b4),(11,.bool cu),(104,fL x.qb b.length x.cb),(105,aS b.length),(106,aS k)]) (λ_=>[(some b4,.cells (SV.cells ⟨DG,none,0⟩).toArray 46 (0,0))]) (λk=>k<=b.length/\∀j,j<k->Gy C s j=none) (λk=>b.length - k) 0 ⟨aG,λj h=>absurd h (dK _)⟩ zT aD (λk hI IH=>?_);obtain⟨hk,N⟩:=hI;refine eG (λF:k<b.length=>?_) λhge:¬k<b.length=>?_;have M:k<ng.length:=aH;have hcb:k<C.b.length:=aH;have E:=hnE k F;have W:=hmE k M;obtain⟨x0,y0⟩:=hxy k F;have hm0:b[k].op=9->0<=ng[k]:=λh=>by have:=hkn k F (by rw[E];exact h);rwa[W]at this
  refine gY ?_;refine eB.v (eD.gN Rf Q7 ⟨_,(ha).at_⟩ ry aI (k) ⟨rfl,F⟩) ?_;refine eB.v (eD.kM (cs:=NV.cells b[k]) Rn Q7 (λw _ D=>Sl.many (enc:=NV.cells) (sz:=6) (ha.eQ D.ext).at_ (λ_=>rfl) F)) ?_;refine eB.fZ (λ_=>Re _) (λb13=>?_);refine gY ?_;refine eB.fA Q7 0 ?_;refine gY ?_;refine eB.draw 8 mixed rfl ?_;refine rY ?_;refine fi.v (eD.bin (a:=U 1#64) rfl rfl rfl rfl (me b[k].x.toNat aH) rfl) ?_;refine rY ?_;refine fi.v (eD.bin (a:=U 1#64) rfl rfl rfl rfl (me b[k].y.toNat aH) rfl) ?_;refine rY ?_;refine fi.nil ?_;refine gE (gB (gS ?_));refine gq (α:={p:Bool // p=true↔(fw s k=true/\b[k].op=6/\s &&& (bW b[k].x|||bW b[k].y)=0#64)}) [] (λz=>[(0,aQ bs),(1,U s),(4,aQ b4),(11,.bool cu),(12,aS k),(13,aQ b13),(14,U (bW b[k].x)),(15,U (bW b[k].y)),(104,fL x.qb b.length x.cb),(105,aS b.length),(106,aS k),(117,.bool z.1)]) (λz=>[(some b13,.cells (NV.cells b[k]).toArray 88 (0,0)),(some b4,.cells (SV.cells ⟨DG,none,0⟩).toArray 46 (0,0))]) (λz=>?_) (λK=>?_);obtain⟨p,hp⟩:=z;dsimp only at hp⊢;refine lU (λhc=>?_) λhc=>?_;have h1:=hp.1 hc;rw[<-E]at h1;refine gY ?_;refine eB.v (eD.fU (bd46 (c:=[_,_,_,_,_]) rfl)) ?_;refine gY ?_;refine eB.fR (c:=[_,_]) Rq Rm RI (λb143=>?_);refine eB.fA Ra 2 ?_;refine gY ?_;refine eB.js Tryz.f137 func137 _ (eS.cell rfl RH Ra (j:=2) rfl rfl (eS.tmp rfl eS.nil)) (λw' D=>?_)
  exact⟨D.ext,.inl ⟨_,_,b143,by rw[hlB];exact re hcb N (Kx h1),by rw[E];rfl,jR.of (D.pick (pre':=[(some b143,ob U 43 [s|||bW (C.n k).x,s|||bW (C.n k).y] [])]) [0] aI (by rw[E];rfl))⟩⟩;have hp1:¬(fw s k=true/\b[k].op=6/\s &&& (bW b[k].x|||bW b[k].y)=0#64):=λh=>by have:=hp.2 h;rw[show p=false from hc]at this;cases this
  rw[<-E]at hp1;refine gS ?_;refine gq (α:={p:Bool // p=true↔(C.cut=true/\b[k].op=9/\fw s k=false/\fw s ng[k]=false)}) [] (λz=>[(0,aQ bs),(1,U s),(4,aQ b4),(11,.bool cu),(12,aS k),(13,aQ b13),(104,fL x.qb b.length x.cb),(105,aS b.length),(106,aS k),(144,.bool z.1)]) (λz=>[(some b13,.cells (NV.cells b[k]).toArray 88 (0,0)),(some b4,.cells (SV.cells ⟨DG,none,0⟩).toArray 46 (0,0))]) (λz=>?_) (λK=>?_);obtain⟨q,hq⟩:=z;dsimp only at hq⊢;refine lU (λhc=>?_) λhc=>?_;have h1:=hq.1 hc;have h9:=hm0 h1.2.1;have hbk:bW (k:Int)=1#64<<<k:=by unfold bW;rw[c7]
  rw[<-E,<-W]at h1;refine gY ?_;refine qE 28 25 ([]) mixed ?_;refine ia.uZ (i:=0) (eD.mv rfl rfl rfl rfl) sL zC ?_;refine ia.uZ (i:=1) (eD.mv rfl rfl rfl rfl) sL zC ?_;refine ia.uZ (i:=2) (eD.mv rfl rfl rfl rfl) sL zC ?_;refine ia.uZ (i:=3) (eD.qP rfl rfl rfl rfl) sL zC ?_;refine ia.uZ (i:=4) (eD.lV rfl rfl rfl rfl underlying67 rfl (by exact RG) 2 rfl) sL zC ?_;refine ia.uZ (i:=5) (eD.iB (p:=⟨bs,2,none⟩) RF (λw _ D=>HB D.ext rfl)) sL zC ?_;refine ia.uZ (i:=6) (eD.mv rfl rfl rfl rfl) sL zC ?_;refine ia.uZ (i:=7) (fY rfl rfl rfl rfl rfl Q8 Q6 ⟨_,T⟩ aL (k) ⟨rfl,by simpa using M⟩) sL zC ?_;refine ia.uZ (i:=8) (eD.iB Q9 (λw _ D=>(mJ.eQ T D.ext).at (k) M)) sL zC ?_;refine ia.uZ (i:=9) (eD.fU (bd46 (c:=[_,_,_,_,_]) rfl)) sL zC ?_;refine ia.uZ (i:=10) (eD.mv rfl rfl rfl rfl) sL zC ?_;refine ia.uZ (i:=11) (eD.mv rfl rfl rfl rfl) sL zC ?_;refine ia.uZ (i:=12) (eD.bin (a:=U 1#64) rfl rfl rfl rfl (me k rfl) rfl) sL zC ?_;refine ia.uZ (i:=13) (eD.bin rfl rfl rfl rfl Ll rfl) sL zC ?_;refine ia.uZ (i:=14) (eD.mv rfl rfl rfl rfl) sL zC ?_;refine ia.uZ (i:=15) (eD.mv rfl rfl rfl rfl) sL zC ?_;refine ia.uZ (i:=16) (eD.qP rfl rfl rfl rfl) sL zC ?_;refine ia.uZ (i:=17) (eD.lV rfl rfl rfl rfl underlying67 rfl (by exact RG) 2 rfl) sL zC ?_;refine ia.uZ (i:=18) (eD.iB (p:=⟨bs,2,none⟩) RF (λw _ D=>HB D.ext rfl)) sL zC ?_;refine ia.uZ (i:=19) (eD.mv rfl rfl rfl rfl) sL zC ?_;refine ia.uZ (i:=20) (fY rfl rfl rfl rfl rfl Q8 Q6 ⟨_,T⟩ aL (k) ⟨rfl,by simpa using M⟩) sL zC ?_
  refine ia.uZ (i:=21) (eD.iB Q9 (λw _ D=>(mJ.eQ T D.ext).at (k) M)) sL zC ?_;refine ia.uZ (i:=22) (eD.bin (a:=U 1#64) rfl rfl rfl rfl (me ng[k].toNat aH) rfl) sL zC ?_;refine ia.uZ (i:=23) (eD.bin rfl rfl rfl rfl Ll rfl) sL zC ?_;refine ia.Ot (i':=24) (i:=25) rfl (ik.fR (c:=[_,_]) Rq Rm RI (λQ=>⟨zC,?_⟩)) rfl rfl rfl rfl rfl Ra 1 rfl rfl rfl rfl Ob ?_;refine ia.I5 (i:=25) rfl rfl rfl rfl rfl Ra 2 rfl rfl rfl rfl Ob ?_;refine ia.uZ (i:=26) (eD.Cu rfl rfl rfl rfl) sL Mb ?_;refine ia.done rfl ?_;refine gY ?_;refine eB.js Tryz.f137 func137 _ (eS.cell rfl RH Ra (j:=2) rfl rfl (eS.tmp rfl eS.nil)) (λw' D=>?_);exact⟨D.ext,.inl ⟨_,_,Q,by rw[hlB];exact re hcb N (BV h1),by rw[W];rfl,jR.of (D.pick (pre':=[(some Q,ob U 43 [s|||bW k,s|||bW (C.m k)] [])]) [0] aI (by rw[W,hbk];rfl))⟩⟩;refine ia.one (i:=24) rfl (ik.fR (c:=[_,_]) Rq Rm RI (λQ=>⟨Mb,?_⟩)) rfl;refine ia.uZ (i:=26) (eD.Cu rfl rfl rfl rfl) sL Mb ?_;refine ia.done rfl ?_;refine gY ?_;refine eB.js Tryz.f137 func137 _ (eS.cell rfl RH Ra (j:=2) rfl rfl (eS.tmp rfl eS.nil)) (λw' D=>?_);exact⟨D.ext,.inl ⟨_,_,Q,by rw[hlB];exact re hcb N (BV h1),by rw[W];rfl,jR.of (D.pick (pre':=[(some Q,ob U 43 [s|||bW k,s|||bW (C.m k)] [])]) [0] aI (by rw[W,hbk];rfl))⟩⟩;have hp2:¬(C.cut=true/\b[k].op=9/\fw s k=false/\fw s ng[k]=false):=λh=>by have:=hq.2 h;rw[show q=false from hc]at this;cases this
  rw[<-E,<-W]at hp2;refine gY ?_;exact IH (k+1) _ _ ⟨F,λj hj=>by
  by_cases e:j=k;subst e;exact Ky hp1 hp2;exact N j aH⟩ aH zT (.cons _ aD)
  refine mu 146 (λhc=>?_) λhc=>?_;have Y:C.cut=true:=by rw[<-hcu];exact hc
  refine fy 151 (λX:b[k].op=9=>?_) λX:¬b[k].op=9=>?_;refine gD call136 (λw _ D=>(by exact oP s (k:Int) w)) ?_;refine fy 157 (λg3:fw s k=false=>?_) λg3:¬fw s k=false=>?_;refine gY ?_;refine eB.v (eD.iB (p:=⟨bs,2,none⟩) RF (λw _ D=>HB D.ext rfl)) ?_;refine gY ?_;refine eB.v (fY rfl rfl rfl rfl rfl Q8 Q6 ⟨_,T⟩ aL (k) ⟨rfl,by simpa using M⟩) ?_;refine eB.v (eD.iB Q9 (λw _ D=>(mJ.eQ T D.ext).at (k) M)) ?_;refine q9 call136 (λw _ D=>(by exact oP s ng[k] w)) ?_;refine P9 Oq ?_;refine qQ ?_;refine lD ?_;exact K ⟨!fw s ng[k],by simp[Y,X,g3]⟩ _ _ sF (λ_ _ D=>D)
  iterate 10 refine nD ?_
  refine qA ?_;refine lD ?_;exact K ⟨false,by simp[g3]⟩ _ _ sF (λ_ _ D=>D)
  iterate 4 refine nD ?_
  refine qA ?_;refine uy ?_
  iterate 10 refine nD ?_
  refine qA ?_;refine lD ?_;exact K ⟨false,by simp[X]⟩ _ _ sF (λ_ _ D=>D);have Y:¬C.cut=true:=by rw[<-hcu,show cu=false from hc];decide
  iterate 3 refine nD ?_
  refine qA ?_;refine uy ?_
  iterate 4 refine nD ?_
  refine qA ?_;refine uy ?_
  iterate 10 refine nD ?_
  refine qA ?_;refine lD ?_;exact K ⟨false,by simp[Y]⟩ _ _ sF (λ_ _ D=>D);refine gD call136 (λw _ D=>(by exact oP s (k:Int) w)) ?_;refine mu 121 (λhc=>?_) λhc=>?_;have Y:fw s k=true:=hc;refine fy 126 (λX:b[k].op=6=>?_) λX:¬b[k].op=6=>?_;refine gY ?_;refine eB.v (eD.bin (b:=U 0#64) rfl rfl rfl rfl z9 rfl) ?_;refine qQ ?_;refine lD ?_;exact K ⟨s &&& (bW b[k].x|||bW b[k].y)==0#64,by simp[Y,X]⟩ _ _ sF (λ_ _ D=>D)
  iterate 6 refine nD ?_
  refine qA ?_;refine lD ?_;exact K ⟨false,by simp[X]⟩ _ _ sF (λ_ _ D=>D);have Y:¬fw s k=true:=by rw[show fw s k=false from hc];decide
  iterate 3 refine nD ?_
  refine qA ?_;refine uy ?_
  iterate 6 refine nD ?_
  refine qA ?_;refine lD ?_;exact K ⟨false,by simp[Y]⟩ _ _ sF (λ_ _ D=>D);obtain rfl:k=b.length:=aH;refine lE ?_;refine gY ?_;refine eB.v (eD.fU (bd46 (c:=[_,_,_,_,_]) rfl)) ?_;refine eB.fA Ra 0 ?_;refine gY ?_;refine eB.js Tryz.f137 func137 _ (eS.cell rfl RH Ra (j:=0) rfl rfl (eS.tmp rfl eS.nil)) (λw' D=>?_);exact⟨D.ext,.inr ⟨by rw[hlB];exact E7 (by rw[hCb];exact N),rfl⟩⟩;refine gY ?_;refine eB.v (eD.iB (p:=⟨bs,0,none⟩) Q9 (λw _ D=>HB D.ext rfl)) ?_;refine fy 94 (λe5:l=5=>?_) λe5:¬l=5=>?_
  iterate 5 refine nD ?_
  refine qQ ?_;refine lD ?_;exact K ⟨true,by rw[hC];simp[TC.cut,e5]⟩ _ _ sF (λ_ _ D=>D);refine gY ?_;refine eB.v (eD.iB (p:=⟨bs,0,none⟩) Q9 (λw _ D=>HB D.ext rfl)) ?_;refine oM Ct ?_;refine qA ?_;refine lD ?_;exact K ⟨l==6,by rw[hC];simp[TC.cut,e5]⟩ _ _ sF (λ_ _ D=>D)
end
section
variable{l:Int}{b:List NV}{ss:List SV}
theorem Cd   :(∀(k:Nat) (hk:k<(iu ss).length),ir l b (iu ss) k (iu ss)[k])↔∀(k:Nat) (hk:k<ss.length),ir l b (iu ss) k ss[k].d:=by
 constructor;intro h k hk;have:=h k (by rw[fD];exact hk);rwa[lP hk]at this;intro h k hk;rw[fD]at hk;rw[lP hk];exact h k hk
theorem Mx   (h:jT l b ss.length≠0):py l b (iu ss)=jT l b ss.length:=by
 have e:jT l b (iu ss).length=jT l b ss.length:=by rw[fD]
 unfold py;rw[if_pos (by rw[e];exact h),e]
theorem Mw   (h:¬jT l b ss.length≠0)(h2:∀(k:Nat) (hk:k<ss.length),ir l b (iu ss) k ss[k].d):py l b (iu ss)=0:=by
 have e:jT l b (iu ss).length=jT l b ss.length:=by rw[fD]
 unfold py;rw[if_neg (by rw[e];exact h),if_pos (Cd.2 h2)]
theorem Mv   (h:¬jT l b ss.length≠0)(h2:¬∀(k:Nat) (hk:k<ss.length),ir l b (iu ss) k ss[k].d):py l b (iu ss)=13:=by
 have e:jT l b (iu ss).length=jT l b ss.length:=by rw[fD]
 unfold py;rw[if_neg (by rw[e];exact h),if_neg (λg=>h2 (Cd.1 g))]
theorem ow(l:Int)(A:ae)(cA:Nat)(b:List NV)(B:ae)(cB:Nat)(ss:List SV)(w:aB)(F:FA w A b)(J:Bh w B ss)(E:b.length<=maxLen)(C:ss.length<=maxLen):
    Qqa 8 [.agg (gu l A b.length cA B ss.length cB)] w (λv _=>v=aS (py l b (iu ss))):=by
  refine gI func8 ?_;refine gY ?_;refine eB.sZ (λO=>?_);refine gD call25 (λw _ p=>(by exact Bx l A cA b B ss.length cB w (F.eQ p.ext) E)) ?_;refine eG (λh1:jT l b ss.length≠0=>?_) λh1:¬jT l b ss.length≠0=>?_;refine eN func8 λw' p=>?_;exact⟨p.ext,by rw[Mx h1];rfl⟩;refine fX call26 (λw _ p=>(by exact CS l A cA b B cB ss w (F.eQ p.ext) (J.eQ p.ext) E C)) ?_;rintro v N M P p he ⟨r,rfl,D⟩;refine⟨_,p.later he,?_⟩;refine eG (λh2:0<=r=>?_) λh2:¬0<=r=>?_;refine eN func8 λw' p=>?_;exact⟨p.ext,by rw[Mv h1 (D.1 h2).2];rfl⟩;have K:∀(k:Nat) (hk:k<ss.length),ir l b (iu ss) k ss[k].d:=bh λh=>h2 (D.2 ⟨bh λe=>h1 e,h⟩);refine eN func8 λw' p=>?_;exact⟨p.ext,by rw[Mw h1 K];rfl⟩
end
theorem l7(i:Int)(w:aB)(hi:0<=i):Qqa 100 [aS i] w (λv _=>v=U (bW i)):=by
 refine gI func100 ?_;refine gY ?_;refine eB.v (eD.bin (a:=U 1#64) rfl rfl rfl rfl (me i.toNat aH) rfl) ?_;refine eN func100 λw' h=>?_;exact⟨h.ext,rfl⟩
def j6(s:eF)(k:Nat):aq:=(List.range k).filter (λi=>s.getLsbD i)
theorem m7{s:eF}{k:Nat}:j6 s (k+1)=j6 s k++(if s.getLsbD k=true then [k]else []):=by
 unfold j6;rw[dJ,List.filter_append];by_cases h:s.getLsbD k=true<;>simp[h]
theorem oy{s:eF}{k:Nat}:(j6 s k).length<=k:=by
 have:=List.length_filter_le (λi=>s.getLsbD i) (List.range k);simpa[j6]using this
theorem pA(s:eF)(w:aB):Qqa 65 [U s] w (λv w'=>sT fH 3 w w' v (iL (jd s))):=by
  obtain⟨W,K,J,C,F⟩:=info_parts vM;refine gI func65 ?_;refine gY ?_;refine eB.gi (ob fH 3 [] []) ?_;refine eB.loop (σ:=Nat×ah×Nat×ai×Hl) (λz=>[(0,U s),(3,fL z.2.1 (iL (j6 s z.1)).length z.2.2.1),(5,aS z.1)])
    (λz=>[(z.2.1,ob fH 3 (iL (j6 s z.1)) z.2.2.2.1)]++z.2.2.2.2)
    (λz=>z.1<=64/\(z.2.1=none->(iL (j6 s z.1)).length=0/\z.2.2.1=0)/\((iL (j6 s z.1)).map fH++z.2.2.2.1).length=z.2.2.1)
    (λz=>64 - z.1) (0,none,0,[],[]) ⟨aG,λ_=>⟨rfl,rfl⟩,rfl⟩ zT aD (λz S M=>?_);obtain⟨k,q,cap,sp,H⟩:=z;obtain⟨hk,hq,eK⟩:=S;dsimp only at hk hq eK M⊢;have O:=@oy s k;have P:=@mG (j6 s k);refine eG (λE:k<64=>?_) λQ:¬k<64=>?_;refine gY ?_;refine mC rfl rfl rfl rfl (FZ k rfl) ?_;refine eB.v (eD.bin (b:=U 1#64) rfl rfl rfl rfl Dv rfl) ?_;refine eB.v (eD.bin (b:=U 1#64) rfl rfl rfl rfl z9 rfl) ?_;refine lU (λhc=>?_) λhc=>?_;have hb:s.getLsbD k=true:=by rw[<-uP];exact hc
  have h:j6 s (k+1)=j6 s k++[k]:=by rw[m7,if_pos hb]
  have D:iL (j6 s (k+1))=iL (j6 s k)++[(k:Int)]:=by rw[h];simp[iL]
  refine gY ?_;refine eB.fR (c:=[_]) Q8 Q6 Ri (λT=>?_);refine gX fH (news:=[(k:Int)]) (spn:=[]) (xs:=iL (j6 s k)) (sp:=sp) (q:=q) rfl rfl rfl rfl rfl Q8 K J C rfl hq 1 rfl 0 rfl eK rfl aI (λ_=>rfl) oK (by rw[F];omega) (λb' sp' cap' p=>?_);refine gY ?_;refine eB.jq (pre:=[_,_]) (pre':=[_]) H [1] aI rfl ?_;rw[<-D]at p⊢;exact M (k+1,some b',cap',sp',H) _ _ ⟨E,aK,p⟩ aM ⟨rfl,by dsimp only;rw[D,cQ];rfl,rfl,ez⟩ aD;have hb:¬s.getLsbD k=true:=by rw[<-uP,show(s>>>k &&& 1#64==1#64)=false from hc];decide
  have h:j6 s (k+1)=j6 s k:=by rw[m7,if_neg hb,dC]
  refine gY ?_;exact M (k+1,q,cap,sp,H) _ _ ⟨E,by dsimp only;rw[h];exact hq,by dsimp only;rw[h];exact eK⟩ aM ⟨rfl,by dsimp only;rw[h];rfl,rfl,ez⟩ (by dsimp only;rw[h];exact aD);obtain rfl:k=64:=aH;refine lE ?_;refine eN func65 λw' N=>?_;exact⟨N.ext,sT.mk N 0 rfl rfl hq eK⟩
theorem yR(l:Int)(A:ae)(cA:Nat)(b:List NV)(B:ae)(F cB:Nat)(x:SV)(w:aB)(E:FA w A b)(ho:x.d.eM≠7->0<=x.d.on/\x.d.on<b.length):
    Qqa 109 [.agg (gu l A b.length cA B F cB),.agg x.cells.toArray] w (λv _=>v=aS (if x.d.eM=7 then x.d.on else(nd b x.d.on).i)):=by
  refine gI func109 ?_;refine gY ?_;refine eB.sZ (λN=>?_);refine eB.sZ (λM=>?_);refine eG (λC:x.d.eM=7=>?_) λC:¬x.d.eM=7=>?_;refine eN func109 λw' p=>?_;exact⟨p.ext,by rw[if_pos C];rfl⟩;obtain⟨K,J⟩:=ho C;obtain⟨k,hk⟩:∃k:Nat,x.d.on=(k:Int):=⟨x.d.on.toNat,aH⟩;have h:k<b.length:=aH;have D:nd b x.d.on=b[k]:=by rw[hk,jf h]
  refine gY ?_;refine eB.v (eD.gN Rf Q7 ⟨_,(E).at_⟩ ry aI (k) ⟨hk,h⟩) ?_;refine eB.v (eD.kq Rw Q6 ((k)*6+1)) ?_;refine eB.v (eD.iB Q9 (λw _ p=>Sl.pq (enc:=NV.cells) (sz:=6) ((E).eQ p.ext).at_ (λ_=>rfl) h rfl)) ?_;refine eN func109 λw' p=>?_;exact⟨p.ext,by rw[if_neg C,D];rfl⟩
theorem wO(A:ae)(cA:Nat)(b:List NV)(s:eF)(ag:Int)(n:Nat)(w:aB)(W:FA w A b)(hs:iA b s):
    Qqa 111 [.slice A b.length cA,U s,aS ag,aS n] w (λv _=>v=aS (iR b s ag n)):=by
  refine gI func111 ?_;refine fX call65 (λw _ J=>(by exact pA s w)) ?_;rintro v w1 w2 Y' J he ho;obtain⟨q,cap,sp,rfl,hq,eK,hS'⟩:=xk J he ho;refine⟨_,hS',?_⟩;refine gY ?_;have Q:=@mG (jd s);have hp64:(jd s).length<=64:=@oy s 64;refine eB.loop (σ:=Nat) (λk=>[(0,.slice A b.length cA),(2,aS ag),(3,aS n),(12,fL q (iL (jd s)).length cap),(13,aS (iL (jd s)).length),(14,aS k)])
    (λ_=>[(q,ob fH 3 (iL (jd s)) sp)]) (λk=>k<=(jd s).length/\∀(m:Nat) (hm:m<(jd s).length),m<k->CB b ag n (jd s)[m]) (λk=>(jd s).length - k) 0 ⟨aG,λm _ h=>absurd h (dK _)⟩ zT aD (λk hK IH=>?_);obtain⟨hk,C⟩:=hK;refine lU (λhc=>?_) λhc=>?_;have E:k<(jd s).length:=by rw[Q]at hc;simpa using hc
  have O:k<(iL (jd s)).length:=by rw[Q];exact E
  obtain⟨p,hp⟩:∃p,p=(jd s)[k]:=⟨_,rfl⟩;have X:s.getLsbD p=true:=gH.1 (by rw[hp];exact dq E);have D:p<b.length:=hs p X;have M:(iL (jd s)).getD k 0=(p:Int):=by rw[tH E,<-hp]
  have F:nd b p=b[p]:=jf D;have N:∀j,j<p->s.getLsbD j=true->(nd b j).op=9->(nd b j).i=ag->(nd b j).x≠n:=λj hj P=>by
    obtain⟨m,hm,h1,h2⟩:=AA E P (by rw[<-hp];exact hj);have:=C m hm h1;rwa[h2]at this
  obtain⟨bq,rfl⟩:∃b,q=some b:=by
    cases q with
    |none=>have:=(hq rfl).1;omega
    |some b=>exact⟨b,rfl⟩
  refine gY ?_;refine eB.v (eD.ga Q8 Q6 (k) ⟨rfl,O⟩) ?_;refine eB.v (eD.nZ fH 0 Q9 0 O) ?_;refine gY ?_;refine eB.v (eD.gN Rf Q7 ⟨_,(W).at_⟩ ry aI (p) ⟨M,D⟩) ?_;refine eB.v (eD.kq Rw Q6 ((p)*6+0)) ?_;refine eB.v (eD.iB Q9 (λw _ J=>Sl.pq (enc:=NV.cells) (sz:=6) ((W).eQ J.ext).at_ (λ_=>rfl) D rfl)) ?_;refine fy 24 (λh9:b[p].op=9=>?_) λh9:¬b[p].op=9=>?_;refine gY ?_;refine eB.v (eD.gN Rf Q7 ⟨_,(W).at_⟩ ry aI (p) ⟨M,D⟩) ?_;refine eB.v (eD.kq Rw Q6 ((p)*6+1)) ?_;refine eB.v (eD.iB Q9 (λw _ J=>Sl.pq (enc:=NV.cells) (sz:=6) ((W).eQ J.ext).at_ (λ_=>rfl) D rfl)) ?_;refine fy 33 (λT:b[p].i=ag=>?_) λT:¬b[p].i=ag=>?_;refine gY ?_;refine eB.v (eD.gN Rf Q7 ⟨_,(W).at_⟩ ry aI (p) ⟨M,D⟩) ?_;refine eB.v (eD.kq Rw Q6 ((p)*6+4)) ?_;refine eB.v (eD.iB Q9 (λw _ J=>Sl.pq (enc:=NV.cells) (sz:=6) ((W).eQ J.ext).at_ (λ_=>rfl) D rfl)) ?_;refine eG (λS:b[p].x=n=>?_) λS:¬b[p].x=n=>?_;refine eN func111 λw' J=>?_;exact⟨J.ext,by rw[M,G7 D X (by rw[F];exact h9) (by rw[F];exact T) (by rw[F];exact S) N];rfl⟩;have K:CB b ag n p:=λ_ _=>by rw[F];exact S
  refine gY ?_;refine IH (k+1) _ _ ⟨E,λm hm Y=>?_⟩ aH zT aD;by_cases e:m=k;subst e;rw[<-hp];exact K;exact C m hm aH;have K:CB b ag n p:=λ_ h=>absurd (by rw[F]at h;exact h) T;refine gY ?_;refine wM ?_;refine gY ?_;refine IH (k+1) _ _ ⟨E,λm hm Y=>?_⟩ aH zT aD;by_cases e:m=k;subst e;rw[<-hp];exact K;exact C m hm aH;have K:CB b ag n p:=λh=>absurd (by rw[F]at h;exact h) h9;refine gY ?_;refine wM ?_;refine gY ?_;refine IH (k+1) _ _ ⟨E,λm hm Y=>?_⟩ aH zT aD;by_cases e:m=k;subst e;rw[<-hp];exact K;exact C m hm aH;have hge:¬k<(jd s).length:=by rw[Q]at hc;simpa using hc
  refine lE ?_;refine eN func111 λw' J=>?_
  exact⟨J.ext,by rw[G5 (λj _ P h1 h2=>by
  obtain⟨m,hm,e⟩:=cz.1 (gH.2 P);have:=C m hm aH;rw[e]at this;exact this h1 h2)];rfl⟩
def y4(b:List NV)(s:eF)(ag:Int)(p:eF)(k:Nat):eF:=((jd p).take k).foldl (λo n=>o|||1#64<<<iR b s ag n) 0#64
theorem Aw{b:List NV}{s p:eF}{ag:Int}{k:Nat}(hk:k<(jd p).length):y4 b s ag p (k+1)=y4 b s ag p k|||1#64<<<iR b s ag (jd p)[k]:=by
 unfold y4;rw[aU hk,List.foldl_append];rfl
theorem u0(l:Int)(A:ae)(cA:Nat)(b:List NV)(B:ae)(J cB:Nat)(x:SV)(p:eF)(w:aB)(S:FA w A b)(hs:iA b x.d.set)(ho:x.d.eM≠7->0<=x.d.on/\x.d.on<b.length):
    Qqa 101 [.agg (gu l A b.length cA B J cB),.agg x.cells.toArray,U p] w (λv _=>v=U (D9 b x.d.set (if x.d.eM=7 then x.d.on else(nd b x.d.on).i) p)):=by
  obtain⟨ag,F⟩:∃ag,ag=(if x.d.eM=7 then x.d.on else(nd b x.d.on).i):=⟨_,rfl⟩;rw[<-F];have P:(jd p).length<=64:=@oy p 64;have E:=@mG (jd p);refine gI func101 ?_;refine gY ?_;refine eB.bx rfl rfl rfl rfl (λW=>?_);refine eB.bx rfl rfl rfl rfl (λT=>?_);refine gY ?_;refine gM rfl rfl rfl rfl rfl call65 (λw _ C=>(by exact pA p w)) ?_;rintro v w1 w2 Y' C he K;obtain⟨q,cap,sp,rfl,hq,eK,O⟩:=xk C he K;refine⟨_,O,?_⟩;refine gY ?_;refine eB.loop (σ:=Nat) (λk=>[(3,aQ W),(4,aQ T),(7,U (y4 b x.d.set ag p k)),(11,fL q (iL (jd p)).length cap),(12,aS (iL (jd p)).length),(13,aS k)])
    (λ_=>[(q,ob fH 3 (iL (jd p)) sp),(some T,.cells (SV.cells x).toArray 46 (0,0)),(some W,.cells (gu l A b.length cA B J cB) 26 (0,0))]) (λk=>k<=(jd p).length) (λk=>(jd p).length - k) 0 aG zT aD (λk hk Y=>?_);refine lU (λhc=>?_) λhc=>?_;have h:k<(jd p).length:=by rw[E]at hc;simpa using hc
  have D:k<(iL (jd p)).length:=by rw[E];exact h
  obtain⟨n,Q⟩:∃n,n=(jd p)[k]:=⟨_,rfl⟩;have M:(iL (jd p)).getD k 0=(n:Int):=by rw[tH h,<-Q]
  have N:bW ((iR b x.d.set ag n:Nat):Int)=1#64<<<iR b x.d.set ag n:=by unfold bW;rw[c7]
  obtain⟨bq,rfl⟩:∃b,q=some b:=by
    cases q with
    |none=>have:=(hq rfl).1;omega
    |some b=>exact⟨b,rfl⟩
  refine gY ?_;refine eB.v (kh rfl rfl rfl rfl rfl Q8 Q6 (k) ⟨rfl,D⟩) ?_;refine eB.v (lu fH 0 rfl rfl rfl rfl Q9 0 rfl D) ?_;refine gY ?_;refine fE 14 mixed ?_;refine cY ?_;refine fh.qS (i:=7) rfl rfl rfl rfl rfl rfl call109 (λw _ C=>(by have:=yR l A cA b B J cB x w (S.eQ C.ext) ho;rw[<-F]at this;exact this)) sL ?_;refine fh.qS (i:=9) rfl rfl rfl rfl rfl rfl call111 (λw _ C=>(by rw[M];exact wO A cA b x.d.set ag n w (S.eQ C.ext) hs)) sL ?_;refine fh.qS (i:=10) rfl rfl rfl rfl rfl rfl call100 (λw _ C=>(by exact l7 ((iR b x.d.set ag n:Nat):Int) w aH)) sL ?_;refine cY ?_;refine kK ?_;refine gY ?_;exact Y (k+1) _ _ h aH ⟨rfl,rfl,by rw[Aw h,<-Q,<-N];rfl,rfl,rfl,rfl,ez⟩ aD;have X:¬k<(jd p).length:=by rw[E]at hc;simpa using hc
  obtain rfl:k=(jd p).length:=aH;refine lE ?_;refine eN func101 λw' C=>?_;exact⟨C.ext,by rw[y4,dx];rfl⟩
section
variable{l:Int}{b:List NV}{ss:List SD}{k:Nat}{x:SD}
theorem mm     (h:ir l b ss k x)(h1:x.eM≠1):0<x.fr.length:=by
 rcases h.2 with⟨e,_⟩|⟨_,_,_,h⟩|⟨_,_,_,h⟩|⟨_,_,_,_,h⟩|⟨_,_,_,_,h⟩|⟨_,_,_,h⟩|⟨_,_,_,_,h⟩;exact absurd e h1
 all_goals (rw[lI]at h;have:=h.1;simp at this;omega)
theorem sH     (h:ir l b ss k x)(h1:x.eM=3\/x.eM=4):1<x.fr.length:=by
 rcases h.2 with⟨e,_⟩|⟨e,_⟩|⟨_,_,_,h⟩|⟨_,_,_,_,h⟩|⟨e,_⟩|⟨e,_⟩|⟨e,_⟩;omega;omega;rw[lI]at h;have:=h.1;simp at this;omega;rw[lI]at h;have:=h.1;simp at this;omega
 all_goals omega
theorem yw     (h:ir l b ss k x)(h1:x.eM=2\/x.eM=3\/x.eM=5\/x.eM=6):(nd b x.on).op=if x.eM=2 then 5 else if x.eM=3 then 6 else if x.eM=5 then 9 else 10:=by
 rcases h.2 with⟨e,_⟩|⟨e,_,g,_⟩|⟨e,_,g,_⟩|⟨e,_⟩|⟨e,_,_,g,_⟩|⟨e,_,g,_⟩|⟨e,_⟩;omega;rw[g.2.2,if_pos e];rw[g.2.2,if_neg aH,if_pos e];omega;rw[g.2.2,if_neg aH,if_neg aH,if_pos e];rw[g.2.2,if_neg aH,if_neg aH,if_neg aH];omega
theorem GH(l:Int)(A:ae)(cA:Nat)(b:List NV)(B:ae)(nB cB:Nat)(x:SV)(ss:List SD)(k:Nat)(Z:ae)(cZ:Nat)(O:List eF)(w:aB)(hA:FA w A b)(hb:eX b)(Y:mJ w x.fa x.d.fr)(hZ:Bi w Z O)(hbf:O.length=k)(E:ir l b ss k x.d)(hfl:x.d.fr.length<=2):
    Qqa 56 [.agg (gu l A b.length cA B nB cB),.agg x.cells.toArray,.slice Z O.length cZ] w (λv _=>v=U (nV b x.d O)):=by
  have hfi:∀(j:Nat) (hj:j<x.d.fr.length),∃p:Nat,x.d.fr[j]=(p:Int)/\p<O.length:=λj hj=>by
    have:=E.pM (dq hj);exact⟨x.d.fr[j].toNat,aH,aH⟩
  obtain⟨T,hp0⟩:∃T,T=(if 0<x.d.fr.length then O.getD (x.d.fr.getD 0 0).toNat 0#64 else 0#64):=⟨_,rfl⟩;obtain⟨q0,hq0⟩:∃q0,q0=(if 1<x.d.fr.length then O.getD (x.d.fr.getD 1 0).toNat 0#64 else 0#64):=⟨_,rfl⟩;have hP:x.d.eM≠1->O.getD (x.d.fr.getD 0 0).toNat 0#64=T:=λh=>by rw[hp0,if_pos (mm E h)]
  have hQ:x.d.eM=3\/x.d.eM=4->O.getD (x.d.fr.getD 1 0).toNat 0#64=q0:=λh=>by rw[hq0,if_pos (sH E h)]
  refine gI func56 ?_;refine gY ?_;refine eB.sZ (λb3=>?_);refine eB.sZ (λb4=>?_);refine eB.v (eD.Cu (v:=U 0#64) rfl rfl rfl rfl) ?_;refine gE (gS (gR ?_))
  iterate 2 refine eB.v (eD.Cu (v:=U 0#64) rfl rfl rfl rfl) ?_
  refine gE (gS ?_);refine gp (α:=Unit) (λ_=>[(2,.slice Z O.length cZ),(3,aQ b3),(4,aQ b4),(7,U T),(8,U 0#64)]) (λ_=>[(some b4,.cells (SV.cells x).toArray 46 (0,0)),(some b3,.cells (gu l A b.length cA B nB cB) 26 (0,0))]) (λ_=>?_) (λK=>?_);refine gS ?_;refine gp (α:=Unit) (λ_=>[(2,.slice Z O.length cZ),(3,aQ b3),(4,aQ b4),(7,U T),(8,U q0)]) (λ_=>[(some b4,.cells (SV.cells x).toArray 46 (0,0)),(some b3,.cells (gu l A b.length cA B nB cB) 26 (0,0))]) (λ_=>?_) (λK=>?_);refine eG (λS:x.d.eM=4=>?_) λS:¬x.d.eM=4=>?_;obtain⟨e0,h3,_⟩:=(sI E.1 S).1 E;have ho:=(uH.1 h3).1;refine gY ?_;refine fE 13 mixed ?_;refine cY ?_;refine fh.iJ (i:=3) call100 (λw _ C=>(by exact l7 x.d.on w ho.1)) sL ?_;refine cY ?_;refine fh.iJ (i:=8) call100 (λw _ C=>(by exact l7 x.d.e w e0)) sL ?_;refine cY ?_;refine kK ?_;refine eN func56 λw' C=>?_;exact⟨C.ext,by rw[nV,if_neg (show ¬x.d.eM=1 by omega),if_pos S,hP aH,hQ (.inr S)];rfl⟩;refine eG (λQ:x.d.eM=7=>?_) λQ:¬x.d.eM=7=>?_;refine gD call101 (λw _ C=>(by exact u0 l A cA b B nB cB x T w (hA.eQ C.ext) E.1 (λh=>absurd Q h))) ?_;refine eN func56 λw' C=>?_;exact⟨C.ext,by rw[if_pos Q,nV,if_neg (show ¬x.d.eM=1 by omega),if_neg S,if_pos Q,hP aH];rfl⟩;have hon:0<=x.d.on/\x.d.on<b.length:=by
    rcases E.2 with⟨_,_,h|h⟩|⟨_,_,h,_⟩|⟨_,_,h,_⟩|⟨e,_⟩|⟨_,_,_,h,_⟩|⟨_,_,h,_⟩|⟨e,_⟩;obtain⟨o,q1,q2,_⟩:=h.1.nat hb;omega;obtain⟨o,q1,_⟩:=lk.1 h.1;have:=h.2.1;omega;obtain⟨o,q1,q2,_⟩:=h.nat hb;omega;obtain⟨o,q1,q2,_⟩:=h.nat hb;omega;exact absurd e S;obtain⟨o,q1,q2,_⟩:=h.nat hb;omega;obtain⟨o,q1,q2,_⟩:=h.nat hb;omega;exact absurd e Q
  obtain⟨o,ho⟩:∃o:Nat,x.d.on=(o:Int):=⟨x.d.on.toNat,aH⟩;have D:o<b.length:=aH;have F:nd b x.d.on=b[o]:=by rw[ho,jf D]
  refine gK (gS ?_);refine gq (α:=Nat) [10,11] (λq=>[(3,aQ b3),(4,aQ b4),(7,U T),(8,U q0),(9,aQ q),(59,.agg (NV.cells b[o]).toArray),(62,U (bW x.d.on))]) (λq=>[(some q,.cells (NV.cells LQ).toArray 88 (0,0)),(some b4,.cells (SV.cells x).toArray 46 (0,0)),(some b3,.cells (gu l A b.length cA B nB cB) 26 (0,0))]) (λb9=>?_) (λK=>?_);refine eB.fA Q7 0 ?_;refine eG (λX:x.d.eM=2=>?_) λX:¬x.d.eM=2=>?_;have M:=yw E (.inl X);rw[F,if_pos X]at M;have hx:=hb.x D (by rw[jf D];omega);have hy:=hb.y D (by rw[jf D];omega);rw[jf D]at hx hy;refine gY ?_;refine fE 13 mixed ?_;refine cY ?_;refine fh.iJ (i:=3) call100 (λw _ C=>(by exact l7 b[o].x w hx.1)) sL ?_;refine fh.iJ (i:=6) call100 (λw _ C=>(by exact l7 b[o].y w hy.1)) sL ?_;refine cY ?_;refine kK ?_;refine eN func56 λw' C=>?_;exact⟨C.ext,by rw[nV,if_neg (show ¬x.d.eM=1 by omega),if_neg S,if_neg Q,if_pos X,hP aH,F];rfl⟩;refine eG (λW:x.d.eM=3=>?_) λW:¬x.d.eM=3=>?_;have M:=yw E (.inr (.inl W));rw[F,if_neg (show ¬x.d.eM=2 by omega),if_pos W]at M;have hx:=hb.x D (by rw[jf D];omega);have hy:=hb.y D (by rw[jf D];omega);rw[jf D]at hx hy;refine gY ?_;refine fE 15 mixed ?_;refine cY ?_;refine fh.iJ (i:=3) call100 (λw _ C=>(by exact l7 b[o].x w hx.1)) sL ?_;refine cY ?_;refine fh.iJ (i:=8) call100 (λw _ C=>(by exact l7 b[o].y w hy.1)) sL ?_;refine cY ?_;refine kK ?_;refine eN func56 λw' C=>?_
  exact⟨C.ext,by rw[nV,if_neg (show ¬x.d.eM=1 by omega),if_neg S,if_neg Q,if_neg X,if_pos W,hP aH,hQ (.inl W),F];rfl⟩;refine eG (λr5:x.d.eM=5=>?_) λr5:¬x.d.eM=5=>?_;have M:=yw E (.inr (.inr (.inl r5)));rw[F,if_neg X,if_neg W,if_pos r5]at M;have hx:=hb.x D (by rw[jf D];omega);rw[jf D]at hx;refine gD call100 (λw _ C=>(by exact l7 b[o].x w hx.1)) ?_;refine eN func56 λw' C=>?_;exact⟨C.ext,by rw[nV,if_neg (show ¬x.d.eM=1 by omega),if_neg S,if_neg Q,if_neg X,if_neg W,if_pos r5,hP aH,F];rfl⟩;refine eG (λr6:x.d.eM=6=>?_) λr6:¬x.d.eM=6=>?_;have M:=yw E (.inr (.inr (.inr r6)));rw[F,if_neg X,if_neg W,if_neg r5]at M;have hx:=hb.x D (by rw[jf D];omega);rw[jf D]at hx;refine gY ?_;refine fE 12 mixed ?_;refine cY ?_;refine fh.iJ (i:=5) call100 (λw _ C=>(by exact l7 b[o].x w hx.1)) sL ?_;refine cY ?_;refine fh.iJ (i:=7) call101 (λw _ C=>(by have:=u0 l A cA b B nB cB x (T &&& ~~~ bW b[o].x) w (hA.eQ C.ext) E.1 (λ_=>hon);rw[if_neg Q,F]at this;exact this)) sL ?_;refine cY ?_;refine kK ?_;refine eN func56 λw' C=>?_;exact⟨C.ext,by rw[nV,if_neg (show ¬x.d.eM=1 by omega),if_neg S,if_neg Q,if_neg X,if_neg W,if_neg r5,hP aH,F];rfl⟩;have r1:x.d.eM=1:=by
    rcases E.2 with⟨e,_⟩|⟨e,_⟩|⟨e,_⟩|⟨e,_⟩|⟨e,_⟩|⟨e,_⟩|⟨e,_⟩<;>omega
  have hcl:=(A5.1 ((A2 E.1 r1).1 E)).2;refine eG (λh2:b[o].op=2=>?_) λh2:¬b[o].op=2=>?_;refine eN func56 λw' C=>?_;exact⟨C.ext,by rw[nV,if_pos r1,F,if_pos h2];rfl⟩;have he:0<=x.d.e:=by
    rcases hcl with h|h;omega;obtain⟨e,q1,_⟩:=lk.1 h.2.2.1;omega
  refine gD call100 (λw _ C=>(by exact l7 x.d.e w he)) ?_;refine eN func56 λw' C=>?_;exact⟨C.ext,by rw[nV,if_pos r1,F,if_neg h2];rfl⟩;refine eB.pO 8 13 [(some b4,.cells (SV.cells x).toArray 46 (0,0)),(some b3,.cells (gu l A b.length cA B nB cB) 26 (0,0))] sL mixed rfl ?_;refine jX.v (eD.lV rfl rfl rfl rfl underlying26 rfl (by exact Rb) 1 rfl) ?_;refine jX.v (eD.ux rfl rfl rfl rfl Rj 1 rfl rfl) ?_;refine jX.v (eD.lV rfl rfl rfl rfl RJ rfl (by exact Q6) 2 rfl) ?_;refine jX.v (eD.ux rfl rfl rfl rfl Q9 0 rfl rfl) ?_;refine jX.v (eD.gN Rf Q7 ⟨_,(hA).at_⟩ ry aI (o) ⟨ho,D⟩) ?_;refine jX.v (eD.kM (cs:=NV.cells b[o]) Rn Q7 (λw _ C=>Sl.many (enc:=NV.cells) (sz:=6) (hA.eQ C.ext).at_ (λ_=>rfl) D)) ?_;refine jX.v (eD.lV rfl rfl rfl rfl RJ rfl (by exact Q6) 2 rfl) ?_;refine jX.v (eD.ux rfl rfl rfl rfl Q9 0 rfl rfl) ?_;refine jX.nil ?_;refine Tl.two (d:=62) (d2:=9) rfl ?_ ?_;refine ik.call _ rfl rfl rfl rfl rfl call100 (λw _ C=>(by exact l7 x.d.on w hon.1)) ?_;rintro v w1 w2 Y' C he rfl;refine⟨_,C.later he,sL,?_⟩;refine Tl.one (d:=9) rfl ?_;refine ik.GB rfl rfl rfl (λ_=>Re _) (λb9=>⟨by repeat(first|exact aD|exact aE|refine List.Sublist.cons_cons _ ?_|refine List.Sublist.cons _ ?_),?_⟩);refine Tl.sw [10,11] rfl rfl ?_;exact K b9 _ _ sF (λ_ _ C=>C);refine ik.GB rfl rfl rfl (λ_=>Re _) (λb9=>⟨by repeat(first|exact aD|exact aE|refine List.Sublist.cons_cons _ ?_|refine List.Sublist.cons _ ?_),?_⟩);refine Tl.one (d:=62) rfl ?_
  refine ik.call _ rfl rfl rfl rfl rfl call100 (λw _ C=>(by exact l7 x.d.on w hon.1)) ?_;rintro v w1 w2 Y' C he rfl;refine⟨_,C.later he,sL,?_⟩;refine Tl.sw [10,11] rfl rfl ?_;exact K b9 _ _ sF (λ_ _ C=>C);refine eG (λg1:1<x.d.fr.length=>?_) λg1:¬1<x.d.fr.length=>?_;obtain⟨i,i1,i2⟩:=hfi 1 g1;have hq:q0=O[i]:=by rw[hq0,if_pos g1];simp[g1,i1,i2]
  refine gY ?_;refine eB.v (fY rfl rfl rfl rfl rfl Q8 Q6 ⟨_,Y⟩ aL (1) ⟨rfl,by simpa using g1⟩) ?_;refine eB.v (eD.iB Q9 (λw _ C=>(mJ.eQ Y C.ext).at (1) g1)) ?_;refine eB.v (fY rfl rfl rfl rfl rfl Rq Rm ⟨_,hZ⟩ aL i ⟨i1,by simpa using i2⟩) ?_;refine eB.v (eD.iB RK (λw _ C=>Sl.at (enc:=U) (Bi.eQ hZ C.ext) i i2)) ?_;refine lD ?_;refine gE ?_;exact K () _ _ (by rw[hq];exact sF) (λ_ _ C=>C);have hq:q0=0#64:=by rw[hq0,if_neg g1]
  refine gK ?_;exact K () _ _ (by rw[hq];exact sF) (λ_ _ C=>C);refine eG (λg0:0<x.d.fr.length=>?_) λg0:¬0<x.d.fr.length=>?_;obtain⟨i,i1,i2⟩:=hfi 0 g0;have hp:T=O[i]:=by rw[hp0,if_pos g0];simp[g0,i1,i2]
  refine gY ?_;refine eB.v (fY rfl rfl rfl rfl rfl Q8 Q6 ⟨_,Y⟩ aL (0) ⟨rfl,by simpa using g0⟩) ?_;refine eB.v (eD.iB Q9 (λw _ C=>(mJ.eQ Y C.ext).at (0) g0)) ?_;refine eB.v (fY rfl rfl rfl rfl rfl Rq Rm ⟨_,hZ⟩ aL i ⟨i1,by simpa using i2⟩) ?_;refine eB.v (eD.iB RK (λw _ C=>Sl.at (enc:=U) (Bi.eQ hZ C.ext) i i2)) ?_;refine lD ?_;refine gE ?_;exact K () _ _ (by rw[hp];exact sF) (λ_ _ C=>C);have hp:T=0#64:=by rw[hp0,if_neg g0]
  refine gK ?_;exact K () _ _ (by rw[hp];exact sF) (λ_ _ C=>C)
end
end Go.Proofs.YtpbhoidjmpjfpaaGreatDoor
