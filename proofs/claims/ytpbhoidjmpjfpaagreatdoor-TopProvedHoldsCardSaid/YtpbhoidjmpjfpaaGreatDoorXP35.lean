/- What calls return, each under its own conditions. -/
import Derived.Test.YtpbhoidjmpjfpaaGreatDoorXP33
import Derived.Test.YtpbhoidjmpjfpaaGreatDoorXP34
set_option maxRecDepth 100000
set_option maxHeartbeats 40000000
namespace Go.Proofs.YtpbhoidjmpjfpaaGreatDoor
open Go.RowKit Go.Proofs.Wit Tryz
section
variable{i:Nat}{c:TC}{s:fi}
theorem OK   (h:ga s i=true/\(c.n i).op=5/\s &&& (bW (c.n i).x|||bW (c.n i).y)≠bW (c.n i).x|||bW (c.n i).y):G7 c s i=some (SD.mk s 2 i 0 [],[s|||bW (c.n i).x|||bW (c.n i).y]):=if_pos h
theorem T6   (h:ga s i=true/\(c.n i).op=9/\c.GG=true/\s &&& bW (c.n i).x=0#64):G7 c s i=some (SD.mk s 5 i 0 [],[s|||bW (c.n i).x]):=by
 unfold G7;rw[if_neg (λg=>by have:=h.2.1;have:=g.2.1;omega),if_pos h]
theorem RF   (h:¬(ga s i=true/\(c.n i).op=5/\s &&& (bW (c.n i).x|||bW (c.n i).y)≠bW (c.n i).x|||bW (c.n i).y))(h2:¬(ga s i=true/\(c.n i).op=9/\c.GG=true/\s &&& bW (c.n i).x=0#64)):G7 c s i=none:=by
 unfold G7;rw[if_neg h,if_neg h2]
theorem RD   (h:ga s i=true/\(c.n i).op=6/\s &&& (bW (c.n i).x|||bW (c.n i).y)=0#64):K6 c s i=some (SD.mk s 3 i 0 [],[s|||bW (c.n i).x,s|||bW (c.n i).y]):=if_pos h
theorem G6   (h:c.cut=true/\(c.n i).op=9/\ga s i=false/\ga s (c.m i)=false):K6 c s i=some (SD.mk s 4 i (c.m i) [],[s|||bW i,s|||bW (c.m i)]):=by
 unfold K6;rw[if_neg (λg=>by have:=h.2.1;have:=g.2.1;omega),if_pos h]
theorem RE   (h:¬(ga s i=true/\(c.n i).op=6/\s &&& (bW (c.n i).x|||bW (c.n i).y)=0#64))(h2:¬(c.cut=true/\(c.n i).op=9/\ga s i=false/\ga s (c.m i)=false)):K6 c s i=none:=by
 unfold K6;rw[if_neg h,if_neg h2]
theorem JX(x:Tx)(c:TC)(vp vs:aC)(s:fi)(w:aB)(hR:PY w x c vp vs)(hb:fS c.b)(hn:c.ng.length=c.b.length)(hkn:∀i,i<c.b.length->(c.n i).op=9->0<=c.m i):Qqa 137 [aQ x.bs,U s] w
    (λv w'=>(∃y xs bl,lD c s=some (y,xs)/\v=.tuple #[SZ y,.slice (aR bl) xs.length xs.length]/\ld w w' [(some bl,ob U 43 xs [])])\/(lD c s=none/\v=.tuple #[SZ JA,.slice none 0 0])):=by
  obtain⟨bs,hbs⟩:∃b,b=x.bs:=⟨_,rfl⟩;have HB:∀{w':aB} {j:Nat} {u:aC},Ex [] w w'->(xz c.l (gx x.qb c.b.length x.cb) (gx x.qn c.ng.length x.cn) c.ag x.mr x.mo vp vs)[j]?=some u->w'.cell? ⟨bs,j,none⟩=some u:=λe h=>Ex.cell e (hbs ▸ hR.jd) h;have ha:=hR.fa;have T:=hR.na;have hrf:=λw' (e:Ex [] w w')=>QU x c vp vs w' (hR.ex e);rw[<-hbs]at hrf;obtain⟨C,hC⟩:∃C,C=c:=⟨_,rfl⟩;rw[<-hC];rw[<-hC]at hrf hkn;obtain⟨l,b,ng,ag⟩:=c;dsimp only at HB ha T hb hn⊢;have hlen:=hb.len;have hxy:∀k (hk:k<b.length),0<=b[k].x/\0<=b[k].y:=λk hk=>by
    have ho:=(fA.1 hb.qA).nodes k hk;constructor;cases e:ji b[k].op with
    |true=>exact(ho.x e).1
    |false=>rw[ho.x0 e];exact Int.le_refl _
    cases e:iM b[k].op with
    |true=>exact(ho.y e).1
    |false=>rw[ho.y0 e];exact Int.le_refl _
  have hnE:∀k (hk:k<b.length),C.n k=b[k]:=λk hk=>by rw[hC];exact jU hk
  have hmE:∀k (hk:k<ng.length),C.m k=ng[k]:=λk hk=>by rw[hC];unfold TC.m;simp[hk]
  have hCb:C.b.length=b.length:=by rw[hC]
  rw[hCb]at hkn;rw[<-hbs];refine gz func137 ?_;refine gY ?_;refine ff.gO (λ_=>YP _) (λb4=>?_);refine gY ?_;refine ff.v (fh.iF (p:=⟨bs,1,none⟩) Yl (λw _ D=>HB D.ext rfl)) ?_;refine gY ?_;refine ff.loop (σ:=Nat) (λk=>[(0,aQ bs),(1,U s),(4,aQ b4),(19,gx x.qb b.length x.cb),(20,aS b.length),(21,aS k)]) (λ_=>[(some b4,.cells (SV.cells ⟨JA,none,0⟩).toArray 46 (0,0))]) (λk=>k<=b.length/\∀j,j<k->G7 C s j=none) (λk=>b.length - k) 0 ⟨aG,λj h=>absurd h (ew _)⟩ zT aD (λk hI IH=>?_);obtain⟨hk,N⟩:=hI;refine fy (λF:k<b.length=>?_) λhge:¬k<b.length=>?_;have hcb:k<C.b.length:=aH;have E:=hnE k F;obtain⟨x0,y0⟩:=hxy k F;refine gY ?_;refine ff.v (fh.iT Ye X6 ⟨_,(ha).at_⟩ uq aI (k) ⟨rfl,F⟩) ?_;refine ff.v (fh.lE (cs:=NV.cells b[k]) Yk X6 (λw _ D=>Sl.many (enc:=NV.cells) (sz:=6) (ha.fD D.ext).at_ (λ_=>rfl) F)) ?_;refine ff.gO (λ_=>Yc _) (λb7=>?_);refine gY ?_;refine ff.gl X6 0 ?_;refine gY ?_;refine ff.draw 8 mixed rfl ?_;refine rY ?_;refine fJ.v (fh.bin (a:=U 1#64) rfl rfl rfl rfl (mJ b[k].x.toNat aH) rfl) ?_;refine rY ?_;refine fJ.v (fh.bin (a:=U 1#64) rfl rfl rfl rfl (mJ b[k].y.toNat aH) rfl) ?_;refine rY ?_;refine fJ.nil ?_;refine gY ?_;refine ff.v (fh.gX (bd46 (c:=[_,_,_,_,_]) rfl)) ?_;refine ff.gO (λ_=>YP _) (λb10=>?_);refine ff.gl Ya 0 ?_;refine gE (gB (gS ?_))
  refine ig (α:={p:Bool // p=true↔(ga s k=true/\b[k].op=5/\s &&& (bW b[k].x|||bW b[k].y)≠bW b[k].x|||bW b[k].y)}) [] (λz=>[(0,aQ bs),(1,U s),(4,aQ b4),(6,aS k),(7,aQ b7),(8,U (bW b[k].x)),(9,U (bW b[k].y)),(10,aQ b10),(19,gx x.qb b.length x.cb),(20,aS b.length),(21,aS k),(35,.bool z.1)]) (λz=>[(some b10,.cells (SV.cells ⟨⟨s,0,k,0,[]⟩,none,0⟩).toArray 46 (0,0)),(some b7,.cells (NV.cells b[k]).toArray 88 (0,0)),(some b4,.cells (SV.cells ⟨JA,none,0⟩).toArray 46 (0,0))]) (λz=>?_) (λK=>?_);obtain⟨p,hp⟩:=z;dsimp only at hp⊢;refine lJ (λhc=>?_) λhc=>?_;have h1:=hp.1 hc;rw[<-E]at h1;refine gY ?_;refine ff.oW X4 0 ?_;refine gY ?_;refine ff.gG (c:=[_]) X9 X8 YH (λb62=>?_);refine ff.gl Ya 3 ?_;refine gY ?_;refine ff.kD Tryz.f137 func137 _ (fP.cell rfl YK Ya (j:=3) rfl rfl (fP.tmp rfl fP.nil)) (λw' D=>?_);exact⟨D.ext,.inl ⟨_,_,b62,by rw[xZ (uC hcb N (OK h1))],by rw[E];rfl,ld.of (D.pick (pre':=[(some b62,ob U 43 [s|||bW (C.n k).x|||bW (C.n k).y] [])]) [0] aI (by rw[E];rfl))⟩⟩;have hp1:¬(ga s k=true/\b[k].op=5/\s &&& (bW b[k].x|||bW b[k].y)≠bW b[k].x|||bW b[k].y):=λh=>by have:=hp.2 h;rw[show p=false from hc]at this;cases this
  rw[<-E]at hp1;refine gS ?_;refine ig (α:={p:Bool // p=true↔(ga s k=true/\b[k].op=9/\C.GG=true/\s &&& bW b[k].x=0#64)}) [] (λz=>[(0,aQ bs),(1,U s),(4,aQ b4),(6,aS k),(7,aQ b7),(8,U (bW b[k].x)),(9,U (bW b[k].y)),(10,aQ b10),(19,gx x.qb b.length x.cb),(20,aS b.length),(21,aS k),(63,.bool z.1)]) (λz=>[(some b10,.cells (SV.cells ⟨⟨s,0,k,0,[]⟩,none,0⟩).toArray 46 (0,0)),(some b7,.cells (NV.cells b[k]).toArray 88 (0,0)),(some b4,.cells (SV.cells ⟨JA,none,0⟩).toArray 46 (0,0))]) (λz=>?_) (λK=>?_);obtain⟨q,hq⟩:=z;dsimp only at hq⊢;refine lJ (λhc=>?_) λhc=>?_;have h1:=hq.1 hc;rw[<-E]at h1;refine gY ?_;refine ff.oW X4 0 ?_;refine gY ?_;refine ff.gG (c:=[_]) X9 X8 YH (λb87=>?_);refine ff.gl Ya 3 ?_;refine gY ?_;refine ff.kD Tryz.f137 func137 _ (fP.cell rfl YK Ya (j:=3) rfl rfl (fP.tmp rfl fP.nil)) (λw' D=>?_);exact⟨D.ext,.inl ⟨_,_,b87,by rw[xZ (uC hcb N (T6 h1))],by rw[E];rfl,ld.of (D.pick (pre':=[(some b87,ob U 43 [s|||bW (C.n k).x] [])]) [0] aI (by rw[E];rfl))⟩⟩;have hp2:¬(ga s k=true/\b[k].op=9/\C.GG=true/\s &&& bW b[k].x=0#64):=λh=>by have:=hq.2 h;rw[show q=false from hc]at this;cases this
  rw[<-E]at hp2;refine gY ?_;exact IH (k+1) _ _ ⟨F,λj hj=>by
  by_cases e:j=k;subst e;exact RF hp1 hp2;exact N j aH⟩ aH zT (.cons _ (.cons _ aD))
  refine gF call136 (λw _ D=>(by exact rj s (k:Int) w)) ?_;refine mG 67 (λhc=>?_) λhc=>?_;have Y:ga s k=true:=hc;refine fY 72 (λX:b[k].op=9=>?_) λX:¬b[k].op=9=>?_;refine gF call157 (λw _ D=>(by exact hrf w D.ext)) ?_;refine mG 76 (λhc=>?_) λhc=>?_;have g3:C.GG=true:=hc;refine gY ?_;refine ff.v (fh.bin (b:=U 0#64) rfl rfl rfl rfl xL rfl) ?_;refine rH ?_;refine ij ?_;exact K ⟨s &&& bW b[k].x==0#64,by simp[Y,X,g3]⟩ _ _ sF (λ_ _ D=>D);have g3:¬C.GG=true:=by rw[show C.GG=false from hc];decide
  iterate 4 refine ov ?_
  refine qv ?_;refine ij ?_;exact K ⟨false,by simp[g3]⟩ _ _ sF (λ_ _ D=>D)
  iterate 2 refine ov ?_
  refine qv ?_;refine jk ?_
  iterate 4 refine ov ?_
  refine qv ?_;refine ij ?_;exact K ⟨false,by simp[X]⟩ _ _ sF (λ_ _ D=>D);have Y:¬ga s k=true:=by rw[show ga s k=false from hc];decide
  iterate 3 refine ov ?_
  refine qv ?_;refine jk ?_
  iterate 2 refine ov ?_
  refine qv ?_;refine jk ?_
  iterate 4 refine ov ?_
  refine qv ?_;refine ij ?_;exact K ⟨false,by simp[Y]⟩ _ _ sF (λ_ _ D=>D);refine gF call136 (λw _ D=>(by exact rj s (k:Int) w)) ?_;refine mG 39 (λhc=>?_) λhc=>?_;have Y:ga s k=true:=hc;refine fY 44 (λX:b[k].op=5=>?_) λX:¬b[k].op=5=>?_
  iterate 3 refine jk ?_
  refine jO PG ?_;refine jO Ep ?_
  iterate 2 refine jk ?_
  refine jO PG ?_;refine jO CA ?_;refine rH ?_;refine ij ?_;exact K ⟨s &&& (bW b[k].x|||bW b[k].y) !=(bW b[k].x|||bW b[k].y),by simp[Y,X]⟩ _ _ sF (λ_ _ D=>D)
  iterate 9 refine ov ?_
  refine qv ?_;refine ij ?_;exact K ⟨false,by simp[X]⟩ _ _ sF (λ_ _ D=>D);have Y:¬ga s k=true:=by rw[show ga s k=false from hc];decide
  iterate 3 refine ov ?_
  refine qv ?_;refine jk ?_
  iterate 9 refine ov ?_
  refine qv ?_;refine ij ?_;exact K ⟨false,by simp[Y]⟩ _ _ sF (λ_ _ D=>D);obtain rfl:k=b.length:=aH;have hlB:=B1 (c:=C) (s:=s) (Lx (by rw[hCb];exact N));refine kk (gS ?_);refine ig (α:={p:Bool // p=C.cut}) [] (λz=>[(0,aQ bs),(1,U s),(4,aQ b4),(11,.bool z.1)]) (λz=>[(some b4,.cells (SV.cells ⟨JA,none,0⟩).toArray 46 (0,0))]) (λz=>?_) (λK=>?_);obtain⟨cu,hcu⟩:=z;dsimp only at hcu⊢;refine gY ?_;refine ff.v (fh.iF (p:=⟨bs,1,none⟩) Yl (λw _ D=>HB D.ext rfl)) ?_;refine gY ?_;refine ff.loop (σ:=Nat) (λk=>[(0,aQ bs),(1,U s),(4,aQ b4),(11,.bool cu),(104,gx x.qb b.length x.cb),(105,aS b.length),(106,aS k)]) (λ_=>[(some b4,.cells (SV.cells ⟨JA,none,0⟩).toArray 46 (0,0))]) (λk=>k<=b.length/\∀j,j<k->K6 C s j=none) (λk=>b.length - k) 0 ⟨aG,λj h=>absurd h (ew _)⟩ zT aD (λk hI IH=>?_);obtain⟨hk,N⟩:=hI;refine fy (λF:k<b.length=>?_) λhge:¬k<b.length=>?_;have M:k<ng.length:=aH;have hcb:k<C.b.length:=aH;have E:=hnE k F;have W:=hmE k M;obtain⟨x0,y0⟩:=hxy k F;have hm0:b[k].op=9->0<=ng[k]:=λh=>by have:=hkn k F (by rw[E];exact h);rwa[W]at this
  refine gY ?_;refine ff.v (fh.iT Ye X6 ⟨_,(ha).at_⟩ uq aI (k) ⟨rfl,F⟩) ?_;refine ff.v (fh.lE (cs:=NV.cells b[k]) Yk X6 (λw _ D=>Sl.many (enc:=NV.cells) (sz:=6) (ha.fD D.ext).at_ (λ_=>rfl) F)) ?_;refine ff.gO (λ_=>Yc _) (λb13=>?_);refine gY ?_;refine ff.gl X6 0 ?_;refine gY ?_;refine ff.draw 8 mixed rfl ?_;refine rY ?_;refine fJ.v (fh.bin (a:=U 1#64) rfl rfl rfl rfl (mJ b[k].x.toNat aH) rfl) ?_;refine rY ?_;refine fJ.v (fh.bin (a:=U 1#64) rfl rfl rfl rfl (mJ b[k].y.toNat aH) rfl) ?_;refine rY ?_;refine fJ.nil ?_;refine gE (gB (gS ?_));refine ig (α:={p:Bool // p=true↔(ga s k=true/\b[k].op=6/\s &&& (bW b[k].x|||bW b[k].y)=0#64)}) [] (λz=>[(0,aQ bs),(1,U s),(4,aQ b4),(11,.bool cu),(12,aS k),(13,aQ b13),(14,U (bW b[k].x)),(15,U (bW b[k].y)),(104,gx x.qb b.length x.cb),(105,aS b.length),(106,aS k),(117,.bool z.1)]) (λz=>[(some b13,.cells (NV.cells b[k]).toArray 88 (0,0)),(some b4,.cells (SV.cells ⟨JA,none,0⟩).toArray 46 (0,0))]) (λz=>?_) (λK=>?_);obtain⟨p,hp⟩:=z;dsimp only at hp⊢;refine lJ (λhc=>?_) λhc=>?_;have h1:=hp.1 hc;rw[<-E]at h1;refine gY ?_;refine ff.v (fh.gX (bd46 (c:=[_,_,_,_,_]) rfl)) ?_;refine gY ?_;refine ff.gG (c:=[_,_]) X9 X8 YH (λb143=>?_);refine ff.gl Ya 2 ?_;refine gY ?_;refine ff.kD Tryz.f137 func137 _ (fP.cell rfl YK Ya (j:=2) rfl rfl (fP.tmp rfl fP.nil)) (λw' D=>?_)
  exact⟨D.ext,.inl ⟨_,_,b143,by rw[hlB];exact uC hcb N (RD h1),by rw[E];rfl,ld.of (D.pick (pre':=[(some b143,ob U 43 [s|||bW (C.n k).x,s|||bW (C.n k).y] [])]) [0] aI (by rw[E];rfl))⟩⟩;have hp1:¬(ga s k=true/\b[k].op=6/\s &&& (bW b[k].x|||bW b[k].y)=0#64):=λh=>by have:=hp.2 h;rw[show p=false from hc]at this;cases this
  rw[<-E]at hp1;refine gS ?_;refine ig (α:={p:Bool // p=true↔(C.cut=true/\b[k].op=9/\ga s k=false/\ga s ng[k]=false)}) [] (λz=>[(0,aQ bs),(1,U s),(4,aQ b4),(11,.bool cu),(12,aS k),(13,aQ b13),(104,gx x.qb b.length x.cb),(105,aS b.length),(106,aS k),(144,.bool z.1)]) (λz=>[(some b13,.cells (NV.cells b[k]).toArray 88 (0,0)),(some b4,.cells (SV.cells ⟨JA,none,0⟩).toArray 46 (0,0))]) (λz=>?_) (λK=>?_);obtain⟨q,hq⟩:=z;dsimp only at hq⊢;refine lJ (λhc=>?_) λhc=>?_;have h1:=hq.1 hc;have h9:=hm0 h1.2.1;have hbk:bW (k:Int)=1#64<<<k:=by unfold bW;rw[dy]
  rw[<-E,<-W]at h1;refine gY ?_;refine mh 28 25 ([]) mixed ?_;refine fV.uZ (i:=0) (fh.mv rfl rfl rfl rfl) sL zC ?_;refine fV.uZ (i:=1) (fh.mv rfl rfl rfl rfl) sL zC ?_;refine fV.uZ (i:=2) (fh.mv rfl rfl rfl rfl) sL zC ?_;refine fV.uZ (i:=3) (fh.tZ rfl rfl rfl rfl) sL zC ?_;refine fV.uZ (i:=4) (fh.k0 rfl rfl rfl rfl underlying67 rfl (by exact YG) 2 rfl) sL zC ?_;refine fV.uZ (i:=5) (fh.iF (p:=⟨bs,2,none⟩) YL (λw _ D=>HB D.ext rfl)) sL zC ?_;refine fV.uZ (i:=6) (fh.mv rfl rfl rfl rfl) sL zC ?_;refine fV.uZ (i:=7) (fM rfl rfl rfl rfl rfl X7 X4 ⟨_,T⟩ aL (k) ⟨rfl,by simpa using M⟩) sL zC ?_;refine fV.uZ (i:=8) (fh.iF X5 (λw _ D=>(oD.fD T D.ext).at (k) M)) sL zC ?_;refine fV.uZ (i:=9) (fh.gX (bd46 (c:=[_,_,_,_,_]) rfl)) sL zC ?_;refine fV.uZ (i:=10) (fh.mv rfl rfl rfl rfl) sL zC ?_;refine fV.uZ (i:=11) (fh.mv rfl rfl rfl rfl) sL zC ?_;refine fV.uZ (i:=12) (fh.bin (a:=U 1#64) rfl rfl rfl rfl (mJ k rfl) rfl) sL zC ?_;refine fV.uZ (i:=13) (fh.bin rfl rfl rfl rfl PG rfl) sL zC ?_;refine fV.uZ (i:=14) (fh.mv rfl rfl rfl rfl) sL zC ?_;refine fV.uZ (i:=15) (fh.mv rfl rfl rfl rfl) sL zC ?_;refine fV.uZ (i:=16) (fh.tZ rfl rfl rfl rfl) sL zC ?_;refine fV.uZ (i:=17) (fh.k0 rfl rfl rfl rfl underlying67 rfl (by exact YG) 2 rfl) sL zC ?_;refine fV.uZ (i:=18) (fh.iF (p:=⟨bs,2,none⟩) YL (λw _ D=>HB D.ext rfl)) sL zC ?_;refine fV.uZ (i:=19) (fh.mv rfl rfl rfl rfl) sL zC ?_;refine fV.uZ (i:=20) (fM rfl rfl rfl rfl rfl X7 X4 ⟨_,T⟩ aL (k) ⟨rfl,by simpa using M⟩) sL zC ?_
  refine fV.uZ (i:=21) (fh.iF X5 (λw _ D=>(oD.fD T D.ext).at (k) M)) sL zC ?_;refine fV.uZ (i:=22) (fh.bin (a:=U 1#64) rfl rfl rfl rfl (mJ ng[k].toNat aH) rfl) sL zC ?_;refine fV.uZ (i:=23) (fh.bin rfl rfl rfl rfl PG rfl) sL zC ?_;refine fV.Vt (i':=24) (i:=25) rfl (jq.gG (c:=[_,_]) X9 X8 YH (λQ=>⟨zC,?_⟩)) rfl rfl rfl rfl rfl Ya 1 rfl rfl rfl rfl Bw ?_;refine fV.qi (i:=25) rfl rfl rfl rfl rfl Ya 2 rfl rfl rfl rfl Bw ?_;refine fV.uZ (i:=26) (fh.yt rfl rfl rfl rfl) sL Te ?_;refine fV.done rfl ?_;refine gY ?_;refine ff.kD Tryz.f137 func137 _ (fP.cell rfl YK Ya (j:=2) rfl rfl (fP.tmp rfl fP.nil)) (λw' D=>?_);exact⟨D.ext,.inl ⟨_,_,Q,by rw[hlB];exact uC hcb N (G6 h1),by rw[W];rfl,ld.of (D.pick (pre':=[(some Q,ob U 43 [s|||bW k,s|||bW (C.m k)] [])]) [0] aI (by rw[W,hbk];rfl))⟩⟩;refine fV.one (i:=24) rfl (jq.gG (c:=[_,_]) X9 X8 YH (λQ=>⟨Te,?_⟩)) rfl;refine fV.uZ (i:=26) (fh.yt rfl rfl rfl rfl) sL Te ?_;refine fV.done rfl ?_;refine gY ?_;refine ff.kD Tryz.f137 func137 _ (fP.cell rfl YK Ya (j:=2) rfl rfl (fP.tmp rfl fP.nil)) (λw' D=>?_);exact⟨D.ext,.inl ⟨_,_,Q,by rw[hlB];exact uC hcb N (G6 h1),by rw[W];rfl,ld.of (D.pick (pre':=[(some Q,ob U 43 [s|||bW k,s|||bW (C.m k)] [])]) [0] aI (by rw[W,hbk];rfl))⟩⟩;have hp2:¬(C.cut=true/\b[k].op=9/\ga s k=false/\ga s ng[k]=false):=λh=>by have:=hq.2 h;rw[show q=false from hc]at this;cases this
  rw[<-E,<-W]at hp2;refine gY ?_;exact IH (k+1) _ _ ⟨F,λj hj=>by
  by_cases e:j=k;subst e;exact RE hp1 hp2;exact N j aH⟩ aH zT (.cons _ aD)
  refine mG 146 (λhc=>?_) λhc=>?_;have Y:C.cut=true:=by rw[<-hcu];exact hc
  refine fY 151 (λX:b[k].op=9=>?_) λX:¬b[k].op=9=>?_;refine gF call136 (λw _ D=>(by exact rj s (k:Int) w)) ?_;refine fY 157 (λg3:ga s k=false=>?_) λg3:¬ga s k=false=>?_;refine gY ?_;refine ff.v (fh.iF (p:=⟨bs,2,none⟩) YL (λw _ D=>HB D.ext rfl)) ?_;refine gY ?_;refine ff.v (fM rfl rfl rfl rfl rfl X7 X4 ⟨_,T⟩ aL (k) ⟨rfl,by simpa using M⟩) ?_;refine ff.v (fh.iF X5 (λw _ D=>(oD.fD T D.ext).at (k) M)) ?_;refine nr call136 (λw _ D=>(by exact rj s ng[k] w)) ?_;refine VK QQ ?_;refine rH ?_;refine ij ?_;exact K ⟨!ga s ng[k],by simp[Y,X,g3]⟩ _ _ sF (λ_ _ D=>D)
  iterate 10 refine ov ?_
  refine qv ?_;refine ij ?_;exact K ⟨false,by simp[g3]⟩ _ _ sF (λ_ _ D=>D)
  iterate 4 refine ov ?_
  refine qv ?_;refine jk ?_
  iterate 10 refine ov ?_
  refine qv ?_;refine ij ?_;exact K ⟨false,by simp[X]⟩ _ _ sF (λ_ _ D=>D);have Y:¬C.cut=true:=by rw[<-hcu,show cu=false from hc];decide
  iterate 3 refine ov ?_
  refine qv ?_;refine jk ?_
  iterate 4 refine ov ?_
  refine qv ?_;refine jk ?_
  iterate 10 refine ov ?_
  refine qv ?_;refine ij ?_;exact K ⟨false,by simp[Y]⟩ _ _ sF (λ_ _ D=>D);refine gF call136 (λw _ D=>(by exact rj s (k:Int) w)) ?_;refine mG 121 (λhc=>?_) λhc=>?_;have Y:ga s k=true:=hc;refine fY 126 (λX:b[k].op=6=>?_) λX:¬b[k].op=6=>?_;refine gY ?_;refine ff.v (fh.bin (b:=U 0#64) rfl rfl rfl rfl xL rfl) ?_;refine rH ?_;refine ij ?_;exact K ⟨s &&& (bW b[k].x|||bW b[k].y)==0#64,by simp[Y,X]⟩ _ _ sF (λ_ _ D=>D)
  iterate 6 refine ov ?_
  refine qv ?_;refine ij ?_;exact K ⟨false,by simp[X]⟩ _ _ sF (λ_ _ D=>D);have Y:¬ga s k=true:=by rw[show ga s k=false from hc];decide
  iterate 3 refine ov ?_
  refine qv ?_;refine jk ?_
  iterate 6 refine ov ?_
  refine qv ?_;refine ij ?_;exact K ⟨false,by simp[Y]⟩ _ _ sF (λ_ _ D=>D);obtain rfl:k=b.length:=aH;refine kk ?_;refine gY ?_;refine ff.v (fh.gX (bd46 (c:=[_,_,_,_,_]) rfl)) ?_;refine ff.gl Ya 0 ?_;refine gY ?_;refine ff.kD Tryz.f137 func137 _ (fP.cell rfl YK Ya (j:=0) rfl rfl (fP.tmp rfl fP.nil)) (λw' D=>?_);exact⟨D.ext,.inr ⟨by rw[hlB];exact Lx (by rw[hCb];exact N),rfl⟩⟩;refine gY ?_;refine ff.v (fh.iF (p:=⟨bs,0,none⟩) X5 (λw _ D=>HB D.ext rfl)) ?_;refine fY 94 (λe5:l=5=>?_) λe5:¬l=5=>?_
  iterate 5 refine ov ?_
  refine rH ?_;refine ij ?_;exact K ⟨true,by rw[hC];simp[TC.cut,e5]⟩ _ _ sF (λ_ _ D=>D);refine gY ?_;refine ff.v (fh.iF (p:=⟨bs,0,none⟩) X5 (λw _ D=>HB D.ext rfl)) ?_;refine jO rO ?_;refine qv ?_;refine ij ?_;exact K ⟨l==6,by rw[hC];simp[TC.cut,e5]⟩ _ _ sF (λ_ _ D=>D)
end
section
variable{l:Int}{b:List NV}{ss:List SV}
theorem Hy   :(∀(k:Nat) (hk:k<(kJ ss).length),jr l b (kJ ss) k (kJ ss)[k])↔∀(k:Nat) (hk:k<ss.length),jr l b (kJ ss) k ss[k].d:=by
 constructor;intro h k hk;have:=h k (by rw[iU];exact hk);rwa[qz hk]at this;intro h k hk;rw[iU]at hk;rw[qz hk];exact h k hk
theorem TF   (h:kY l b ss.length≠0):Aj l b (kJ ss)=kY l b ss.length:=by
 have e:kY l b (kJ ss).length=kY l b ss.length:=by rw[iU]
 unfold Aj;rw[if_pos (by rw[e];exact h),e]
theorem TE   (h:¬kY l b ss.length≠0)(h2:∀(k:Nat) (hk:k<ss.length),jr l b (kJ ss) k ss[k].d):Aj l b (kJ ss)=0:=by
 have e:kY l b (kJ ss).length=kY l b ss.length:=by rw[iU]
 unfold Aj;rw[if_neg (by rw[e];exact h),if_pos (Hy.2 h2)]
theorem TD   (h:¬kY l b ss.length≠0)(h2:¬∀(k:Nat) (hk:k<ss.length),jr l b (kJ ss) k ss[k].d):Aj l b (kJ ss)=13:=by
 have e:kY l b (kJ ss).length=kY l b ss.length:=by rw[iU]
 unfold Aj;rw[if_neg (by rw[e];exact h),if_neg (λg=>h2 (Hy.1 g))]
theorem AN(l:Int)(A:ae)(cA:Nat)(b:List NV)(B:ae)(cB:Nat)(ss:List SV)(w:aB)(F:FA w A b)(J:Jw w B ss)(E:b.length<=maxLen)(C:ss.length<=maxLen):
    Qqa 8 [.agg (iE l A b.length cA B ss.length cB)] w (λv _=>v=aS (Aj l b (kJ ss))):=by
  refine gz func8 ?_;refine gY ?_;refine ff.oE (λO=>?_);refine gF call25 (λw _ p=>(by exact GB l A cA b B ss.length cB w (F.fD p.ext) E)) ?_;refine fy (λh1:kY l b ss.length≠0=>?_) λh1:¬kY l b ss.length≠0=>?_;refine fz func8 λw' p=>?_;exact⟨p.ext,by rw[TF h1];rfl⟩;refine gy call26 (λw _ p=>(by exact IA l A cA b B cB ss w (F.fD p.ext) (J.fD p.ext) E C)) ?_;rintro v N M P p he ⟨r,rfl,D⟩;refine⟨_,p.later he,?_⟩;refine fy (λh2:0<=r=>?_) λh2:¬0<=r=>?_;refine fz func8 λw' p=>?_;exact⟨p.ext,by rw[TD h1 (D.1 h2).2];rfl⟩;have K:∀(k:Nat) (hk:k<ss.length),jr l b (kJ ss) k ss[k].d:=bj λh=>h2 (D.2 ⟨bj λe=>h1 e,h⟩);refine fz func8 λw' p=>?_;exact⟨p.ext,by rw[TE h1 K];rfl⟩
end
theorem nS(i:Int)(w:aB)(hi:0<=i):Qqa 100 [aS i] w (λv _=>v=U (bW i)):=by
 refine gz func100 ?_;refine gY ?_;refine ff.v (fh.bin (a:=U 1#64) rfl rfl rfl rfl (mJ i.toNat aH) rfl) ?_;refine fz func100 λw' h=>?_;exact⟨h.ext,rfl⟩
def ll(s:fi)(k:Nat):aq:=(List.range k).filter (λi=>s.getLsbD i)
theorem pd{s:fi}{k:Nat}:ll s (k+1)=ll s k++(if s.getLsbD k=true then [k]else []):=by
 unfold ll;rw[ep,List.filter_append];by_cases h:s.getLsbD k=true<;>simp[h]
theorem qN{s:fi}{k:Nat}:(ll s k).length<=k:=by
 have:=List.length_filter_le (λi=>s.getLsbD i) (List.range k);simpa[ll]using this
theorem se(s:fi)(w:aB):Qqa 65 [U s] w (λv w'=>pO gu 3 w w' v (iL (iQ s))):=by
  obtain⟨W,K,J,C,F⟩:=info_parts zk;refine gz func65 ?_;refine gY ?_;refine ff.gZ (ob gu 3 [] []) ?_;refine ff.loop (σ:=Nat×ah×Nat×ai×Hl) (λz=>[(0,U s),(3,gx z.2.1 (iL (ll s z.1)).length z.2.2.1),(5,aS z.1)])
    (λz=>[(z.2.1,ob gu 3 (iL (ll s z.1)) z.2.2.2.1)]++z.2.2.2.2)
    (λz=>z.1<=64/\(z.2.1=none->(iL (ll s z.1)).length=0/\z.2.2.1=0)/\((iL (ll s z.1)).map gu++z.2.2.2.1).length=z.2.2.1)
    (λz=>64 - z.1) (0,none,0,[],[]) ⟨aG,λ_=>⟨rfl,rfl⟩,rfl⟩ zT aD (λz S M=>?_);obtain⟨k,q,cap,sp,H⟩:=z;obtain⟨hk,hq,fB⟩:=S;dsimp only at hk hq fB M⊢;have O:=@qN s k;have P:=@oI (ll s k);refine fy (λE:k<64=>?_) λQ:¬k<64=>?_;refine gY ?_;refine kR rfl rfl rfl rfl (Cz k rfl) ?_;refine ff.v (fh.bin (b:=U 1#64) rfl rfl rfl rfl Ep rfl) ?_;refine ff.v (fh.bin (b:=U 1#64) rfl rfl rfl rfl xL rfl) ?_;refine lJ (λhc=>?_) λhc=>?_;have hb:s.getLsbD k=true:=by rw[<-ye];exact hc
  have h:ll s (k+1)=ll s k++[k]:=by rw[pd,if_pos hb]
  have D:iL (ll s (k+1))=iL (ll s k)++[(k:Int)]:=by rw[h];simp[iL]
  refine gY ?_;refine ff.gG (c:=[_]) X7 X4 Yh (λT=>?_);refine iZ gu (news:=[(k:Int)]) (spn:=[]) (xs:=iL (ll s k)) (sp:=sp) (q:=q) rfl rfl rfl rfl rfl X7 K J C rfl hq 1 rfl 0 rfl fB rfl aI (λ_=>rfl) qI (by rw[F];omega) (λb' sp' cap' p=>?_);refine gY ?_;refine ff.kq (pre:=[_,_]) (pre':=[_]) H [1] aI rfl ?_;rw[<-D]at p⊢;exact M (k+1,some b',cap',sp',H) _ _ ⟨E,aK,p⟩ aM ⟨rfl,by dsimp only;rw[D,di];rfl,rfl,eZ⟩ aD;have hb:¬s.getLsbD k=true:=by rw[<-ye,show(s>>>k &&& 1#64==1#64)=false from hc];decide
  have h:ll s (k+1)=ll s k:=by rw[pd,if_neg hb,dW]
  refine gY ?_;exact M (k+1,q,cap,sp,H) _ _ ⟨E,by dsimp only;rw[h];exact hq,by dsimp only;rw[h];exact fB⟩ aM ⟨rfl,by dsimp only;rw[h];rfl,rfl,eZ⟩ (by dsimp only;rw[h];exact aD);obtain rfl:k=64:=aH;refine kk ?_;refine fz func65 λw' N=>?_;exact⟨N.ext,pO.mk N 0 rfl rfl hq fB⟩
theorem CQ(l:Int)(A:ae)(cA:Nat)(b:List NV)(B:ae)(F cB:Nat)(x:SV)(w:aB)(E:FA w A b)(ho:x.d.fK≠7->0<=x.d.on/\x.d.on<b.length):
    Qqa 109 [.agg (iE l A b.length cA B F cB),.agg x.cells.toArray] w (λv _=>v=aS (if x.d.fK=7 then x.d.on else(nd b x.d.on).i)):=by
  refine gz func109 ?_;refine gY ?_;refine ff.oE (λN=>?_);refine ff.oE (λM=>?_);refine fy (λC:x.d.fK=7=>?_) λC:¬x.d.fK=7=>?_;refine fz func109 λw' p=>?_;exact⟨p.ext,by rw[if_pos C];rfl⟩;obtain⟨K,J⟩:=ho C;obtain⟨k,hk⟩:∃k:Nat,x.d.on=(k:Int):=⟨x.d.on.toNat,aH⟩;have h:k<b.length:=aH;have D:nd b x.d.on=b[k]:=by rw[hk,jU h]
  refine gY ?_;refine ff.v (fh.iT Ye X6 ⟨_,(E).at_⟩ uq aI (k) ⟨hk,h⟩) ?_;refine ff.v (fh.ow Yb X4 ((k)*6+1)) ?_;refine ff.v (fh.iF X5 (λw _ p=>Sl.rJ (enc:=NV.cells) (sz:=6) ((E).fD p.ext).at_ (λ_=>rfl) h rfl)) ?_;refine fz func109 λw' p=>?_;exact⟨p.ext,by rw[if_neg C,D];rfl⟩
theorem AH(A:ae)(cA:Nat)(b:List NV)(s:fi)(ag:Int)(n:Nat)(w:aB)(W:FA w A b)(hs:jw b s):
    Qqa 111 [.slice A b.length cA,U s,aS ag,aS n] w (λv _=>v=aS (lP b s ag n)):=by
  refine gz func111 ?_;refine gy call65 (λw _ J=>(by exact se s w)) ?_;rintro v w1 w2 Y' J he ho;obtain⟨q,cap,sp,rfl,hq,fB,hS'⟩:=zo J he ho;refine⟨_,hS',?_⟩;refine gY ?_;have Q:=@oI (iQ s);have hp64:(iQ s).length<=64:=@qN s 64;refine ff.loop (σ:=Nat) (λk=>[(0,.slice A b.length cA),(2,aS ag),(3,aS n),(12,gx q (iL (iQ s)).length cap),(13,aS (iL (iQ s)).length),(14,aS k)])
    (λ_=>[(q,ob gu 3 (iL (iQ s)) sp)]) (λk=>k<=(iQ s).length/\∀(m:Nat) (hm:m<(iQ s).length),m<k->Ib b ag n (iQ s)[m]) (λk=>(iQ s).length - k) 0 ⟨aG,λm _ h=>absurd h (ew _)⟩ zT aD (λk hK IH=>?_);obtain⟨hk,C⟩:=hK;refine lJ (λhc=>?_) λhc=>?_;have E:k<(iQ s).length:=by rw[Q]at hc;simpa using hc
  have O:k<(iL (iQ s)).length:=by rw[Q];exact E
  obtain⟨p,hp⟩:∃p,p=(iQ s)[k]:=⟨_,rfl⟩;have X:s.getLsbD p=true:=jy.1 (by rw[hp];exact dL E);have D:p<b.length:=hs p X;have M:(iL (iQ s)).getD k 0=(p:Int):=by rw[wD E,<-hp]
  have F:nd b p=b[p]:=jU D;have N:∀j,j<p->s.getLsbD j=true->(nd b j).op=9->(nd b j).i=ag->(nd b j).x≠n:=λj hj P=>by
    obtain⟨m,hm,h1,h2⟩:=E5 E P (by rw[<-hp];exact hj);have:=C m hm h1;rwa[h2]at this
  obtain⟨bq,rfl⟩:∃b,q=some b:=by
    cases q with
    |none=>have:=(hq rfl).1;omega
    |some b=>exact⟨b,rfl⟩
  refine gY ?_;refine ff.v (fh.gk X7 X4 (k) ⟨rfl,O⟩) ?_;refine ff.v (fh.qR gu 0 X5 0 O) ?_;refine gY ?_;refine ff.v (fh.iT Ye X6 ⟨_,(W).at_⟩ uq aI (p) ⟨M,D⟩) ?_;refine ff.v (fh.ow Yb X4 ((p)*6+0)) ?_;refine ff.v (fh.iF X5 (λw _ J=>Sl.rJ (enc:=NV.cells) (sz:=6) ((W).fD J.ext).at_ (λ_=>rfl) D rfl)) ?_;refine fY 24 (λh9:b[p].op=9=>?_) λh9:¬b[p].op=9=>?_;refine gY ?_;refine ff.v (fh.iT Ye X6 ⟨_,(W).at_⟩ uq aI (p) ⟨M,D⟩) ?_;refine ff.v (fh.ow Yb X4 ((p)*6+1)) ?_;refine ff.v (fh.iF X5 (λw _ J=>Sl.rJ (enc:=NV.cells) (sz:=6) ((W).fD J.ext).at_ (λ_=>rfl) D rfl)) ?_;refine fY 33 (λT:b[p].i=ag=>?_) λT:¬b[p].i=ag=>?_;refine gY ?_;refine ff.v (fh.iT Ye X6 ⟨_,(W).at_⟩ uq aI (p) ⟨M,D⟩) ?_;refine ff.v (fh.ow Yb X4 ((p)*6+4)) ?_;refine ff.v (fh.iF X5 (λw _ J=>Sl.rJ (enc:=NV.cells) (sz:=6) ((W).fD J.ext).at_ (λ_=>rfl) D rfl)) ?_;refine fy (λS:b[p].x=n=>?_) λS:¬b[p].x=n=>?_;refine fz func111 λw' J=>?_;exact⟨J.ext,by rw[M,NP D X (by rw[F];exact h9) (by rw[F];exact T) (by rw[F];exact S) N];rfl⟩;have K:Ib b ag n p:=λ_ _=>by rw[F];exact S
  refine gY ?_;refine IH (k+1) _ _ ⟨E,λm hm Y=>?_⟩ aH zT aD;by_cases e:m=k;subst e;rw[<-hp];exact K;exact C m hm aH;have K:Ib b ag n p:=λ_ h=>absurd (by rw[F]at h;exact h) T;refine gY ?_;refine xu ?_;refine gY ?_;refine IH (k+1) _ _ ⟨E,λm hm Y=>?_⟩ aH zT aD;by_cases e:m=k;subst e;rw[<-hp];exact K;exact C m hm aH;have K:Ib b ag n p:=λh=>absurd (by rw[F]at h;exact h) h9;refine gY ?_;refine xu ?_;refine gY ?_;refine IH (k+1) _ _ ⟨E,λm hm Y=>?_⟩ aH zT aD;by_cases e:m=k;subst e;rw[<-hp];exact K;exact C m hm aH;have hge:¬k<(iQ s).length:=by rw[Q]at hc;simpa using hc
  refine kk ?_;refine fz func111 λw' J=>?_
  exact⟨J.ext,by rw[NN (λj _ P h1 h2=>by
  obtain⟨m,hm,e⟩:=cN.1 (jy.2 P);have:=C m hm aH;rw[e]at this;exact this h1 h2)];rfl⟩
def C7(b:List NV)(s:fi)(ag:Int)(p:fi)(k:Nat):fi:=((iQ p).take k).foldl (λo n=>o|||1#64<<<lP b s ag n) 0#64
theorem EX{b:List NV}{s p:fi}{ag:Int}{k:Nat}(hk:k<(iQ p).length):C7 b s ag p (k+1)=C7 b s ag p k|||1#64<<<lP b s ag (iQ p)[k]:=by
 unfold C7;rw[aU hk,List.foldl_append];rfl
theorem yz(l:Int)(A:ae)(cA:Nat)(b:List NV)(B:ae)(J cB:Nat)(x:SV)(p:fi)(w:aB)(S:FA w A b)(hs:jw b x.d.set)(ho:x.d.fK≠7->0<=x.d.on/\x.d.on<b.length):
    Qqa 101 [.agg (iE l A b.length cA B J cB),.agg x.cells.toArray,U p] w (λv _=>v=U (J3 b x.d.set (if x.d.fK=7 then x.d.on else(nd b x.d.on).i) p)):=by
  obtain⟨ag,F⟩:∃ag,ag=(if x.d.fK=7 then x.d.on else(nd b x.d.on).i):=⟨_,rfl⟩;rw[<-F];have P:(iQ p).length<=64:=@qN p 64;have E:=@oI (iQ p);refine gz func101 ?_;refine gY ?_;refine ff.bx rfl rfl rfl rfl (λW=>?_);refine ff.bx rfl rfl rfl rfl (λT=>?_);refine gY ?_;refine gM rfl rfl rfl rfl rfl call65 (λw _ C=>(by exact se p w)) ?_;rintro v w1 w2 Y' C he K;obtain⟨q,cap,sp,rfl,hq,fB,O⟩:=zo C he K;refine⟨_,O,?_⟩;refine gY ?_;refine ff.loop (σ:=Nat) (λk=>[(3,aQ W),(4,aQ T),(7,U (C7 b x.d.set ag p k)),(11,gx q (iL (iQ p)).length cap),(12,aS (iL (iQ p)).length),(13,aS k)])
    (λ_=>[(q,ob gu 3 (iL (iQ p)) sp),(some T,.cells (SV.cells x).toArray 46 (0,0)),(some W,.cells (iE l A b.length cA B J cB) 26 (0,0))]) (λk=>k<=(iQ p).length) (λk=>(iQ p).length - k) 0 aG zT aD (λk hk Y=>?_);refine lJ (λhc=>?_) λhc=>?_;have h:k<(iQ p).length:=by rw[E]at hc;simpa using hc
  have D:k<(iL (iQ p)).length:=by rw[E];exact h
  obtain⟨n,Q⟩:∃n,n=(iQ p)[k]:=⟨_,rfl⟩;have M:(iL (iQ p)).getD k 0=(n:Int):=by rw[wD h,<-Q]
  have N:bW ((lP b x.d.set ag n:Nat):Int)=1#64<<<lP b x.d.set ag n:=by unfold bW;rw[dy]
  obtain⟨bq,rfl⟩:∃b,q=some b:=by
    cases q with
    |none=>have:=(hq rfl).1;omega
    |some b=>exact⟨b,rfl⟩
  refine gY ?_;refine ff.v (jo rfl rfl rfl rfl rfl X7 X4 (k) ⟨rfl,D⟩) ?_;refine ff.v (ir gu 0 rfl rfl rfl rfl X5 0 rfl D) ?_;refine gY ?_;refine gH 14 mixed ?_;refine cY ?_;refine gi.mI (i:=7) rfl rfl rfl rfl rfl rfl call109 (λw _ C=>(by have:=CQ l A cA b B J cB x w (S.fD C.ext) ho;rw[<-F]at this;exact this)) sL ?_;refine gi.mI (i:=9) rfl rfl rfl rfl rfl rfl call111 (λw _ C=>(by rw[M];exact AH A cA b x.d.set ag n w (S.fD C.ext) hs)) sL ?_;refine gi.mI (i:=10) rfl rfl rfl rfl rfl rfl call100 (λw _ C=>(by exact nS ((lP b x.d.set ag n:Nat):Int) w aH)) sL ?_;refine cY ?_;refine mz ?_;refine gY ?_;exact Y (k+1) _ _ h aH ⟨rfl,rfl,by rw[EX h,<-Q,<-N];rfl,rfl,rfl,rfl,eZ⟩ aD;have X:¬k<(iQ p).length:=by rw[E]at hc;simpa using hc
  obtain rfl:k=(iQ p).length:=aH;refine kk ?_;refine fz func101 λw' C=>?_;exact⟨C.ext,by rw[C7,dR];rfl⟩
section
variable{l:Int}{b:List NV}{ss:List SD}{k:Nat}{x:SD}
theorem ou     (h:jr l b ss k x)(h1:x.fK≠1):0<x.fr.length:=by
 rcases h.2 with⟨e,_⟩|⟨_,_,_,h⟩|⟨_,_,_,h⟩|⟨_,_,_,_,h⟩|⟨_,_,_,_,h⟩|⟨_,_,_,h⟩|⟨_,_,_,_,h⟩;exact absurd e h1
 all_goals (rw[nh]at h;have:=h.1;simp at this;omega)
theorem vJ     (h:jr l b ss k x)(h1:x.fK=3\/x.fK=4):1<x.fr.length:=by
 rcases h.2 with⟨e,_⟩|⟨e,_⟩|⟨_,_,_,h⟩|⟨_,_,_,_,h⟩|⟨e,_⟩|⟨e,_⟩|⟨e,_⟩;omega;omega;rw[nh]at h;have:=h.1;simp at this;omega;rw[nh]at h;have:=h.1;simp at this;omega
 all_goals omega
theorem Ck     (h:jr l b ss k x)(h1:x.fK=2\/x.fK=3\/x.fK=5\/x.fK=6):(nd b x.on).op=if x.fK=2 then 5 else if x.fK=3 then 6 else if x.fK=5 then 9 else 10:=by
 rcases h.2 with⟨e,_⟩|⟨e,_,g,_⟩|⟨e,_,g,_⟩|⟨e,_⟩|⟨e,_,_,g,_⟩|⟨e,_,g,_⟩|⟨e,_⟩;omega;rw[g.2.2,if_pos e];rw[g.2.2,if_neg aH,if_pos e];omega;rw[g.2.2,if_neg aH,if_neg aH,if_pos e];rw[g.2.2,if_neg aH,if_neg aH,if_neg aH];omega
theorem Nn(l:Int)(A:ae)(cA:Nat)(b:List NV)(B:ae)(nB cB:Nat)(x:SV)(ss:List SD)(k:Nat)(Z:ae)(cZ:Nat)(O:List fi)(w:aB)(hA:FA w A b)(hb:fS b)(Y:oD w x.fa x.d.fr)(hZ:m6 w Z O)(hbf:O.length=k)(E:jr l b ss k x.d)(hfl:x.d.fr.length<=2):
    Qqa 56 [.agg (iE l A b.length cA B nB cB),.agg x.cells.toArray,.slice Z O.length cZ] w (λv _=>v=U (qe b x.d O)):=by
  have hfi:∀(j:Nat) (hj:j<x.d.fr.length),∃p:Nat,x.d.fr[j]=(p:Int)/\p<O.length:=λj hj=>by
    have:=E.uc (dL hj);exact⟨x.d.fr[j].toNat,aH,aH⟩
  obtain⟨T,hp0⟩:∃T,T=(if 0<x.d.fr.length then O.getD (x.d.fr.getD 0 0).toNat 0#64 else 0#64):=⟨_,rfl⟩;obtain⟨q0,hq0⟩:∃q0,q0=(if 1<x.d.fr.length then O.getD (x.d.fr.getD 1 0).toNat 0#64 else 0#64):=⟨_,rfl⟩;have hP:x.d.fK≠1->O.getD (x.d.fr.getD 0 0).toNat 0#64=T:=λh=>by rw[hp0,if_pos (ou E h)]
  have hQ:x.d.fK=3\/x.d.fK=4->O.getD (x.d.fr.getD 1 0).toNat 0#64=q0:=λh=>by rw[hq0,if_pos (vJ E h)]
  refine gz func56 ?_;refine gY ?_;refine ff.oE (λb3=>?_);refine ff.oE (λb4=>?_);refine ff.v (fh.yt (v:=U 0#64) rfl rfl rfl rfl) ?_;refine gE (gS (gR ?_))
  iterate 2 refine ff.v (fh.yt (v:=U 0#64) rfl rfl rfl rfl) ?_
  refine gE (gS ?_);refine iz (α:=Unit) (λ_=>[(2,.slice Z O.length cZ),(3,aQ b3),(4,aQ b4),(7,U T),(8,U 0#64)]) (λ_=>[(some b4,.cells (SV.cells x).toArray 46 (0,0)),(some b3,.cells (iE l A b.length cA B nB cB) 26 (0,0))]) (λ_=>?_) (λK=>?_);refine gS ?_;refine iz (α:=Unit) (λ_=>[(2,.slice Z O.length cZ),(3,aQ b3),(4,aQ b4),(7,U T),(8,U q0)]) (λ_=>[(some b4,.cells (SV.cells x).toArray 46 (0,0)),(some b3,.cells (iE l A b.length cA B nB cB) 26 (0,0))]) (λ_=>?_) (λK=>?_);refine fy (λS:x.d.fK=4=>?_) λS:¬x.d.fK=4=>?_;obtain⟨e0,h3,_⟩:=(vK E.1 S).1 E;have ho:=(xS.1 h3).1;refine gY ?_;refine gH 13 mixed ?_;refine cY ?_;refine gi.kh (i:=3) call100 (λw _ C=>(by exact nS x.d.on w ho.1)) sL ?_;refine cY ?_;refine gi.kh (i:=8) call100 (λw _ C=>(by exact nS x.d.e w e0)) sL ?_;refine cY ?_;refine mz ?_;refine fz func56 λw' C=>?_;exact⟨C.ext,by rw[qe,if_neg (show ¬x.d.fK=1 by omega),if_pos S,hP aH,hQ (.inr S)];rfl⟩;refine fy (λQ:x.d.fK=7=>?_) λQ:¬x.d.fK=7=>?_;refine gF call101 (λw _ C=>(by exact yz l A cA b B nB cB x T w (hA.fD C.ext) E.1 (λh=>absurd Q h))) ?_;refine fz func56 λw' C=>?_;exact⟨C.ext,by rw[if_pos Q,qe,if_neg (show ¬x.d.fK=1 by omega),if_neg S,if_pos Q,hP aH];rfl⟩;have hon:0<=x.d.on/\x.d.on<b.length:=by
    rcases E.2 with⟨_,_,h|h⟩|⟨_,_,h,_⟩|⟨_,_,h,_⟩|⟨e,_⟩|⟨_,_,_,h,_⟩|⟨_,_,h,_⟩|⟨e,_⟩;obtain⟨o,q1,q2,_⟩:=h.1.nat hb;omega;obtain⟨o,q1,_⟩:=mF.1 h.1;have:=h.2.1;omega;obtain⟨o,q1,q2,_⟩:=h.nat hb;omega;obtain⟨o,q1,q2,_⟩:=h.nat hb;omega;exact absurd e S;obtain⟨o,q1,q2,_⟩:=h.nat hb;omega;obtain⟨o,q1,q2,_⟩:=h.nat hb;omega;exact absurd e Q
  obtain⟨o,ho⟩:∃o:Nat,x.d.on=(o:Int):=⟨x.d.on.toNat,aH⟩;have D:o<b.length:=aH;have F:nd b x.d.on=b[o]:=by rw[ho,jU D]
  refine gK (gS ?_);refine ig (α:=Nat) [10,11] (λq=>[(3,aQ b3),(4,aQ b4),(7,U T),(8,U q0),(9,aQ q),(59,.agg (NV.cells b[o]).toArray),(62,U (bW x.d.on))]) (λq=>[(some q,.cells (NV.cells SW).toArray 88 (0,0)),(some b4,.cells (SV.cells x).toArray 46 (0,0)),(some b3,.cells (iE l A b.length cA B nB cB) 26 (0,0))]) (λb9=>?_) (λK=>?_);refine ff.gl X6 0 ?_;refine fy (λX:x.d.fK=2=>?_) λX:¬x.d.fK=2=>?_;have M:=Ck E (.inl X);rw[F,if_pos X]at M;have hx:=hb.x D (by rw[jU D];omega);have hy:=hb.y D (by rw[jU D];omega);rw[jU D]at hx hy;refine gY ?_;refine gH 13 mixed ?_;refine cY ?_;refine gi.kh (i:=3) call100 (λw _ C=>(by exact nS b[o].x w hx.1)) sL ?_;refine gi.kh (i:=6) call100 (λw _ C=>(by exact nS b[o].y w hy.1)) sL ?_;refine cY ?_;refine mz ?_;refine fz func56 λw' C=>?_;exact⟨C.ext,by rw[qe,if_neg (show ¬x.d.fK=1 by omega),if_neg S,if_neg Q,if_pos X,hP aH,F];rfl⟩;refine fy (λW:x.d.fK=3=>?_) λW:¬x.d.fK=3=>?_;have M:=Ck E (.inr (.inl W));rw[F,if_neg (show ¬x.d.fK=2 by omega),if_pos W]at M;have hx:=hb.x D (by rw[jU D];omega);have hy:=hb.y D (by rw[jU D];omega);rw[jU D]at hx hy;refine gY ?_;refine gH 15 mixed ?_;refine cY ?_;refine gi.kh (i:=3) call100 (λw _ C=>(by exact nS b[o].x w hx.1)) sL ?_;refine cY ?_;refine gi.kh (i:=8) call100 (λw _ C=>(by exact nS b[o].y w hy.1)) sL ?_;refine cY ?_;refine mz ?_;refine fz func56 λw' C=>?_
  exact⟨C.ext,by rw[qe,if_neg (show ¬x.d.fK=1 by omega),if_neg S,if_neg Q,if_neg X,if_pos W,hP aH,hQ (.inl W),F];rfl⟩;refine fy (λr5:x.d.fK=5=>?_) λr5:¬x.d.fK=5=>?_;have M:=Ck E (.inr (.inr (.inl r5)));rw[F,if_neg X,if_neg W,if_pos r5]at M;have hx:=hb.x D (by rw[jU D];omega);rw[jU D]at hx;refine gF call100 (λw _ C=>(by exact nS b[o].x w hx.1)) ?_;refine fz func56 λw' C=>?_;exact⟨C.ext,by rw[qe,if_neg (show ¬x.d.fK=1 by omega),if_neg S,if_neg Q,if_neg X,if_neg W,if_pos r5,hP aH,F];rfl⟩;refine fy (λr6:x.d.fK=6=>?_) λr6:¬x.d.fK=6=>?_;have M:=Ck E (.inr (.inr (.inr r6)));rw[F,if_neg X,if_neg W,if_neg r5]at M;have hx:=hb.x D (by rw[jU D];omega);rw[jU D]at hx;refine gY ?_;refine gH 12 mixed ?_;refine cY ?_;refine gi.kh (i:=5) call100 (λw _ C=>(by exact nS b[o].x w hx.1)) sL ?_;refine cY ?_;refine gi.kh (i:=7) call101 (λw _ C=>(by have:=yz l A cA b B nB cB x (T &&& ~~~ bW b[o].x) w (hA.fD C.ext) E.1 (λ_=>hon);rw[if_neg Q,F]at this;exact this)) sL ?_;refine cY ?_;refine mz ?_;refine fz func56 λw' C=>?_;exact⟨C.ext,by rw[qe,if_neg (show ¬x.d.fK=1 by omega),if_neg S,if_neg Q,if_neg X,if_neg W,if_neg r5,hP aH,F];rfl⟩;have r1:x.d.fK=1:=by
    rcases E.2 with⟨e,_⟩|⟨e,_⟩|⟨e,_⟩|⟨e,_⟩|⟨e,_⟩|⟨e,_⟩|⟨e,_⟩<;>omega
  have hcl:=(FZ.1 ((FU E.1 r1).1 E)).2;refine fy (λh2:b[o].op=2=>?_) λh2:¬b[o].op=2=>?_;refine fz func56 λw' C=>?_;exact⟨C.ext,by rw[qe,if_pos r1,F,if_pos h2];rfl⟩;have he:0<=x.d.e:=by
    rcases hcl with h|h;omega;obtain⟨e,q1,_⟩:=mF.1 h.2.2.1;omega
  refine gF call100 (λw _ C=>(by exact nS x.d.e w he)) ?_;refine fz func56 λw' C=>?_;exact⟨C.ext,by rw[qe,if_pos r1,F,if_neg h2];rfl⟩;refine ff.sP 8 13 [(some b4,.cells (SV.cells x).toArray 46 (0,0)),(some b3,.cells (iE l A b.length cA B nB cB) 26 (0,0))] sL mixed rfl ?_;refine lg.v (fh.k0 rfl rfl rfl rfl underlying26 rfl (by exact Yg) 1 rfl) ?_;refine lg.v (fh.mE rfl rfl rfl rfl Yl 1 rfl rfl) ?_;refine lg.v (fh.k0 rfl rfl rfl rfl YO rfl (by exact X4) 2 rfl) ?_;refine lg.v (fh.mE rfl rfl rfl rfl X5 0 rfl rfl) ?_;refine lg.v (fh.iT Ye X6 ⟨_,(hA).at_⟩ uq aI (o) ⟨ho,D⟩) ?_;refine lg.v (fh.lE (cs:=NV.cells b[o]) Yk X6 (λw _ C=>Sl.many (enc:=NV.cells) (sz:=6) (hA.fD C.ext).at_ (λ_=>rfl) D)) ?_;refine lg.v (fh.k0 rfl rfl rfl rfl YO rfl (by exact X4) 2 rfl) ?_;refine lg.v (fh.mE rfl rfl rfl rfl X5 0 rfl rfl) ?_;refine lg.nil ?_;refine Tl.two (d:=62) (d2:=9) rfl ?_ ?_;refine jq.call _ rfl rfl rfl rfl rfl call100 (λw _ C=>(by exact nS x.d.on w hon.1)) ?_;rintro v w1 w2 Y' C he rfl;refine⟨_,C.later he,sL,?_⟩;refine Tl.one (d:=9) rfl ?_;refine jq.ML rfl rfl rfl (λ_=>Yc _) (λb9=>⟨by repeat(first|exact aD|exact aE|refine List.Sublist.cons_cons _ ?_|refine List.Sublist.cons _ ?_),?_⟩);refine Tl.sw [10,11] rfl rfl ?_;exact K b9 _ _ sF (λ_ _ C=>C);refine jq.ML rfl rfl rfl (λ_=>Yc _) (λb9=>⟨by repeat(first|exact aD|exact aE|refine List.Sublist.cons_cons _ ?_|refine List.Sublist.cons _ ?_),?_⟩);refine Tl.one (d:=62) rfl ?_
  refine jq.call _ rfl rfl rfl rfl rfl call100 (λw _ C=>(by exact nS x.d.on w hon.1)) ?_;rintro v w1 w2 Y' C he rfl;refine⟨_,C.later he,sL,?_⟩;refine Tl.sw [10,11] rfl rfl ?_;exact K b9 _ _ sF (λ_ _ C=>C);refine fy (λg1:1<x.d.fr.length=>?_) λg1:¬1<x.d.fr.length=>?_;obtain⟨i,i1,i2⟩:=hfi 1 g1;have hq:q0=O[i]:=by rw[hq0,if_pos g1];simp[g1,i1,i2]
  refine gY ?_;refine ff.v (fM rfl rfl rfl rfl rfl X7 X4 ⟨_,Y⟩ aL (1) ⟨rfl,by simpa using g1⟩) ?_;refine ff.v (fh.iF X5 (λw _ C=>(oD.fD Y C.ext).at (1) g1)) ?_;refine ff.v (fM rfl rfl rfl rfl rfl X9 X8 ⟨_,hZ⟩ aL i ⟨i1,by simpa using i2⟩) ?_;refine ff.v (fh.iF Yi (λw _ C=>Sl.at (enc:=U) (m6.fD hZ C.ext) i i2)) ?_;refine ij ?_;refine gE ?_;exact K () _ _ (by rw[hq];exact sF) (λ_ _ C=>C);have hq:q0=0#64:=by rw[hq0,if_neg g1]
  refine gK ?_;exact K () _ _ (by rw[hq];exact sF) (λ_ _ C=>C);refine fy (λg0:0<x.d.fr.length=>?_) λg0:¬0<x.d.fr.length=>?_;obtain⟨i,i1,i2⟩:=hfi 0 g0;have hp:T=O[i]:=by rw[hp0,if_pos g0];simp[g0,i1,i2]
  refine gY ?_;refine ff.v (fM rfl rfl rfl rfl rfl X7 X4 ⟨_,Y⟩ aL (0) ⟨rfl,by simpa using g0⟩) ?_;refine ff.v (fh.iF X5 (λw _ C=>(oD.fD Y C.ext).at (0) g0)) ?_;refine ff.v (fM rfl rfl rfl rfl rfl X9 X8 ⟨_,hZ⟩ aL i ⟨i1,by simpa using i2⟩) ?_;refine ff.v (fh.iF Yi (λw _ C=>Sl.at (enc:=U) (m6.fD hZ C.ext) i i2)) ?_;refine ij ?_;refine gE ?_;exact K () _ _ (by rw[hp];exact sF) (λ_ _ C=>C);have hp:T=0#64:=by rw[hp0,if_neg g0]
  refine gK ?_;exact K () _ _ (by rw[hp];exact sF) (λ_ _ C=>C)
end
end Go.Proofs.YtpbhoidjmpjfpaaGreatDoor
