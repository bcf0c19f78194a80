/- What calls return, each under its own conditions. -/
import Derived.Test.YtpbhoidjmpjfpaaGreatDoorXP05
import Derived.Test.YtpbhoidjmpjfpaaGreatDoorXP06
set_option maxRecDepth 100000
set_option maxHeartbeats 40000000
namespace Go.Proofs.YtpbhoidjmpjfpaaGreatDoor
open Go.RowKit Go.Proofs.Wit Tryz
theorem BS:∃fs,Tryz.prog.underlying 88=some (.struct fs)/\wv fs 3:=⟨_,Yb,_,_,_,_,_,_,rfl,⟨aI,rfl,rfl⟩,⟨aI,rfl,rfl⟩,⟨aI,rfl,rfl⟩,⟨aI,rfl,rfl⟩,⟨aI,rfl,rfl⟩,⟨aI,rfl,rfl⟩⟩
theorem EV:Tryz.prog.stoodInHeld 88=false:=by kernel_rfl
theorem Lp:Tryz.prog.eqGuardType Tryz.prog.depth 88=false:=by kernel_rfl
theorem Wa{a b:NV}:oO Tryz.prog .eql 88 a.v b.v (.bool (a==b)):=by
 obtain⟨fs,hu,h⟩:=BS;exact PL hu h underlying3 X5 EV Lp
theorem Lk:(Tryz.prog.info? 88).map (λi=>(i.zero,i.size,i.bytes))=some (some VD.v,6,48):=by kernel_rfl
structure vU (q:ah) (cap:Nat) (ts:List Tr) (sp:ai):Prop where
  nil:q=none->(fH ts).length=0/\cap=0
  cap:((fH ts).flatMap NV.cells++sp).length=cap*6
  sR:oN ts
  nd:ts.Nodup
  wf:∀u∈ts,u.wf
theorem AW{ts:List Tr}{t:Tr}(h:t∉ts):(ts++[t]).idxOf t=ts.length:=by
 rw[List.idxOf_append,if_neg h];simp
theorem v9(op:Int)(w:aB):Qqa 73 [aS op] w (λv _=>v=.tuple #[EO op,.bool (okO op)]):=by
  refine gz YB ?_;refine gY ?_;refine ff.gO (λ_=>YW _) (λb2=>?_);refine fy (λh:op=1=>?_) λh1:op≠1=>?_;refine gY ?_;refine ff.cond rfl (λ_=>?_) (λhc=>by exfalso;simp[h]at hc);refine gY ?_;refine ff.v (fh.gX (bd118 (c:=[_,_,_,_,_,_,_]) rfl)) ?_;refine ff.gl Yf 0 ?_;refine gY ?_;refine ff.kD Tryz.f73 YB _ (fP.cell rfl YD Yf (j:=0) rfl rfl (fP.tmp rfl fP.nil)) (λw' p=>?_);exact⟨p.ext,by subst h;rfl⟩;refine fy (λh:op=2=>?_) λh2:op≠2=>?_;refine gY ?_;refine ff.v (fh.gX (bd118 (c:=[_,_,_,_,_,_,_]) rfl)) ?_;refine ff.gl Yf 0 ?_;refine gY ?_;refine ff.kD Tryz.f73 YB _ (fP.cell rfl YD Yf (j:=0) rfl rfl (fP.tmp rfl fP.nil)) (λw' p=>?_);exact⟨p.ext,by subst h;rfl⟩;refine fy (λh:op=3=>?_) λh3:op≠3=>?_;refine gY ?_;refine ff.v (fh.gX (bd118 (c:=[_,_,_,_,_,_,_]) rfl)) ?_;refine ff.gl Yf 0 ?_;refine gY ?_;refine ff.kD Tryz.f73 YB _ (fP.cell rfl YD Yf (j:=0) rfl rfl (fP.tmp rfl fP.nil)) (λw' p=>?_);exact⟨p.ext,by subst h;rfl⟩;refine fy (λh:op=4=>?_) λh4:op≠4=>?_;refine gY ?_;refine ff.v (fh.gX (bd118 (c:=[_,_,_,_,_,_,_]) rfl)) ?_;refine ff.gl Yf 0 ?_;refine gY ?_;refine ff.kD Tryz.f73 YB _ (fP.cell rfl YD Yf (j:=0) rfl rfl (fP.tmp rfl fP.nil)) (λw' p=>?_);exact⟨p.ext,by subst h;rfl⟩;refine fy (λh:op=5=>?_) λh5:op≠5=>?_;refine gY ?_;refine ff.cond rfl (λ_=>?_) (λhc=>by exfalso;simp[h]at hc);refine gY ?_;refine ff.v (fh.gX (bd118 (c:=[_,_,_,_,_,_,_]) rfl)) ?_;refine ff.gl Yf 0 ?_;refine gY ?_
  refine ff.kD Tryz.f73 YB _ (fP.cell rfl YD Yf (j:=0) rfl rfl (fP.tmp rfl fP.nil)) (λw' p=>?_);exact⟨p.ext,by subst h;rfl⟩;refine fy (λh:op=6=>?_) λY:op≠6=>?_;refine gY ?_;refine ff.cond rfl (λ_=>?_) (λhc=>by exfalso;simp[h]at hc);refine gY ?_;refine ff.v (fh.gX (bd118 (c:=[_,_,_,_,_,_,_]) rfl)) ?_;refine ff.gl Yf 0 ?_;refine gY ?_;refine ff.kD Tryz.f73 YB _ (fP.cell rfl YD Yf (j:=0) rfl rfl (fP.tmp rfl fP.nil)) (λw' p=>?_);exact⟨p.ext,by subst h;rfl⟩;refine fy (λh:op=7=>?_) λX:op≠7=>?_;refine gY ?_;refine ff.cond rfl (λ_=>?_) (λhc=>by exfalso;simp[h]at hc);refine gY ?_;refine ff.v (fh.gX (bd118 (c:=[_,_,_,_,_,_,_]) rfl)) ?_;refine ff.gl Yf 0 ?_;refine gY ?_;refine ff.kD Tryz.f73 YB _ (fP.cell rfl YD Yf (j:=0) rfl rfl (fP.tmp rfl fP.nil)) (λw' p=>?_);exact⟨p.ext,by subst h;rfl⟩;refine fy (λh:op=8=>?_) λW:op≠8=>?_;refine gY ?_;refine ff.v (fh.gX (bd118 (c:=[_,_,_,_,_,_,_]) rfl)) ?_;refine ff.gl Yf 0 ?_;refine gY ?_;refine ff.kD Tryz.f73 YB _ (fP.cell rfl YD Yf (j:=0) rfl rfl (fP.tmp rfl fP.nil)) (λw' p=>?_);exact⟨p.ext,by subst h;rfl⟩;refine fy (λh:op=9=>?_) λT:op≠9=>?_;refine gY ?_;refine ff.cond rfl (λ_=>?_) (λhc=>by exfalso;simp[h]at hc);refine gY ?_;refine ff.v (fh.gX (bd118 (c:=[_,_,_,_,_,_,_]) rfl)) ?_;refine ff.gl Yf 0 ?_;refine gY ?_;refine ff.kD Tryz.f73 YB _ (fP.cell rfl YD Yf (j:=0) rfl rfl (fP.tmp rfl fP.nil)) (λw' p=>?_);exact⟨p.ext,by subst h;rfl⟩;refine fy (λh:op=10=>?_) λS:op≠10=>?_
  refine gY ?_;refine ff.v (fh.gX (bd118 (c:=[_,_,_,_,_,_,_]) rfl)) ?_;refine ff.gl Yf 0 ?_;refine gY ?_;refine ff.kD Tryz.f73 YB _ (fP.cell rfl YD Yf (j:=0) rfl rfl (fP.tmp rfl fP.nil)) (λw' p=>?_);exact⟨p.ext,by subst h;rfl⟩;refine fy (λh:op=11=>?_) λQ:op≠11=>?_;refine gY ?_;refine ff.v (fh.gX (bd118 (c:=[_,_,_,_,_,_,_]) rfl)) ?_;refine ff.gl Yf 0 ?_;refine gY ?_;refine ff.kD Tryz.f73 YB _ (fP.cell rfl YD Yf (j:=0) rfl rfl (fP.tmp rfl fP.nil)) (λw' p=>?_);exact⟨p.ext,by subst h;rfl⟩;refine fy (λh:op=12=>?_) λP:op≠12=>?_;refine gY ?_;refine ff.v (fh.gX (bd118 (c:=[_,_,_,_,_,_,_]) rfl)) ?_;refine ff.gl Yf 0 ?_;refine gY ?_;refine ff.kD Tryz.f73 YB _ (fP.cell rfl YD Yf (j:=0) rfl rfl (fP.tmp rfl fP.nil)) (λw' p=>?_);exact⟨p.ext,by subst h;rfl⟩;refine fy (λh:op=13=>?_) λO:op≠13=>?_;refine gY ?_;refine ff.v (fh.gX (bd118 (c:=[_,_,_,_,_,_,_]) rfl)) ?_;refine ff.gl Yf 0 ?_;refine gY ?_;refine ff.kD Tryz.f73 YB _ (fP.cell rfl YD Yf (j:=0) rfl rfl (fP.tmp rfl fP.nil)) (λw' p=>?_);exact⟨p.ext,by subst h;rfl⟩;refine fy (λh:op=14=>?_) λN:op≠14=>?_;refine gY ?_;refine ff.v (fh.gX (bd118 (c:=[_,_,_,_,_,_,_]) rfl)) ?_;refine ff.gl Yf 0 ?_;refine gY ?_;refine ff.kD Tryz.f73 YB _ (fP.cell rfl YD Yf (j:=0) rfl rfl (fP.tmp rfl fP.nil)) (λw' p=>?_);exact⟨p.ext,by subst h;rfl⟩;refine fy (λh:op=15=>?_) λM:op≠15=>?_;refine gY ?_;refine ff.v (fh.gX (bd118 (c:=[_,_,_,_,_,_,_]) rfl)) ?_;refine ff.gl Yf 0 ?_;refine gY ?_
  refine ff.kD Tryz.f73 YB _ (fP.cell rfl YD Yf (j:=0) rfl rfl (fP.tmp rfl fP.nil)) (λw' p=>?_);exact⟨p.ext,by subst h;rfl⟩;refine fy (λh:op=16=>?_) λK:op≠16=>?_;refine gY ?_;refine ff.v (fh.gX (bd118 (c:=[_,_,_,_,_,_,_]) rfl)) ?_;refine ff.gl Yf 0 ?_;refine gY ?_;refine ff.kD Tryz.f73 YB _ (fP.cell rfl YD Yf (j:=0) rfl rfl (fP.tmp rfl fP.nil)) (λw' p=>?_);exact⟨p.ext,by subst h;rfl⟩;refine fy (λh:op=17=>?_) λJ:op≠17=>?_;refine gY ?_;refine ff.v (fh.gX (bd118 (c:=[_,_,_,_,_,_,_]) rfl)) ?_;refine ff.gl Yf 0 ?_;refine gY ?_;refine ff.kD Tryz.f73 YB _ (fP.cell rfl YD Yf (j:=0) rfl rfl (fP.tmp rfl fP.nil)) (λw' p=>?_);exact⟨p.ext,by subst h;rfl⟩;refine fy (λh:op=18=>?_) λF:op≠18=>?_;refine gY ?_;refine ff.cond rfl (λ_=>?_) (λhc=>by exfalso;simp[h]at hc);refine gY ?_;refine ff.v (fh.gX (bd118 (c:=[_,_,_,_,_,_,_]) rfl)) ?_;refine ff.gl Yf 0 ?_;refine gY ?_;refine ff.kD Tryz.f73 YB _ (fP.cell rfl YD Yf (j:=0) rfl rfl (fP.tmp rfl fP.nil)) (λw' p=>?_);exact⟨p.ext,by subst h;rfl⟩;refine fy (λh:op=20=>?_) λD:op≠20=>?_;refine gY ?_;refine ff.v (fh.gX (bd118 (c:=[_,_,_,_,_,_,_]) rfl)) ?_;refine ff.gl Yf 0 ?_;refine gY ?_;refine ff.kD Tryz.f73 YB _ (fP.cell rfl YD Yf (j:=0) rfl rfl (fP.tmp rfl fP.nil)) (λw' p=>?_);exact⟨p.ext,by subst h;rfl⟩;refine fy (λh:op=19=>?_) λE:op≠19=>?_;refine gY ?_;refine ff.cond rfl (λ_=>?_) (λhc=>by exfalso;simp[h]at hc);refine gY ?_;refine ff.v (fh.gX (bd118 (c:=[_,_,_,_,_,_,_]) rfl)) ?_
  refine ff.gl Yf 0 ?_;refine gY ?_;refine ff.kD Tryz.f73 YB _ (fP.cell rfl YD Yf (j:=0) rfl rfl (fP.tmp rfl fP.nil)) (λw' p=>?_);exact⟨p.ext,by subst h;rfl⟩;refine fy (λh:op=21=>?_) λC:op≠21=>?_;refine gY ?_;refine ff.v (fh.gX (bd118 (c:=[_,_,_,_,_,_,_]) rfl)) ?_;refine ff.gl Yf 0 ?_;refine gY ?_;refine ff.kD Tryz.f73 YB _ (fP.cell rfl YD Yf (j:=0) rfl rfl (fP.tmp rfl fP.nil)) (λw' p=>?_);exact⟨p.ext,by subst h;rfl⟩;refine gY ?_;refine ff.v (fh.gX (bd118 (c:=[_,_,_,_,_,_,_]) rfl)) ?_;refine ff.gl Yf 0 ?_;refine gY ?_;refine ff.kD Tryz.f73 YB _ (fP.cell rfl YD Yf (j:=0) rfl rfl (fP.tmp rfl fP.nil)) (λw' p=>?_);exact⟨p.ext,by rw[Nt aH,Oj aH];rfl⟩
theorem AU(u:Bool)(x at_:Int)(w:aB):Qqa 118 [.bool u,aS x,aS at_] w (λv _=>v=.bool (Dr u x at_)):=by
  refine gz func118 ?_;refine fY 8 (λhu:u=true=>?_) λhu:u=false=>?_;subst hu;refine fY 12 (λh1:0<=x=>?_) λh1:¬0<=x=>?_;refine fY 17 (λh2:x<at_=>?_) λh2:¬x<at_=>?_;refine fz func118 λw' h=>?_;exact⟨h.ext,by simp[Dr,h1,h2,nV]⟩;refine mG 20 (λhc=>?_) λhc=>?_;simp at hc;refine fz func118 λw' h=>?_;exact⟨h.ext,by simp[Dr,h1,h2,nV]⟩;refine mG 20 (λhc=>?_) λhc=>?_;simp at hc;refine fz func118 λw' h=>?_;exact⟨h.ext,by simp[Dr,h1,nV]⟩;subst hu;refine mG 20 (λhc=>?_) λhc=>?_;refine fz func118 λw' h=>?_;exact⟨h.ext,by simp[Dr,nV]⟩;simp at hc
theorem Dd(u:Bool)(x lo hi:Int)(w:aB):Qqa 119 [.bool u,aS x,aS lo,aS hi] w (λv _=>v=.bool (u5 u x lo hi)):=by
  refine gz func119 ?_;refine fY 10 (λhu:u=true=>?_) λhu:u=false=>?_;subst hu;refine fY 14 (λh1:x<lo=>?_) λh1:¬x<lo=>?_;refine fz func119 λw' h=>?_;exact⟨h.ext,by simp[u5,h1,nV]⟩;refine fz func119 λw' h=>?_;exact⟨h.ext,by simp[u5,h1,nV]⟩;subst hu;refine fz func119 λw' h=>?_;exact⟨h.ext,by simp[u5,nV]⟩
theorem KF(n:NV)(at_:Int)(w:aB):Qqa 72 [n.v,aS at_] w (λv _=>v=aS (mi n at_)):=by
  refine gz func72 ?_;refine gY ?_;refine ff.oE (λb2=>?_);refine gF call73 (λw _ C=>(by exact v9 n.op w)) ?_;refine gY ?_;refine ff.gO (λ_=>YW _) (λY=>?_);refine ff.gl Yf 0 ?_;refine lJ (λhc=>?_) λhc=>?_;have D:¬(1<=n.op/\n.op<=21):=λh=>by simp[okO,h]at hc
  refine fz func72 λw' C=>?_;exact⟨C.ext,by rw[KG D];rfl⟩;have D:1<=n.op/\n.op<=21:=by simpa[okO]using hc
  refine gF call118 (λw _ C=>(by exact AU (ji n.op) n.x at_ w)) ?_;refine fY 23 (λhb:Dr (ji n.op) n.x at_=false=>?_) λJ:Dr (ji n.op) n.x at_=true=>?_;refine gY ?_;refine sd ?_;refine fz func72 λw' C=>?_;exact⟨C.ext,by rw[Ot D hb];rfl⟩;refine gF call118 (λw _ C=>(by exact AU (iM n.op) n.y at_ w)) ?_;refine fy (λhb:Dr (iM n.op) n.y at_=false=>?_) λF:Dr (iM n.op) n.y at_=true=>?_;refine fz func72 λw' C=>?_;exact⟨C.ext,by rw[Oq D hb];rfl⟩;refine gK (gS (gS ?_));refine ig (α:={p:Bool // p=true↔(!iO n.op && n.i !=0||n.op !=17 && n.e !=0||!rZ n.op && n.g !=0)=true}) [] (λz=>[(1,aS at_),(2,aQ b2),(5,aQ Y),(67,.bool z.1)]) (λ_=>[(some Y,.cells (EO n.op).cells 118 (0,0)),(some b2,.cells (NV.cells n).toArray 88 (0,0))]) (λz=>?_) (λK=>?_);obtain⟨p67,O⟩:=z;dsimp only at O⊢;refine lJ (λhc=>?_) λhc=>?_;skip;refine fz func72 λw' C=>?_;exact⟨C.ext,by rw[rz D J F,R4 (O.1 hc)];rfl⟩;have N:(!iO n.op && n.i !=0||n.op !=17 && n.e !=0||!rZ n.op && n.g !=0)=false:=dv.2 λh=>by rw[O.2 h]at hc;cases hc
  refine gF call119 (λw _ C=>(by exact Dd (n.op==3) n.i 0 7 w)) ?_;refine mG 74 (λhc=>?_) λhc=>?_;have hb:(n.op==3)=true/\(n.i<0\/7<n.i):=by simpa[u5]using hc
  refine gY ?_;refine sd ?_;refine fz func72 λw' C=>?_;exact⟨C.ext,by rw[rz D J F,zt N (by obtain⟨h1,h2⟩:=hb;simp[h1];omega)];rfl⟩;have hr0:(n.op==3)=true->0<=n.i/\n.i<=7:=λh=>by simp[u5,h]at hc;omega
  refine gF call119 (λw _ C=>(by exact Dd (ui n.op) n.i 0 3 w)) ?_;refine mG 82 (λhc=>?_) λhc=>?_;have hb:(ui n.op)=true/\(n.i<0\/3<n.i):=by simpa[u5]using hc
  refine gY ?_;refine sd ?_;refine fz func72 λw' C=>?_;exact⟨C.ext,by rw[rz D J F,zt N (by obtain⟨h1,h2⟩:=hb;simp[h1];omega)];rfl⟩;have hr1:(ui n.op)=true->0<=n.i/\n.i<=3:=λh=>by simp[u5,h]at hc;omega
  refine gF call119 (λw _ C=>(by exact Dd (n.op==17) n.i 0 7 w)) ?_;refine mG 90 (λhc=>?_) λhc=>?_;have hb:(n.op==17)=true/\(n.i<0\/7<n.i):=by simpa[u5]using hc
  refine gY ?_;refine sd ?_;refine fz func72 λw' C=>?_;exact⟨C.ext,by rw[rz D J F,zt N (by obtain⟨h1,h2⟩:=hb;simp[h1];omega)];rfl⟩;have hr2:(n.op==17)=true->0<=n.i/\n.i<=7:=λh=>by simp[u5,h]at hc;omega
  refine gF call119 (λw _ C=>(by exact Dd (n.op==17) n.e 0 7 w)) ?_;refine mG 98 (λhc=>?_) λhc=>?_;have hb:(n.op==17)=true/\(n.e<0\/7<n.e):=by simpa[u5]using hc
  refine gY ?_;refine sd ?_;refine fz func72 λw' C=>?_;exact⟨C.ext,by rw[rz D J F,zt N (by obtain⟨h1,h2⟩:=hb;simp[h1];omega)];rfl⟩;have hr3:(n.op==17)=true->0<=n.e/\n.e<=7:=λh=>by simp[u5,h]at hc;omega
  refine gF call119 (λw _ C=>(by exact Dd (rZ n.op) n.g 1 15 w)) ?_;refine lJ (λhc=>?_) λhc=>?_;have hb:(rZ n.op)=true/\(n.g<1\/15<n.g):=by simpa[u5]using hc
  refine fz func72 λw' C=>?_;exact⟨C.ext,by rw[rz D J F,zt N (by obtain⟨h1,h2⟩:=hb;simp[h1];omega)];rfl⟩;have hr4:(rZ n.op)=true->1<=n.g/\n.g<=15:=λh=>by simp[u5,h]at hc;omega
  refine fz func72 λw' C=>?_
  exact⟨C.ext,by rw[rz D J F,R5 N (by
  simp only[Bool.or_eq_false_iff,ct,Bool.not_eq_false',dG,dE];refine⟨⟨⟨?_,?_⟩,?_⟩,?_⟩;cases h:n.op==3 with
  |false=>exact .inl rfl
  |true=>exact .inr (by have:=hr0 h;omega)
  cases h:ui n.op with
  |false=>exact .inl rfl
  |true=>exact .inr (by have:=hr1 h;omega)
  cases h:n.op==17 with
  |false=>exact .inl rfl
  |true=>exact .inr (by have:=hr2 h;have:=hr3 h;omega)
  cases h:rZ n.op with
  |false=>exact .inl rfl
  |true=>exact .inr (by have:=hr4 h;omega))];rfl⟩
  refine ig (α:={p:Bool // p=true↔iO n.op=true}) [10,11,12,13,14,15,16,17,18,19,20,21,22,23,24,25,26,27,28,29,30,31,32,33,34,35] (λz=>[(1,aS at_),(2,aQ b2),(5,aQ Y),(41,.bool z.1)]) (λ_=>[(some Y,.cells (EO n.op).cells 118 (0,0)),(some b2,.cells (NV.cells n).toArray 88 (0,0))]) (λz=>?_) (λK=>?_);obtain⟨p41,P⟩:=z;dsimp only at P⊢;refine mG 43 (λhc=>?_) λhc=>?_;have W:iO n.op=false:=dv.2 λh=>by rw[P.2 h]at hc;cases hc
  refine fY 48 (λhi:¬n.i=0=>?_) λhi:n.i=0=>?_
  iterate 8 refine ov ?_
  refine rH ?_;refine jk ?_
  iterate 8 refine ov ?_
  refine rH ?_;exact K ⟨true,by simp[W,hi]⟩ _ _ sF (λ_ _ C=>C);refine fY 52 (λE:(n.op !=17)=true=>?_) λE:(n.op !=17)=false=>?_;refine fY 58 (λhe:¬n.e=0=>?_) λhe:n.e=0=>?_
  iterate 8 refine ov ?_
  refine rH ?_;exact K ⟨true,by simp[E,he]⟩ _ _ sF (λ_ _ C=>C);refine fY 62 (λM:rZ n.op=false=>?_) λM:rZ n.op=true=>?_;refine oL Yb X4 3 ?_;refine xe X5 1 ?_;refine jO Eo ?_;refine rH ?_;refine qv ?_;exact K ⟨n.g !=0,by simp[hi,he,M]⟩ _ _ sF (λ_ _ C=>C)
  iterate 3 refine ov ?_
  iterate 2 refine qv ?_
  exact K ⟨false,by simp[hi,he,M]⟩ _ _ sF (λ_ _ C=>C);refine fY 62 (λM:rZ n.op=false=>?_) λM:rZ n.op=true=>?_;refine oL Yb X4 3 ?_;refine xe X5 1 ?_;refine jO Eo ?_;refine rH ?_;refine qv ?_;exact K ⟨n.g !=0,by simp[hi,E,M]⟩ _ _ sF (λ_ _ C=>C)
  iterate 3 refine ov ?_
  iterate 2 refine qv ?_
  exact K ⟨false,by simp[hi,E,M]⟩ _ _ sF (λ_ _ C=>C);have W:iO n.op=true:=P.1 aJ;refine fY 52 (λE:(n.op !=17)=true=>?_) λE:(n.op !=17)=false=>?_;refine fY 58 (λhe:¬n.e=0=>?_) λhe:n.e=0=>?_
  iterate 8 refine ov ?_
  refine rH ?_;exact K ⟨true,by simp[E,he]⟩ _ _ sF (λ_ _ C=>C);refine fY 62 (λM:rZ n.op=false=>?_) λM:rZ n.op=true=>?_;refine oL Yb X4 3 ?_;refine xe X5 1 ?_;refine jO Eo ?_;refine rH ?_;refine qv ?_;exact K ⟨n.g !=0,by simp[W,he,M]⟩ _ _ sF (λ_ _ C=>C)
  iterate 3 refine ov ?_
  iterate 2 refine qv ?_
  exact K ⟨false,by simp[W,he,M]⟩ _ _ sF (λ_ _ C=>C);refine fY 62 (λM:rZ n.op=false=>?_) λM:rZ n.op=true=>?_;refine oL Yb X4 3 ?_;refine xe X5 1 ?_;refine jO Eo ?_;refine rH ?_;refine qv ?_;exact K ⟨n.g !=0,by simp[W,E,M]⟩ _ _ sF (λ_ _ C=>C)
  iterate 3 refine ov ?_
  iterate 2 refine qv ?_
  exact K ⟨false,by simp[W,E,M]⟩ _ _ sF (λ_ _ C=>C);refine fY 34 (λh3:(n.op==3)=true=>?_) λh3:(n.op==3)=false=>?_
  iterate 2 refine ov ?_
  refine rH ?_;refine jk ?_
  iterate 2 refine ov ?_
  refine rH ?_;exact K ⟨true,by simp[iO,h3]⟩ _ _ sF (λ_ _ C=>C);refine fY 38 (λhA:ui n.op=true=>?_) λhA:ui n.op=false=>?_
  iterate 2 refine ov ?_
  refine rH ?_;exact K ⟨true,by simp[iO,hA]⟩ _ _ sF (λ_ _ C=>C);refine oL underlying118 Yd 5 ?_;refine xe Yw 0 ?_;refine qv ?_;exact K ⟨n.op==17,by simp[iO,hA,h3]⟩ _ _ sF (λ_ _ C=>C)
theorem kN(a:ae)(D:Nat)(f:List NV)(w:aB)(ha:FA w a f)(E:f.length<=maxLen):Qqa 35 [.slice a f.length D] w (λv _=>v=aS (gp f)):=by
  unfold maxLen at E;refine gz func35 ?_;refine fy (λh1:f.length=0=>?_) λh1:¬f.length=0=>?_;refine fz func35 λw' p=>?_;exact⟨p.ext,by rw[gp,if_pos h1];rfl⟩;refine fy (λh2:200<f.length=>?_) λh2:¬200<f.length=>?_;refine fz func35 λw' p=>?_;exact⟨p.ext,by rw[gp,if_neg h1,if_pos h2];rfl⟩;refine gY ?_;refine ff.loop (σ:=Nat) (λk=>[(0,.slice a f.length D),(12,.slice a f.length D),(13,aS f.length),(14,aS k)]) (λ_=>[]) (λk=>k<=f.length/\lX (I9 f) k=0) (λk=>f.length - k) 0 ⟨aG,rfl⟩ zT .slnil (λk J K=>?_);obtain⟨hk,hz⟩:=J;refine fy (λh:k<f.length=>?_) λF:¬k<f.length=>?_;have he:I9 f k=mi f[k] k:=by simp[I9,h]
  refine gY ?_;refine ff.v (fh.iT Ye X6 ⟨_,(ha).at_⟩ uq aI (k) ⟨rfl,h⟩) ?_;refine ff.v (fh.lE (cs:=NV.cells f[k]) Yk X6 (λw _ p=>Sl.many (enc:=NV.cells) (sz:=6) (ha.fD p.ext).at_ (λ_=>rfl) h)) ?_;refine ff.gO (λ_=>Yc _) (λM=>?_);refine gY ?_;refine ff.gl X6 0 ?_;refine gF call72 (λw _ p=>(by exact KF f[k] k w)) ?_;refine fy (λC:mi f[k] k≠0=>?_) λC:mi f[k] k=0=>?_;refine fz func35 λw' p=>?_;exact⟨p.ext,by rw[gp,if_neg h1,if_neg h2,FK hz (by rw[he];exact C) h,he];rfl⟩;refine gY ?_;exact K (k+1) _ _ ⟨h,by rw[lX,if_neg (by simp[hz]),he];exact C⟩ aH zT (.cons _ .slnil);obtain rfl:k=f.length:=aH;refine kk ?_;refine fz func35 λw' p=>?_;exact⟨p.ext,by rw[gp,if_neg h1,if_neg h2,hz];rfl⟩
end Go.Proofs.YtpbhoidjmpjfpaaGreatDoor
