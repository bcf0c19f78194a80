/- What calls return, each under its own conditions. -/
import Derived.Test.YtpbhoidjmpjfpaaGreatDoorXT04
import Derived.Test.YtpbhoidjmpjfpaaGreatDoorXT05
set_option maxRecDepth 100000
set_option maxHeartbeats 40000000
namespace Go.Proofs.YtpbhoidjmpjfpaaGreatDoor
open Go.RowKit Go.Proofs.Wit Tryz
theorem xV:∃fs,Tryz.prog.underlying 88=some (.struct fs)/\tv fs 3:=⟨_,Rw,_,_,_,_,_,_,rfl,⟨aI,rfl,rfl⟩,⟨aI,rfl,rfl⟩,⟨aI,rfl,rfl⟩,⟨aI,rfl,rfl⟩,⟨aI,rfl,rfl⟩,⟨aI,rfl,rfl⟩⟩
theorem As:Tryz.prog.stoodInHeld 88=false:=by kernel_rfl
theorem E2:Tryz.prog.eqGuardType Tryz.prog.depth 88=false:=by kernel_rfl
theorem OZ{a b:NV}:nE Tryz.prog .eql 88 a.v b.v (.bool (a==b)):=by
 obtain⟨fs,hu,h⟩:=xV;exact IL hu h underlying3 Q9 As E2
theorem EX:(Tryz.prog.info? 88).map (λi=>(i.zero,i.size,i.bytes))=some (some OA.v,6,48):=by kernel_rfl
structure sU (q:ah) (cap:Nat) (ts:List Tr) (sp:ai):Prop where
  nil:q=none->(eJ ts).length=0/\cap=0
  cap:((eJ ts).flatMap NV.cells++sp).length=cap*6
  pP:mK ts
  nd:ts.Nodup
  wf:∀u∈ts,u.wf
theorem w5{ts:List Tr}{t:Tr}(h:t∉ts):(ts++[t]).idxOf t=ts.length:=by
 rw[List.idxOf_append,if_neg h];simp
theorem xJ(op:Int)(w:aB):Qqa 73 [aS op] w (λv _=>v=.tuple #[CE op,.bool (okO op)]):=by
  refine gI RA ?_;refine gY ?_;refine eB.fZ (λ_=>zeroValue118 _) (λb2=>?_);refine eG (λh:op=1=>?_) λh1:op≠1=>?_;refine gY ?_;refine eB.cond rfl (λ_=>?_) (λhc=>by exfalso;simp[h]at hc);refine gY ?_;refine eB.v (eD.fU (bd118 (c:=[_,_,_,_,_,_,_]) rfl)) ?_;refine eB.fA Rg 0 ?_;refine gY ?_;refine eB.js Tryz.f73 RA _ (eS.cell rfl RD Rg (j:=0) rfl rfl (eS.tmp rfl eS.nil)) (λw' p=>?_);exact⟨p.ext,by subst h;rfl⟩;refine eG (λh:op=2=>?_) λh2:op≠2=>?_;refine gY ?_;refine eB.v (eD.fU (bd118 (c:=[_,_,_,_,_,_,_]) rfl)) ?_;refine eB.fA Rg 0 ?_;refine gY ?_;refine eB.js Tryz.f73 RA _ (eS.cell rfl RD Rg (j:=0) rfl rfl (eS.tmp rfl eS.nil)) (λw' p=>?_);exact⟨p.ext,by subst h;rfl⟩;refine eG (λh:op=3=>?_) λh3:op≠3=>?_;refine gY ?_;refine eB.v (eD.fU (bd118 (c:=[_,_,_,_,_,_,_]) rfl)) ?_;refine eB.fA Rg 0 ?_;refine gY ?_;refine eB.js Tryz.f73 RA _ (eS.cell rfl RD Rg (j:=0) rfl rfl (eS.tmp rfl eS.nil)) (λw' p=>?_);exact⟨p.ext,by subst h;rfl⟩;refine eG (λh:op=4=>?_) λh4:op≠4=>?_;refine gY ?_;refine eB.v (eD.fU (bd118 (c:=[_,_,_,_,_,_,_]) rfl)) ?_;refine eB.fA Rg 0 ?_;refine gY ?_;refine eB.js Tryz.f73 RA _ (eS.cell rfl RD Rg (j:=0) rfl rfl (eS.tmp rfl eS.nil)) (λw' p=>?_);exact⟨p.ext,by subst h;rfl⟩;refine eG (λh:op=5=>?_) λh5:op≠5=>?_;refine gY ?_;refine eB.cond rfl (λ_=>?_) (λhc=>by exfalso;simp[h]at hc);refine gY ?_;refine eB.v (eD.fU (bd118 (c:=[_,_,_,_,_,_,_]) rfl)) ?_;refine eB.fA Rg 0 ?_;refine gY ?_
  refine eB.js Tryz.f73 RA _ (eS.cell rfl RD Rg (j:=0) rfl rfl (eS.tmp rfl eS.nil)) (λw' p=>?_);exact⟨p.ext,by subst h;rfl⟩;refine eG (λh:op=6=>?_) λY:op≠6=>?_;refine gY ?_;refine eB.cond rfl (λ_=>?_) (λhc=>by exfalso;simp[h]at hc);refine gY ?_;refine eB.v (eD.fU (bd118 (c:=[_,_,_,_,_,_,_]) rfl)) ?_;refine eB.fA Rg 0 ?_;refine gY ?_;refine eB.js Tryz.f73 RA _ (eS.cell rfl RD Rg (j:=0) rfl rfl (eS.tmp rfl eS.nil)) (λw' p=>?_);exact⟨p.ext,by subst h;rfl⟩;refine eG (λh:op=7=>?_) λX:op≠7=>?_;refine gY ?_;refine eB.cond rfl (λ_=>?_) (λhc=>by exfalso;simp[h]at hc);refine gY ?_;refine eB.v (eD.fU (bd118 (c:=[_,_,_,_,_,_,_]) rfl)) ?_;refine eB.fA Rg 0 ?_;refine gY ?_;refine eB.js Tryz.f73 RA _ (eS.cell rfl RD Rg (j:=0) rfl rfl (eS.tmp rfl eS.nil)) (λw' p=>?_);exact⟨p.ext,by subst h;rfl⟩;refine eG (λh:op=8=>?_) λW:op≠8=>?_;refine gY ?_;refine eB.v (eD.fU (bd118 (c:=[_,_,_,_,_,_,_]) rfl)) ?_;refine eB.fA Rg 0 ?_;refine gY ?_;refine eB.js Tryz.f73 RA _ (eS.cell rfl RD Rg (j:=0) rfl rfl (eS.tmp rfl eS.nil)) (λw' p=>?_);exact⟨p.ext,by subst h;rfl⟩;refine eG (λh:op=9=>?_) λT:op≠9=>?_;refine gY ?_;refine eB.cond rfl (λ_=>?_) (λhc=>by exfalso;simp[h]at hc);refine gY ?_;refine eB.v (eD.fU (bd118 (c:=[_,_,_,_,_,_,_]) rfl)) ?_;refine eB.fA Rg 0 ?_;refine gY ?_;refine eB.js Tryz.f73 RA _ (eS.cell rfl RD Rg (j:=0) rfl rfl (eS.tmp rfl eS.nil)) (λw' p=>?_);exact⟨p.ext,by subst h;rfl⟩;refine eG (λh:op=10=>?_) λS:op≠10=>?_
  refine gY ?_;refine eB.v (eD.fU (bd118 (c:=[_,_,_,_,_,_,_]) rfl)) ?_;refine eB.fA Rg 0 ?_;refine gY ?_;refine eB.js Tryz.f73 RA _ (eS.cell rfl RD Rg (j:=0) rfl rfl (eS.tmp rfl eS.nil)) (λw' p=>?_);exact⟨p.ext,by subst h;rfl⟩;refine eG (λh:op=11=>?_) λQ:op≠11=>?_;refine gY ?_;refine eB.v (eD.fU (bd118 (c:=[_,_,_,_,_,_,_]) rfl)) ?_;refine eB.fA Rg 0 ?_;refine gY ?_;refine eB.js Tryz.f73 RA _ (eS.cell rfl RD Rg (j:=0) rfl rfl (eS.tmp rfl eS.nil)) (λw' p=>?_);exact⟨p.ext,by subst h;rfl⟩;refine eG (λh:op=12=>?_) λP:op≠12=>?_;refine gY ?_;refine eB.v (eD.fU (bd118 (c:=[_,_,_,_,_,_,_]) rfl)) ?_;refine eB.fA Rg 0 ?_;refine gY ?_;refine eB.js Tryz.f73 RA _ (eS.cell rfl RD Rg (j:=0) rfl rfl (eS.tmp rfl eS.nil)) (λw' p=>?_);exact⟨p.ext,by subst h;rfl⟩;refine eG (λh:op=13=>?_) λO:op≠13=>?_;refine gY ?_;refine eB.v (eD.fU (bd118 (c:=[_,_,_,_,_,_,_]) rfl)) ?_;refine eB.fA Rg 0 ?_;refine gY ?_;refine eB.js Tryz.f73 RA _ (eS.cell rfl RD Rg (j:=0) rfl rfl (eS.tmp rfl eS.nil)) (λw' p=>?_);exact⟨p.ext,by subst h;rfl⟩;refine eG (λh:op=14=>?_) λN:op≠14=>?_;refine gY ?_;refine eB.v (eD.fU (bd118 (c:=[_,_,_,_,_,_,_]) rfl)) ?_;refine eB.fA Rg 0 ?_;refine gY ?_;refine eB.js Tryz.f73 RA _ (eS.cell rfl RD Rg (j:=0) rfl rfl (eS.tmp rfl eS.nil)) (λw' p=>?_);exact⟨p.ext,by subst h;rfl⟩;refine eG (λh:op=15=>?_) λM:op≠15=>?_;refine gY ?_;refine eB.v (eD.fU (bd118 (c:=[_,_,_,_,_,_,_]) rfl)) ?_;refine eB.fA Rg 0 ?_;refine gY ?_
  refine eB.js Tryz.f73 RA _ (eS.cell rfl RD Rg (j:=0) rfl rfl (eS.tmp rfl eS.nil)) (λw' p=>?_);exact⟨p.ext,by subst h;rfl⟩;refine eG (λh:op=16=>?_) λK:op≠16=>?_;refine gY ?_;refine eB.v (eD.fU (bd118 (c:=[_,_,_,_,_,_,_]) rfl)) ?_;refine eB.fA Rg 0 ?_;refine gY ?_;refine eB.js Tryz.f73 RA _ (eS.cell rfl RD Rg (j:=0) rfl rfl (eS.tmp rfl eS.nil)) (λw' p=>?_);exact⟨p.ext,by subst h;rfl⟩;refine eG (λh:op=17=>?_) λJ:op≠17=>?_;refine gY ?_;refine eB.v (eD.fU (bd118 (c:=[_,_,_,_,_,_,_]) rfl)) ?_;refine eB.fA Rg 0 ?_;refine gY ?_;refine eB.js Tryz.f73 RA _ (eS.cell rfl RD Rg (j:=0) rfl rfl (eS.tmp rfl eS.nil)) (λw' p=>?_);exact⟨p.ext,by subst h;rfl⟩;refine eG (λh:op=18=>?_) λF:op≠18=>?_;refine gY ?_;refine eB.cond rfl (λ_=>?_) (λhc=>by exfalso;simp[h]at hc);refine gY ?_;refine eB.v (eD.fU (bd118 (c:=[_,_,_,_,_,_,_]) rfl)) ?_;refine eB.fA Rg 0 ?_;refine gY ?_;refine eB.js Tryz.f73 RA _ (eS.cell rfl RD Rg (j:=0) rfl rfl (eS.tmp rfl eS.nil)) (λw' p=>?_);exact⟨p.ext,by subst h;rfl⟩;refine eG (λh:op=20=>?_) λD:op≠20=>?_;refine gY ?_;refine eB.v (eD.fU (bd118 (c:=[_,_,_,_,_,_,_]) rfl)) ?_;refine eB.fA Rg 0 ?_;refine gY ?_;refine eB.js Tryz.f73 RA _ (eS.cell rfl RD Rg (j:=0) rfl rfl (eS.tmp rfl eS.nil)) (λw' p=>?_);exact⟨p.ext,by subst h;rfl⟩;refine eG (λh:op=19=>?_) λE:op≠19=>?_;refine gY ?_;refine eB.cond rfl (λ_=>?_) (λhc=>by exfalso;simp[h]at hc);refine gY ?_;refine eB.v (eD.fU (bd118 (c:=[_,_,_,_,_,_,_]) rfl)) ?_
  refine eB.fA Rg 0 ?_;refine gY ?_;refine eB.js Tryz.f73 RA _ (eS.cell rfl RD Rg (j:=0) rfl rfl (eS.tmp rfl eS.nil)) (λw' p=>?_);exact⟨p.ext,by subst h;rfl⟩;refine eG (λh:op=21=>?_) λC:op≠21=>?_;refine gY ?_;refine eB.v (eD.fU (bd118 (c:=[_,_,_,_,_,_,_]) rfl)) ?_;refine eB.fA Rg 0 ?_;refine gY ?_;refine eB.js Tryz.f73 RA _ (eS.cell rfl RD Rg (j:=0) rfl rfl (eS.tmp rfl eS.nil)) (λw' p=>?_);exact⟨p.ext,by subst h;rfl⟩;refine gY ?_;refine eB.v (eD.fU (bd118 (c:=[_,_,_,_,_,_,_]) rfl)) ?_;refine eB.fA Rg 0 ?_;refine gY ?_;refine eB.js Tryz.f73 RA _ (eS.cell rfl RD Rg (j:=0) rfl rfl (eS.tmp rfl eS.nil)) (λw' p=>?_);exact⟨p.ext,by rw[GM aH,Hw aH];rfl⟩
theorem wY(u:Bool)(x at_:Int)(w:aB):Qqa 118 [.bool u,aS x,aS at_] w (λv _=>v=.bool (zh u x at_)):=by
  refine gI func118 ?_;refine fy 8 (λhu:u=true=>?_) λhu:u=false=>?_;subst hu;refine fy 12 (λh1:0<=x=>?_) λh1:¬0<=x=>?_;refine fy 17 (λh2:x<at_=>?_) λh2:¬x<at_=>?_;refine eN func118 λw' h=>?_;exact⟨h.ext,by simp[zh,h1,h2,mn]⟩;refine mu 20 (λhc=>?_) λhc=>?_;simp at hc;refine eN func118 λw' h=>?_;exact⟨h.ext,by simp[zh,h1,h2,mn]⟩;refine mu 20 (λhc=>?_) λhc=>?_;simp at hc;refine eN func118 λw' h=>?_;exact⟨h.ext,by simp[zh,h1,mn]⟩;subst hu;refine mu 20 (λhc=>?_) λhc=>?_;refine eN func118 λw' h=>?_;exact⟨h.ext,by simp[zh,mn]⟩;simp at hc
theorem y7(u:Bool)(x lo hi:Int)(w:aB):Qqa 119 [.bool u,aS x,aS lo,aS hi] w (λv _=>v=.bool (rO u x lo hi)):=by
  refine gI func119 ?_;refine fy 10 (λhu:u=true=>?_) λhu:u=false=>?_;subst hu;refine fy 14 (λh1:x<lo=>?_) λh1:¬x<lo=>?_;refine eN func119 λw' h=>?_;exact⟨h.ext,by simp[rO,h1,mn]⟩;refine eN func119 λw' h=>?_;exact⟨h.ext,by simp[rO,h1,mn]⟩;subst hu;refine eN func119 λw' h=>?_;exact⟨h.ext,by simp[rO,mn]⟩
theorem Ev(n:NV)(at_:Int)(w:aB):Qqa 72 [n.v,aS at_] w (λv _=>v=aS (kO n at_)):=by
  refine gI func72 ?_;refine gY ?_;refine eB.sZ (λb2=>?_);refine gD call73 (λw _ C=>(by exact xJ n.op w)) ?_;refine gY ?_;refine eB.fZ (λ_=>zeroValue118 _) (λY=>?_);refine eB.fA Rg 0 ?_;refine lU (λhc=>?_) λhc=>?_;have D:¬(1<=n.op/\n.op<=21):=λh=>by simp[okO,h]at hc
  refine eN func72 λw' C=>?_;exact⟨C.ext,by rw[Ew D];rfl⟩;have D:1<=n.op/\n.op<=21:=by simpa[okO]using hc
  refine gD call118 (λw _ C=>(by exact wY (iX n.op) n.x at_ w)) ?_;refine fy 23 (λhb:zh (iX n.op) n.x at_=false=>?_) λJ:zh (iX n.op) n.x at_=true=>?_;refine gY ?_;refine uX ?_;refine eN func72 λw' C=>?_;exact⟨C.ext,by rw[HD D hb];rfl⟩;refine gD call118 (λw _ C=>(by exact wY (ij n.op) n.y at_ w)) ?_;refine eG (λhb:zh (ij n.op) n.y at_=false=>?_) λF:zh (ij n.op) n.y at_=true=>?_;refine eN func72 λw' C=>?_;exact⟨C.ext,by rw[HC D hb];rfl⟩;refine gK (gS (gS ?_));refine gq (α:={p:Bool // p=true↔(!iO n.op && n.i !=0||n.op !=17 && n.e !=0||!qG n.op && n.g !=0)=true}) [] (λz=>[(1,aS at_),(2,aQ b2),(5,aQ Y),(67,.bool z.1)]) (λ_=>[(some Y,.cells (CE n.op).cells 118 (0,0)),(some b2,.cells (NV.cells n).toArray 88 (0,0))]) (λz=>?_) (λK=>?_);obtain⟨p67,O⟩:=z;dsimp only at O⊢;refine lU (λhc=>?_) λhc=>?_;skip;refine eN func72 λw' C=>?_;exact⟨C.ext,by rw[oT D J F,KX (O.1 hc)];rfl⟩;have N:(!iO n.op && n.i !=0||n.op !=17 && n.e !=0||!qG n.op && n.g !=0)=false:=Bool.eq_false_iff.2 λh=>by rw[O.2 h]at hc;cases hc
  refine gD call119 (λw _ C=>(by exact y7 (n.op==3) n.i 0 7 w)) ?_;refine mu 74 (λhc=>?_) λhc=>?_;have hb:(n.op==3)=true/\(n.i<0\/7<n.i):=by simpa[rO]using hc
  refine gY ?_;refine uX ?_;refine eN func72 λw' C=>?_;exact⟨C.ext,by rw[oT D J F,vU N (by obtain⟨h1,h2⟩:=hb;simp[h1];omega)];rfl⟩;have hr0:(n.op==3)=true->0<=n.i/\n.i<=7:=λh=>by simp[rO,h]at hc;omega
  refine gD call119 (λw _ C=>(by exact y7 (uV n.op) n.i 0 3 w)) ?_;refine mu 82 (λhc=>?_) λhc=>?_;have hb:(uV n.op)=true/\(n.i<0\/3<n.i):=by simpa[rO]using hc
  refine gY ?_;refine uX ?_;refine eN func72 λw' C=>?_;exact⟨C.ext,by rw[oT D J F,vU N (by obtain⟨h1,h2⟩:=hb;simp[h1];omega)];rfl⟩;have hr1:(uV n.op)=true->0<=n.i/\n.i<=3:=λh=>by simp[rO,h]at hc;omega
  refine gD call119 (λw _ C=>(by exact y7 (n.op==17) n.i 0 7 w)) ?_;refine mu 90 (λhc=>?_) λhc=>?_;have hb:(n.op==17)=true/\(n.i<0\/7<n.i):=by simpa[rO]using hc
  refine gY ?_;refine uX ?_;refine eN func72 λw' C=>?_;exact⟨C.ext,by rw[oT D J F,vU N (by obtain⟨h1,h2⟩:=hb;simp[h1];omega)];rfl⟩;have hr2:(n.op==17)=true->0<=n.i/\n.i<=7:=λh=>by simp[rO,h]at hc;omega
  refine gD call119 (λw _ C=>(by exact y7 (n.op==17) n.e 0 7 w)) ?_;refine mu 98 (λhc=>?_) λhc=>?_;have hb:(n.op==17)=true/\(n.e<0\/7<n.e):=by simpa[rO]using hc
  refine gY ?_;refine uX ?_;refine eN func72 λw' C=>?_;exact⟨C.ext,by rw[oT D J F,vU N (by obtain⟨h1,h2⟩:=hb;simp[h1];omega)];rfl⟩;have hr3:(n.op==17)=true->0<=n.e/\n.e<=7:=λh=>by simp[rO,h]at hc;omega
  refine gD call119 (λw _ C=>(by exact y7 (qG n.op) n.g 1 15 w)) ?_;refine lU (λhc=>?_) λhc=>?_;have hb:(qG n.op)=true/\(n.g<1\/15<n.g):=by simpa[rO]using hc
  refine eN func72 λw' C=>?_;exact⟨C.ext,by rw[oT D J F,vU N (by obtain⟨h1,h2⟩:=hb;simp[h1];omega)];rfl⟩;have hr4:(qG n.op)=true->1<=n.g/\n.g<=15:=λh=>by simp[rO,h]at hc;omega
  refine eN func72 λw' C=>?_
  exact⟨C.ext,by rw[oT D J F,KY N (by
  simp only[Bool.or_eq_false_iff,Bool.and_eq_false_iff,Bool.not_eq_false',di,dg];refine⟨⟨⟨?_,?_⟩,?_⟩,?_⟩;cases h:n.op==3 with
  |false=>exact .inl rfl
  |true=>exact .inr (by have:=hr0 h;omega)
  cases h:uV n.op with
  |false=>exact .inl rfl
  |true=>exact .inr (by have:=hr1 h;omega)
  cases h:n.op==17 with
  |false=>exact .inl rfl
  |true=>exact .inr (by have:=hr2 h;have:=hr3 h;omega)
  cases h:qG n.op with
  |false=>exact .inl rfl
  |true=>exact .inr (by have:=hr4 h;omega))];rfl⟩
  refine gq (α:={p:Bool // p=true↔iO n.op=true}) [10,11,12,13,14,15,16,17,18,19,20,21,22,23,24,25,26,27,28,29,30,31,32,33,34,35] (λz=>[(1,aS at_),(2,aQ b2),(5,aQ Y),(41,.bool z.1)]) (λ_=>[(some Y,.cells (CE n.op).cells 118 (0,0)),(some b2,.cells (NV.cells n).toArray 88 (0,0))]) (λz=>?_) (λK=>?_);obtain⟨p41,P⟩:=z;dsimp only at P⊢;refine mu 43 (λhc=>?_) λhc=>?_;have W:iO n.op=false:=Bool.eq_false_iff.2 λh=>by rw[P.2 h]at hc;cases hc
  refine fy 48 (λhi:¬n.i=0=>?_) λhi:n.i=0=>?_
  iterate 8 refine nD ?_
  refine qQ ?_;refine uy ?_
  iterate 8 refine nD ?_
  refine qQ ?_;exact K ⟨true,by simp[W,hi]⟩ _ _ sF (λ_ _ C=>C);refine fy 52 (λE:(n.op !=17)=true=>?_) λE:(n.op !=17)=false=>?_;refine fy 58 (λhe:¬n.e=0=>?_) λhe:n.e=0=>?_
  iterate 8 refine nD ?_
  refine qQ ?_;exact K ⟨true,by simp[E,he]⟩ _ _ sF (λ_ _ C=>C);refine fy 62 (λM:qG n.op=false=>?_) λM:qG n.op=true=>?_;refine KR Rw Q6 3 ?_;refine KQ Q9 1 ?_;refine oM Du ?_;refine qQ ?_;refine qA ?_;exact K ⟨n.g !=0,by simp[hi,he,M]⟩ _ _ sF (λ_ _ C=>C)
  iterate 3 refine nD ?_
  iterate 2 refine qA ?_
  exact K ⟨false,by simp[hi,he,M]⟩ _ _ sF (λ_ _ C=>C);refine fy 62 (λM:qG n.op=false=>?_) λM:qG n.op=true=>?_;refine KR Rw Q6 3 ?_;refine KQ Q9 1 ?_;refine oM Du ?_;refine qQ ?_;refine qA ?_;exact K ⟨n.g !=0,by simp[hi,E,M]⟩ _ _ sF (λ_ _ C=>C)
  iterate 3 refine nD ?_
  iterate 2 refine qA ?_
  exact K ⟨false,by simp[hi,E,M]⟩ _ _ sF (λ_ _ C=>C);have W:iO n.op=true:=P.1 aJ;refine fy 52 (λE:(n.op !=17)=true=>?_) λE:(n.op !=17)=false=>?_;refine fy 58 (λhe:¬n.e=0=>?_) λhe:n.e=0=>?_
  iterate 8 refine nD ?_
  refine qQ ?_;exact K ⟨true,by simp[E,he]⟩ _ _ sF (λ_ _ C=>C);refine fy 62 (λM:qG n.op=false=>?_) λM:qG n.op=true=>?_;refine KR Rw Q6 3 ?_;refine KQ Q9 1 ?_;refine oM Du ?_;refine qQ ?_;refine qA ?_;exact K ⟨n.g !=0,by simp[W,he,M]⟩ _ _ sF (λ_ _ C=>C)
  iterate 3 refine nD ?_
  iterate 2 refine qA ?_
  exact K ⟨false,by simp[W,he,M]⟩ _ _ sF (λ_ _ C=>C);refine fy 62 (λM:qG n.op=false=>?_) λM:qG n.op=true=>?_;refine KR Rw Q6 3 ?_;refine KQ Q9 1 ?_;refine oM Du ?_;refine qQ ?_;refine qA ?_;exact K ⟨n.g !=0,by simp[W,E,M]⟩ _ _ sF (λ_ _ C=>C)
  iterate 3 refine nD ?_
  iterate 2 refine qA ?_
  exact K ⟨false,by simp[W,E,M]⟩ _ _ sF (λ_ _ C=>C);refine fy 34 (λh3:(n.op==3)=true=>?_) λh3:(n.op==3)=false=>?_
  iterate 2 refine nD ?_
  refine qQ ?_;refine uy ?_
  iterate 2 refine nD ?_
  refine qQ ?_;exact K ⟨true,by simp[iO,h3]⟩ _ _ sF (λ_ _ C=>C);refine fy 38 (λhA:uV n.op=true=>?_) λhA:uV n.op=false=>?_
  iterate 2 refine nD ?_
  refine qQ ?_;exact K ⟨true,by simp[iO,hA]⟩ _ _ sF (λ_ _ C=>C);refine KR underlying118 Ru 5 ?_;refine KQ isAgg4 0 ?_;refine qA ?_;exact K ⟨n.op==17,by simp[iO,hA,h3]⟩ _ _ sF (λ_ _ C=>C)
theorem kG(a:ae)(D:Nat)(f:List NV)(w:aB)(ha:FA w a f)(E:f.length<=maxLen):Qqa 35 [.slice a f.length D] w (λv _=>v=aS (fK f)):=by
  unfold maxLen at E;refine gI func35 ?_;refine eG (λh1:f.length=0=>?_) λh1:¬f.length=0=>?_;refine eN func35 λw' p=>?_;exact⟨p.ext,by rw[fK,if_pos h1];rfl⟩;refine eG (λh2:200<f.length=>?_) λh2:¬200<f.length=>?_;refine eN func35 λw' p=>?_;exact⟨p.ext,by rw[fK,if_neg h1,if_pos h2];rfl⟩;refine gY ?_;refine eB.loop (σ:=Nat) (λk=>[(0,.slice a f.length D),(12,.slice a f.length D),(13,aS f.length),(14,aS k)]) (λ_=>[]) (λk=>k<=f.length/\kF (Dg f) k=0) (λk=>f.length - k) 0 ⟨aG,rfl⟩ zT .slnil (λk J K=>?_);obtain⟨hk,hz⟩:=J;refine eG (λh:k<f.length=>?_) λF:¬k<f.length=>?_;have he:Dg f k=kO f[k] k:=by simp[Dg,h]
  refine gY ?_;refine eB.v (eD.gN Rf Q7 ⟨_,(ha).at_⟩ ry aI (k) ⟨rfl,h⟩) ?_;refine eB.v (eD.kM (cs:=NV.cells f[k]) Rn Q7 (λw _ p=>Sl.many (enc:=NV.cells) (sz:=6) (ha.eQ p.ext).at_ (λ_=>rfl) h)) ?_;refine eB.fZ (λ_=>Re _) (λM=>?_);refine gY ?_;refine eB.fA Q7 0 ?_;refine gD call72 (λw _ p=>(by exact Ev f[k] k w)) ?_;refine eG (λC:kO f[k] k≠0=>?_) λC:kO f[k] k=0=>?_;refine eN func35 λw' p=>?_;exact⟨p.ext,by rw[fK,if_neg h1,if_neg h2,AU hz (by rw[he];exact C) h,he];rfl⟩;refine gY ?_;exact K (k+1) _ _ ⟨h,by rw[kF,if_neg (by simp[hz]),he];exact C⟩ aH zT (.cons _ .slnil);obtain rfl:k=f.length:=aH;refine lE ?_;refine eN func35 λw' p=>?_;exact⟨p.ext,by rw[fK,if_neg h1,if_neg h2,hz];rfl⟩
end Go.Proofs.YtpbhoidjmpjfpaaGreatDoor
