/- What calls return, each under its own conditions. -/
import Derived.Test.YtaamcaiglooemaaGreatDoorXP04
import Derived.Test.YtaamcaiglooemaaGreatDoorXP05
set_option maxRecDepth 100000
set_option maxHeartbeats 40000000
namespace Go.Proofs.YtaamcaiglooemaaGreatDoor
open Go.RowKit Go.Proofs.Wit Tryz
theorem yT:∃fs,Tryz.prog.underlying 72=some (.struct fs)/\uO fs 3:=⟨_,RP,_,_,_,_,_,_,rfl,⟨aI,rfl,rfl⟩,⟨aI,rfl,rfl⟩,⟨aI,rfl,rfl⟩,⟨aI,rfl,rfl⟩,⟨aI,rfl,rfl⟩,⟨aI,rfl,rfl⟩⟩
theorem Be:Tryz.prog.stoodInHeld 72=false:=by kernel_rfl
theorem Gl:Tryz.prog.eqGuardType Tryz.prog.depth 72=false:=by kernel_rfl
theorem PN{a b:NV}:pD Tryz.prog .eql 72 a.v b.v (.bool (a==b)):=by
 obtain⟨fs,hu,h⟩:=yT;exact JQ hu h Su RK Be Gl
theorem ye:(Tryz.prog.info? 72).map (λi=>(i.zero,i.size,i.bytes))=some (some Ph.v,6,48):=by kernel_rfl
structure rN (q:ah) (cap:Nat) (ts:List Tr) (sp:ai):Prop where
  nil:q=none->(ff ts).length=0/\cap=0
  cap:((ff ts).flatMap NV.cells++sp).length=cap*6
  qU:rR ts
  nd:ts.Nodup
  wf:∀u∈ts,u.wf
theorem xT{ts:List Tr}{t:Tr}(h:t∉ts):(ts++[t]).idxOf t=ts.length:=by
 rw[List.idxOf_append,if_neg h];simp
theorem yF(op:Int)(w:aB):Qqa 79 [aS op] w (λv _=>v=.tuple #[DG op,.bool (okO op)]):=by
  refine gH Sb ?_;refine gY ?_;refine eQ.iA (λ_=>zeroValue98 _) (λb2=>?_);refine eU (λh:op=1=>?_) λh1:op≠1=>?_;refine gY ?_;refine eQ.cond rfl (λ_=>?_) (λhc=>by exfalso;simp[h]at hc);refine gY ?_;refine eQ.v (eS.gX (bd98 (c:=[_,_,_,_,_,_,_]) rfl)) ?_;refine eQ.gw RU 0 ?_;refine gY ?_;refine eQ.lM Tryz.f79 Sb _ (fU.cell rfl Sd RU (j:=0) rfl rfl (fU.tmp rfl fU.nil)) (λw' m=>?_);exact⟨m.ext,by subst h;rfl⟩;refine eU (λh:op=2=>?_) λh2:op≠2=>?_;refine gY ?_;refine eQ.v (eS.gX (bd98 (c:=[_,_,_,_,_,_,_]) rfl)) ?_;refine eQ.gw RU 0 ?_;refine gY ?_;refine eQ.lM Tryz.f79 Sb _ (fU.cell rfl Sd RU (j:=0) rfl rfl (fU.tmp rfl fU.nil)) (λw' m=>?_);exact⟨m.ext,by subst h;rfl⟩;refine eU (λh:op=3=>?_) λh3:op≠3=>?_;refine gY ?_;refine eQ.v (eS.gX (bd98 (c:=[_,_,_,_,_,_,_]) rfl)) ?_;refine eQ.gw RU 0 ?_;refine gY ?_;refine eQ.lM Tryz.f79 Sb _ (fU.cell rfl Sd RU (j:=0) rfl rfl (fU.tmp rfl fU.nil)) (λw' m=>?_);exact⟨m.ext,by subst h;rfl⟩;refine eU (λh:op=4=>?_) λh4:op≠4=>?_;refine gY ?_;refine eQ.v (eS.gX (bd98 (c:=[_,_,_,_,_,_,_]) rfl)) ?_;refine eQ.gw RU 0 ?_;refine gY ?_;refine eQ.lM Tryz.f79 Sb _ (fU.cell rfl Sd RU (j:=0) rfl rfl (fU.tmp rfl fU.nil)) (λw' m=>?_);exact⟨m.ext,by subst h;rfl⟩;refine eU (λh:op=5=>?_) λh5:op≠5=>?_;refine gY ?_;refine eQ.cond rfl (λ_=>?_) (λhc=>by exfalso;simp[h]at hc);refine gY ?_;refine eQ.v (eS.gX (bd98 (c:=[_,_,_,_,_,_,_]) rfl)) ?_;refine eQ.gw RU 0 ?_;refine gY ?_
  refine eQ.lM Tryz.f79 Sb _ (fU.cell rfl Sd RU (j:=0) rfl rfl (fU.tmp rfl fU.nil)) (λw' m=>?_);exact⟨m.ext,by subst h;rfl⟩;refine eU (λh:op=6=>?_) λY:op≠6=>?_;refine gY ?_;refine eQ.cond rfl (λ_=>?_) (λhc=>by exfalso;simp[h]at hc);refine gY ?_;refine eQ.v (eS.gX (bd98 (c:=[_,_,_,_,_,_,_]) rfl)) ?_;refine eQ.gw RU 0 ?_;refine gY ?_;refine eQ.lM Tryz.f79 Sb _ (fU.cell rfl Sd RU (j:=0) rfl rfl (fU.tmp rfl fU.nil)) (λw' m=>?_);exact⟨m.ext,by subst h;rfl⟩;refine eU (λh:op=7=>?_) λX:op≠7=>?_;refine gY ?_;refine eQ.cond rfl (λ_=>?_) (λhc=>by exfalso;simp[h]at hc);refine gY ?_;refine eQ.v (eS.gX (bd98 (c:=[_,_,_,_,_,_,_]) rfl)) ?_;refine eQ.gw RU 0 ?_;refine gY ?_;refine eQ.lM Tryz.f79 Sb _ (fU.cell rfl Sd RU (j:=0) rfl rfl (fU.tmp rfl fU.nil)) (λw' m=>?_);exact⟨m.ext,by subst h;rfl⟩;refine eU (λh:op=8=>?_) λW:op≠8=>?_;refine gY ?_;refine eQ.v (eS.gX (bd98 (c:=[_,_,_,_,_,_,_]) rfl)) ?_;refine eQ.gw RU 0 ?_;refine gY ?_;refine eQ.lM Tryz.f79 Sb _ (fU.cell rfl Sd RU (j:=0) rfl rfl (fU.tmp rfl fU.nil)) (λw' m=>?_);exact⟨m.ext,by subst h;rfl⟩;refine eU (λh:op=9=>?_) λT:op≠9=>?_;refine gY ?_;refine eQ.cond rfl (λ_=>?_) (λhc=>by exfalso;simp[h]at hc);refine gY ?_;refine eQ.v (eS.gX (bd98 (c:=[_,_,_,_,_,_,_]) rfl)) ?_;refine eQ.gw RU 0 ?_;refine gY ?_;refine eQ.lM Tryz.f79 Sb _ (fU.cell rfl Sd RU (j:=0) rfl rfl (fU.tmp rfl fU.nil)) (λw' m=>?_);exact⟨m.ext,by subst h;rfl⟩;refine eU (λh:op=10=>?_) λS:op≠10=>?_
  refine gY ?_;refine eQ.v (eS.gX (bd98 (c:=[_,_,_,_,_,_,_]) rfl)) ?_;refine eQ.gw RU 0 ?_;refine gY ?_;refine eQ.lM Tryz.f79 Sb _ (fU.cell rfl Sd RU (j:=0) rfl rfl (fU.tmp rfl fU.nil)) (λw' m=>?_);exact⟨m.ext,by subst h;rfl⟩;refine eU (λh:op=11=>?_) λQ:op≠11=>?_;refine gY ?_;refine eQ.v (eS.gX (bd98 (c:=[_,_,_,_,_,_,_]) rfl)) ?_;refine eQ.gw RU 0 ?_;refine gY ?_;refine eQ.lM Tryz.f79 Sb _ (fU.cell rfl Sd RU (j:=0) rfl rfl (fU.tmp rfl fU.nil)) (λw' m=>?_);exact⟨m.ext,by subst h;rfl⟩;refine eU (λh:op=12=>?_) λP:op≠12=>?_;refine gY ?_;refine eQ.v (eS.gX (bd98 (c:=[_,_,_,_,_,_,_]) rfl)) ?_;refine eQ.gw RU 0 ?_;refine gY ?_;refine eQ.lM Tryz.f79 Sb _ (fU.cell rfl Sd RU (j:=0) rfl rfl (fU.tmp rfl fU.nil)) (λw' m=>?_);exact⟨m.ext,by subst h;rfl⟩;refine eU (λh:op=13=>?_) λN:op≠13=>?_;refine gY ?_;refine eQ.v (eS.gX (bd98 (c:=[_,_,_,_,_,_,_]) rfl)) ?_;refine eQ.gw RU 0 ?_;refine gY ?_;refine eQ.lM Tryz.f79 Sb _ (fU.cell rfl Sd RU (j:=0) rfl rfl (fU.tmp rfl fU.nil)) (λw' m=>?_);exact⟨m.ext,by subst h;rfl⟩;refine eU (λh:op=14=>?_) λM:op≠14=>?_;refine gY ?_;refine eQ.v (eS.gX (bd98 (c:=[_,_,_,_,_,_,_]) rfl)) ?_;refine eQ.gw RU 0 ?_;refine gY ?_;refine eQ.lM Tryz.f79 Sb _ (fU.cell rfl Sd RU (j:=0) rfl rfl (fU.tmp rfl fU.nil)) (λw' m=>?_);exact⟨m.ext,by subst h;rfl⟩;refine eU (λh:op=15=>?_) λK:op≠15=>?_;refine gY ?_;refine eQ.v (eS.gX (bd98 (c:=[_,_,_,_,_,_,_]) rfl)) ?_;refine eQ.gw RU 0 ?_;refine gY ?_
  refine eQ.lM Tryz.f79 Sb _ (fU.cell rfl Sd RU (j:=0) rfl rfl (fU.tmp rfl fU.nil)) (λw' m=>?_);exact⟨m.ext,by subst h;rfl⟩;refine eU (λh:op=16=>?_) λJ:op≠16=>?_;refine gY ?_;refine eQ.v (eS.gX (bd98 (c:=[_,_,_,_,_,_,_]) rfl)) ?_;refine eQ.gw RU 0 ?_;refine gY ?_;refine eQ.lM Tryz.f79 Sb _ (fU.cell rfl Sd RU (j:=0) rfl rfl (fU.tmp rfl fU.nil)) (λw' m=>?_);exact⟨m.ext,by subst h;rfl⟩;refine eU (λh:op=17=>?_) λF:op≠17=>?_;refine gY ?_;refine eQ.v (eS.gX (bd98 (c:=[_,_,_,_,_,_,_]) rfl)) ?_;refine eQ.gw RU 0 ?_;refine gY ?_;refine eQ.lM Tryz.f79 Sb _ (fU.cell rfl Sd RU (j:=0) rfl rfl (fU.tmp rfl fU.nil)) (λw' m=>?_);exact⟨m.ext,by subst h;rfl⟩;refine eU (λh:op=18=>?_) λE:op≠18=>?_;refine gY ?_;refine eQ.cond rfl (λ_=>?_) (λhc=>by exfalso;simp[h]at hc);refine gY ?_;refine eQ.v (eS.gX (bd98 (c:=[_,_,_,_,_,_,_]) rfl)) ?_;refine eQ.gw RU 0 ?_;refine gY ?_;refine eQ.lM Tryz.f79 Sb _ (fU.cell rfl Sd RU (j:=0) rfl rfl (fU.tmp rfl fU.nil)) (λw' m=>?_);exact⟨m.ext,by subst h;rfl⟩;refine eU (λh:op=20=>?_) λC:op≠20=>?_;refine gY ?_;refine eQ.v (eS.gX (bd98 (c:=[_,_,_,_,_,_,_]) rfl)) ?_;refine eQ.gw RU 0 ?_;refine gY ?_;refine eQ.lM Tryz.f79 Sb _ (fU.cell rfl Sd RU (j:=0) rfl rfl (fU.tmp rfl fU.nil)) (λw' m=>?_);exact⟨m.ext,by subst h;rfl⟩;refine eU (λh:op=19=>?_) λD:op≠19=>?_;refine gY ?_;refine eQ.cond rfl (λ_=>?_) (λhc=>by exfalso;simp[h]at hc);refine gY ?_;refine eQ.v (eS.gX (bd98 (c:=[_,_,_,_,_,_,_]) rfl)) ?_
  refine eQ.gw RU 0 ?_;refine gY ?_;refine eQ.lM Tryz.f79 Sb _ (fU.cell rfl Sd RU (j:=0) rfl rfl (fU.tmp rfl fU.nil)) (λw' m=>?_);exact⟨m.ext,by subst h;rfl⟩;refine eU (λh:op=21=>?_) λp:op≠21=>?_;refine gY ?_;refine eQ.v (eS.gX (bd98 (c:=[_,_,_,_,_,_,_]) rfl)) ?_;refine eQ.gw RU 0 ?_;refine gY ?_;refine eQ.lM Tryz.f79 Sb _ (fU.cell rfl Sd RU (j:=0) rfl rfl (fU.tmp rfl fU.nil)) (λw' m=>?_);exact⟨m.ext,by subst h;rfl⟩;refine gY ?_;refine eQ.v (eS.gX (bd98 (c:=[_,_,_,_,_,_,_]) rfl)) ?_;refine eQ.gw RU 0 ?_;refine gY ?_;refine eQ.lM Tryz.f79 Sb _ (fU.cell rfl Sd RU (j:=0) rfl rfl (fU.tmp rfl fU.nil)) (λw' m=>?_);exact⟨m.ext,by rw[HW aH,IS aH];rfl⟩
theorem xR(u:Bool)(x at_:Int)(w:aB):Qqa 127 [.bool u,aS x,aS at_] w (λv _=>v=.bool (tO u x at_)):=by
  refine gH func127 ?_;refine fh 8 (λhu:u=true=>?_) λhu:u=false=>?_;subst hu;refine fh 12 (λh1:0<=x=>?_) λh1:¬0<=x=>?_;refine fh 17 (λh2:x<at_=>?_) λh2:¬x<at_=>?_;refine eX func127 λw' h=>?_;exact⟨h.ext,by simp[tO,h1,h2,l7]⟩;refine oo 20 (λhc=>?_) λhc=>?_;simp at hc;refine eX func127 λw' h=>?_;exact⟨h.ext,by simp[tO,h1,h2,l7]⟩;refine oo 20 (λhc=>?_) λhc=>?_;simp at hc;refine eX func127 λw' h=>?_;exact⟨h.ext,by simp[tO,h1,l7]⟩;subst hu;refine oo 20 (λhc=>?_) λhc=>?_;refine eX func127 λw' h=>?_;exact⟨h.ext,by simp[tO,l7]⟩;simp at hc
theorem z6(u:Bool)(x lo hi:Int)(w:aB):Qqa 128 [.bool u,aS x,aS lo,aS hi] w (λv _=>v=.bool (tJ u x lo hi)):=by
  refine gH func128 ?_;refine fh 10 (λhu:u=true=>?_) λhu:u=false=>?_;subst hu;refine fh 14 (λh1:x<lo=>?_) λh1:¬x<lo=>?_;refine eX func128 λw' h=>?_;exact⟨h.ext,by simp[tJ,h1,l7]⟩;refine eX func128 λw' h=>?_;exact⟨h.ext,by simp[tJ,h1,l7]⟩;subst hu;refine eX func128 λw' h=>?_;exact⟨h.ext,by simp[tJ,l7]⟩
theorem FJ(n:NV)(at_:Int)(w:aB):Qqa 80 [n.v,aS at_] w (λv _=>v=aS (ko n at_)):=by
  refine gH func80 ?_;refine gY ?_;refine eQ.nR (λb2=>?_);refine gj call79 (λw _ m=>(by exact yF n.op w)) ?_;refine gY ?_;refine eQ.iA (λ_=>zeroValue98 _) (λY=>?_);refine eQ.gw RU 0 ?_;refine kU (λhc=>?_) λhc=>?_;have C:¬(1<=n.op/\n.op<=21):=λh=>by simp[okO,h]at hc
  refine eX func80 λw' m=>?_;exact⟨m.ext,by rw[wK C];rfl⟩;have C:1<=n.op/\n.op<=21:=by simpa[okO]using hc
  refine gj call127 (λw _ m=>(by exact xR (jd n.op) n.x at_ w)) ?_;refine fh 23 (λhb:tO (jd n.op) n.x at_=false=>?_) λF:tO (jd n.op) n.x at_=true=>?_;refine gY ?_;refine rh ?_;refine eX func80 λw' m=>?_;exact⟨m.ext,by rw[CR C hb];rfl⟩;refine gj call127 (λw _ m=>(by exact xR (iH n.op) n.y at_ w)) ?_;refine eU (λhb:tO (iH n.op) n.y at_=false=>?_) λE:tO (iH n.op) n.y at_=true=>?_;refine eX func80 λw' m=>?_;exact⟨m.ext,by rw[CQ C hb];rfl⟩;refine gK (gS (gS ?_));refine ig (α:={p:Bool // p=true↔(!iO n.op && n.i !=0||n.op !=17 && n.e !=0||!oP n.op && n.g !=0)=true}) [] (λz=>[(1,aS at_),(2,aQ b2),(5,aQ Y),(67,.bool z.1)]) (λ_=>[(some Y,.cells (DG n.op).cells 98 (0,0)),(some b2,.cells (NV.cells n).toArray 72 (0,0))]) (λz=>?_) (λK=>?_);obtain⟨p67,N⟩:=z;dsimp only at N⊢;refine kU (λhc=>?_) λhc=>?_;skip;refine eX func80 λw' m=>?_;exact⟨m.ext,by rw[mw C F E,GC (N.1 hc)];rfl⟩;have M:(!iO n.op && n.i !=0||n.op !=17 && n.e !=0||!oP n.op && n.g !=0)=false:=Bool.eq_false_iff.2 λh=>by rw[N.2 h]at hc;cases hc
  refine gj call128 (λw _ m=>(by exact z6 (n.op==3) n.i 0 7 w)) ?_;refine oo 74 (λhc=>?_) λhc=>?_;have hb:(n.op==3)=true/\(n.i<0\/7<n.i):=by simpa[tJ]using hc
  refine gY ?_;refine rh ?_;refine eX func80 λw' m=>?_;exact⟨m.ext,by rw[mw C F E,rz M (by obtain⟨h1,h2⟩:=hb;simp[h1];omega)];rfl⟩;have hr0:(n.op==3)=true->0<=n.i/\n.i<=7:=λh=>by simp[tJ,h]at hc;omega
  refine gj call128 (λw _ m=>(by exact z6 (sJ n.op) n.i 0 3 w)) ?_;refine oo 82 (λhc=>?_) λhc=>?_;have hb:(sJ n.op)=true/\(n.i<0\/3<n.i):=by simpa[tJ]using hc
  refine gY ?_;refine rh ?_;refine eX func80 λw' m=>?_;exact⟨m.ext,by rw[mw C F E,rz M (by obtain⟨h1,h2⟩:=hb;simp[h1];omega)];rfl⟩;have hr1:(sJ n.op)=true->0<=n.i/\n.i<=3:=λh=>by simp[tJ,h]at hc;omega
  refine gj call128 (λw _ m=>(by exact z6 (n.op==17) n.i 0 7 w)) ?_;refine oo 90 (λhc=>?_) λhc=>?_;have hb:(n.op==17)=true/\(n.i<0\/7<n.i):=by simpa[tJ]using hc
  refine gY ?_;refine rh ?_;refine eX func80 λw' m=>?_;exact⟨m.ext,by rw[mw C F E,rz M (by obtain⟨h1,h2⟩:=hb;simp[h1];omega)];rfl⟩;have hr2:(n.op==17)=true->0<=n.i/\n.i<=7:=λh=>by simp[tJ,h]at hc;omega
  refine gj call128 (λw _ m=>(by exact z6 (n.op==17) n.e 0 7 w)) ?_;refine oo 98 (λhc=>?_) λhc=>?_;have hb:(n.op==17)=true/\(n.e<0\/7<n.e):=by simpa[tJ]using hc
  refine gY ?_;refine rh ?_;refine eX func80 λw' m=>?_;exact⟨m.ext,by rw[mw C F E,rz M (by obtain⟨h1,h2⟩:=hb;simp[h1];omega)];rfl⟩;have hr3:(n.op==17)=true->0<=n.e/\n.e<=7:=λh=>by simp[tJ,h]at hc;omega
  refine gj call128 (λw _ m=>(by exact z6 (oP n.op) n.g 1 15 w)) ?_;refine kU (λhc=>?_) λhc=>?_;have hb:(oP n.op)=true/\(n.g<1\/15<n.g):=by simpa[tJ]using hc
  refine eX func80 λw' m=>?_;exact⟨m.ext,by rw[mw C F E,rz M (by obtain⟨h1,h2⟩:=hb;simp[h1];omega)];rfl⟩;have hr4:(oP n.op)=true->1<=n.g/\n.g<=15:=λh=>by simp[tJ,h]at hc;omega
  refine eX func80 λw' m=>?_
  exact⟨m.ext,by rw[mw C F E,GD M (by
  simp only[cz,bS,Bool.not_eq_false',dx,du];refine⟨⟨⟨?_,?_⟩,?_⟩,?_⟩;cases h:n.op==3 with
  |false=>exact .inl rfl
  |true=>exact .inr (by have:=hr0 h;omega)
  cases h:sJ n.op with
  |false=>exact .inl rfl
  |true=>exact .inr (by have:=hr1 h;omega)
  cases h:n.op==17 with
  |false=>exact .inl rfl
  |true=>exact .inr (by have:=hr2 h;have:=hr3 h;omega)
  cases h:oP n.op with
  |false=>exact .inl rfl
  |true=>exact .inr (by have:=hr4 h;omega))];rfl⟩
  refine ig (α:={p:Bool // p=true↔iO n.op=true}) [10,11,12,13,14,15,16,17,18,19,20,21,22,23,24,25,26,27,28,29,30,31,32,33,34,35] (λz=>[(1,aS at_),(2,aQ b2),(5,aQ Y),(41,.bool z.1)]) (λ_=>[(some Y,.cells (DG n.op).cells 98 (0,0)),(some b2,.cells (NV.cells n).toArray 72 (0,0))]) (λz=>?_) (λK=>?_);obtain⟨p41,P⟩:=z;dsimp only at P⊢;refine oo 43 (λhc=>?_) λhc=>?_;have W:iO n.op=false:=Bool.eq_false_iff.2 λh=>by rw[P.2 h]at hc;cases hc
  refine fh 48 (λhi:¬n.i=0=>?_) λhi:n.i=0=>?_
  iterate 8 refine mM ?_
  refine mL ?_;refine tZ ?_
  iterate 8 refine mM ?_
  refine mL ?_;exact K ⟨true,by simp[W,hi]⟩ _ _ sF (λ_ _ m=>m);refine fh 52 (λD:(n.op !=17)=true=>?_) λD:(n.op !=17)=false=>?_;refine fh 58 (λhe:¬n.e=0=>?_) λhe:n.e=0=>?_
  iterate 8 refine mM ?_
  refine mL ?_;exact K ⟨true,by simp[D,he]⟩ _ _ sF (λ_ _ m=>m);refine fh 62 (λJ:oP n.op=false=>?_) λJ:oP n.op=true=>?_;refine vW RP RH 3 ?_;refine vV RK 1 ?_;refine mR A8 ?_;refine mL ?_;refine pI ?_;exact K ⟨n.g !=0,by simp[hi,he,J]⟩ _ _ sF (λ_ _ m=>m)
  iterate 3 refine mM ?_
  iterate 2 refine pI ?_
  exact K ⟨false,by simp[hi,he,J]⟩ _ _ sF (λ_ _ m=>m);refine fh 62 (λJ:oP n.op=false=>?_) λJ:oP n.op=true=>?_;refine vW RP RH 3 ?_;refine vV RK 1 ?_;refine mR A8 ?_;refine mL ?_;refine pI ?_;exact K ⟨n.g !=0,by simp[hi,D,J]⟩ _ _ sF (λ_ _ m=>m)
  iterate 3 refine mM ?_
  iterate 2 refine pI ?_
  exact K ⟨false,by simp[hi,D,J]⟩ _ _ sF (λ_ _ m=>m);have W:iO n.op=true:=P.1 aJ;refine fh 52 (λD:(n.op !=17)=true=>?_) λD:(n.op !=17)=false=>?_;refine fh 58 (λhe:¬n.e=0=>?_) λhe:n.e=0=>?_
  iterate 8 refine mM ?_
  refine mL ?_;exact K ⟨true,by simp[D,he]⟩ _ _ sF (λ_ _ m=>m);refine fh 62 (λJ:oP n.op=false=>?_) λJ:oP n.op=true=>?_;refine vW RP RH 3 ?_;refine vV RK 1 ?_;refine mR A8 ?_;refine mL ?_;refine pI ?_;exact K ⟨n.g !=0,by simp[W,he,J]⟩ _ _ sF (λ_ _ m=>m)
  iterate 3 refine mM ?_
  iterate 2 refine pI ?_
  exact K ⟨false,by simp[W,he,J]⟩ _ _ sF (λ_ _ m=>m);refine fh 62 (λJ:oP n.op=false=>?_) λJ:oP n.op=true=>?_;refine vW RP RH 3 ?_;refine vV RK 1 ?_;refine mR A8 ?_;refine mL ?_;refine pI ?_;exact K ⟨n.g !=0,by simp[W,D,J]⟩ _ _ sF (λ_ _ m=>m)
  iterate 3 refine mM ?_
  iterate 2 refine pI ?_
  exact K ⟨false,by simp[W,D,J]⟩ _ _ sF (λ_ _ m=>m);refine fh 34 (λh3:(n.op==3)=true=>?_) λh3:(n.op==3)=false=>?_
  iterate 2 refine mM ?_
  refine mL ?_;refine tZ ?_
  iterate 2 refine mM ?_
  refine mL ?_;exact K ⟨true,by simp[iO,h3]⟩ _ _ sF (λ_ _ m=>m);refine fh 38 (λhA:sJ n.op=true=>?_) λhA:sJ n.op=false=>?_
  iterate 2 refine mM ?_
  refine mL ?_;exact K ⟨true,by simp[iO,hA]⟩ _ _ sF (λ_ _ m=>m);refine vW underlying98 RT 5 ?_;refine vV R8 0 ?_;refine pI ?_;exact K ⟨n.op==17,by simp[iO,hA,h3]⟩ _ _ sF (λ_ _ m=>m)
theorem mm(a:ae)(C:Nat)(f:List NV)(w:aB)(ha:FA w a f)(D:f.length<=maxLen):Qqa 40 [.slice a f.length C] w (λv _=>v=aS (fX f)):=by
  unfold maxLen at D;refine gH func40 ?_;refine eU (λh1:f.length=0=>?_) λh1:¬f.length=0=>?_;refine eX func40 λw' m=>?_;exact⟨m.ext,by rw[fX,if_pos h1];rfl⟩;refine eU (λh2:200<f.length=>?_) λh2:¬200<f.length=>?_;refine eX func40 λw' m=>?_;exact⟨m.ext,by rw[fX,if_neg h1,if_pos h2];rfl⟩;refine gY ?_;refine eQ.loop (σ:=Nat) (λk=>[(0,.slice a f.length C),(12,.slice a f.length C),(13,aS f.length),(14,aS k)]) (λ_=>[]) (λk=>k<=f.length/\lk (zh f) k=0) (λk=>f.length - k) 0 ⟨aG,rfl⟩ zT .slnil (λk F J=>?_);obtain⟨hk,hz⟩:=F;refine eU (λh:k<f.length=>?_) λE:¬k<f.length=>?_;have he:zh f k=ko f[k] k:=by simp[zh,aX,h]
  refine gY ?_;refine eQ.v (eS.fN RL RI ⟨_,(ha).at_⟩ lV aI (k) ⟨rfl,h⟩) ?_;refine eQ.v (eS.j8 (cs:=NV.cells f[k]) RX RI (λw _ m=>Sl.many (enc:=NV.cells) (sz:=6) (ha.eY m.ext).at_ (λ_=>rfl) h)) ?_;refine eQ.iA (λ_=>RQ _) (λK=>?_);refine gY ?_;refine eQ.gw RI 0 ?_;refine gj call80 (λw _ m=>(by exact FJ f[k] k w)) ?_;refine eU (λp:ko f[k] k≠0=>?_) λp:ko f[k] k=0=>?_;refine eX func40 λw' m=>?_;exact⟨m.ext,by rw[fX,if_neg h1,if_neg h2,w6 hz (by rw[he];exact p) h,he];rfl⟩;refine gY ?_;exact J (k+1) _ _ ⟨h,by rw[lk,if_neg (by simp[hz]),he];exact p⟩ aH zT (.cons _ .slnil);obtain rfl:k=f.length:=aH;refine ke ?_;refine eX func40 λw' m=>?_;exact⟨m.ext,by rw[fX,if_neg h1,if_neg h2,hz];rfl⟩
end Go.Proofs.YtaamcaiglooemaaGreatDoor
