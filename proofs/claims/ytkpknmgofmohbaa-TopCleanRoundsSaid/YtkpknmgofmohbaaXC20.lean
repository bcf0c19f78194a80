/- What calls of the program return, under the conditions that each theorem states. -/
import Derived.Test.YtkpknmgofmohbaaXC19
import Derived.Test.YtkpknmgofmohbaaXC03
import Derived.Test.YtkpknmgofmohbaaXC05
import Derived.Test.YtkpknmgofmohbaaXC04
namespace Go.Proofs.Ytkpknmgofmohbaa
open Go.RowKit Go.Proofs.Wit Try
def pt (b:Nat):Value:=.pointer (some ⟨b,0,none⟩)
def bd (bD bf bF bN bO mD mN:Nat) (a:Option Addr) (ca n:Nat) (q:Option Nat) (cap:Nat) (ts:List Tr) (sp:List Value) (L:List (Int×Nat)):Hl:=
 [(some bD,.cells #[.map (some mD)] 114 (0,0)),(some bf,.cells #[.slice a n ca] 46 (0,0)),(some bF,.cells #[.func (.func 78) #[] #[pt bD,pt bf,pt bF,pt bN,pt bO]] 115 (0,0)),(some bN,.cells #[.map (some mN)] 113 (0,0)),(some bO,.cells #[aU q (aw ts).length cap] 46 (0,0)),(q,ja 65 (aw ts) sp),(some mD,a9 (Value.int .i64) r9 L),(some mN,a9 NV.v r9 (aw ts).zipIdx)]
def fx (f:List NV) (i bD bf bF bN bO mD mN:Nat) (a:Option Addr) (ca n:Nat) (ts:List Tr) (L:List (Int×Nat)) (v:Value) (h':Hl):Prop:=
 ∃q' cap' sp' L',h'=bd bD bf bF bN bO mD mN a ca n q' cap' (visit (af f i) ts) sp' L'∧lY q' cap' (visit (af f i) ts) sp'∧dE f (visit (af f i) ts) L'∧(∀j:Nat,i<j→aG (fun a b:Int=>a==b) L' (j:Int)=aG (fun a b:Int=>a==b) L (j:Int))∧v=.int .i64 ((visit (af f i) ts).idxOf (af f i):Int)
set_option maxRecDepth 8000 in
theorem pO (f:List NV) (a:Option Addr) (ca:Nat) (hf:aM f) (hfl:f.length≤10000) (bD bf bF bN bO mD mN:Nat):∀(i:Nat),i<f.length→∀(w:World) (q:Option Nat) (cap:Nat) (ts:List Tr) (sp:List Value) (L:List (Int×Nat)),
    ln w (bd bD bf bF bN bO mD mN a ca f.length q cap ts sp L)→FA w a f→(∀b o,a=some ⟨b,o,none⟩→b∉ej (bd bD bf bF bN bO mD mN a ca f.length q cap ts sp L))→lY q cap ts sp→ts⊆trees f→dE f ts L→
    oS Try.prog 78 [.int .i64 i,pt bD,pt bf,pt bF,pt bN,pt bO] w (bd bD bf bF bN bO mD mN a ca f.length q cap ts sp L) (fx f i bD bf bF bN bO mD mN a ca f.length ts L):=by
  obtain ⟨iN,hiN,hzN,hszN,hbyN⟩:=info_parts qq
  have hKI:=cP.int (P:=Try.prog) (kt:=3) (kd:=.i64) xL
  have hKN:cP Try.prog 65 NV.v (fun a b=>a==b):=by
    obtain ⟨fs,hu,hfs⟩:=pr
    exact cP.node hu hfs xL xl qN
  intro i
  induction i using Nat.strongRecOn with
  |_ i IHi=>
  intro hi w q cap ts sp L hh ha hsep ho hts hd
  have hok:=hf i hi
  have hclo:=hf.ord.iq
  have hmem:=eN hi
  have has:tU (ej (bd bD bf bF bN bO mD mN a ca f.length q cap ts sp L)) w a f:=⟨ha.at_,hsep⟩
  refine oS.of hh func78 rfl rfl ?_
  unfold bd at has⊢
  refine gS (gR ?_);refine ai ?_;refine gE (gS (gS (gR ?_)));refine aj isAgg114 0 ?_;refine ad ?_
  refine aa.v (ah.sR (ev:=r9) (a:=(i:Int)) (z:=.int .i64 0) (L:=L) hKI rfl rfl rfl rfl rfl underlying114 (fun _=>zeroValue3 _) 6 rfl) ?_
  refine ad ?_
  iterate 2 refine gZ ?_
  iterate 2 refine ai ?_
  refine gE (gS (gR ?_));refine ad ?_;refine gE ?_
  refine gC (fun hc=>?_) fun hc=>?_
  ·
   obtain ⟨v,hv⟩:∃v,aG (fun a b:Int=>a==b) L (i:Int)=some v:=by
     cases h:aG (fun a b:Int=>a==b) L (i:Int) with
     |none=>rw [h] at hc;simp at hc
     |some v=>exact ⟨v,rfl⟩
   obtain ⟨hm,hix⟩:=hd.at_ i v hv
   refine gS (gR ?_);refine ad ?_;refine ai ?_;refine gE ?_
   refine gT func78 fun w' hS=>?_
   refine ⟨_,⟨q,cap,sp,L,?_,?_,?_,fun j _=>rfl,?_⟩,hS⟩
   · rw [bZ hm];rfl
   · rw [bZ hm];exact ho
   · rw [bZ hm];exact hd
   rw [bZ hm,←hix,hv];rfl
  have hno:aG (fun a b:Int=>a==b) L (i:Int)=none:=by
    cases h:aG (fun a b:Int=>a==b) L (i:Int) with
    |none=>rfl
    |some v=>rw [h] at hc;simp at hc
  refine gK (gS (gR ?_));refine aj isAgg46 1 ?_;refine ad ?_
  refine aa.v (ah.fo rfl rfl rfl rfl rfl xx xu ⟨_,(has).at_⟩ (aO (enc:=NV.cells) (sz:=6) (fun _=>rfl)) (by decide) (i) ⟨rfl,hi⟩) ?_
  refine aa.v (ah.ko (cs:=NV.cells f[i]) rfl rfl rfl rfl xE xu (fun w _ hS=>Sl.many (enc:=NV.cells) (sz:=6) (has.a8 hS.ext).at_ (fun _=>rfl) hi)) ?_
  refine aa.dc rfl rfl rfl (fun _=>xO _) (fun b10=>?_)
  refine aa.bV rfl rfl rfl rfl xu 0 rfl rfl rfl rfl ?_
  refine gE (gS (gR ?_));refine ak xn xk 0 ?_;refine aj xl 0 ?_
  refine gP rfl rfl rfl rfl rfl call63 (fun w _ hS=>(by exact bS f[i].op w)) ?_
  refine ad ?_
  iterate 2 refine gZ ?_
  refine aa.dc rfl rfl rfl (fun _=>xJ _) (fun b11=>?_)
  refine aa.bV rfl rfl rfl rfl xr 0 rfl rfl rfl rfl ?_
  refine aa.pick (pre:=[_,_,_,_,_,_,_,_,_,_]) (pre':=bd bD bf bF bN bO mD mN a ca f.length q cap ts sp L++[(some b11,.cells (ib f[i].op).cells 88 (0,0)),(some b10,.cells (NV.cells f[i]).toArray 65 (0,0))]) [2,3,4,5,6,7,8,9,0,1] (by decide) rfl ?_
  unfold bd
  refine ai ?_;refine gE (gS ?_)
  refine aa.qP (α:={z:List Tr×NV×Option Nat×Nat×List Value×List (Int×Nat) // z.1=ic f f[i] ts∧z.2.1=oN f f[i] ts∧lY z.2.2.1 z.2.2.2.1 z.1 z.2.2.2.2.1∧dE f z.1 z.2.2.2.2.2∧∀j:Nat,i≤j→aG (fun a b:Int=>a==b) z.2.2.2.2.2 (j:Int)=aG (fun a b:Int=>a==b) L (j:Int)})
    (fun _=>[(0,.int .i64 i),(1,pt bD),(2,pt bf),(3,pt bF),(4,pt bN),(5,pt bO),(10,pt b10),(11,pt b11)]) (fun z=>bd bD bf bF bN bO mD mN a ca f.length z.1.2.2.1 z.1.2.2.2.1 z.1.1 z.1.2.2.2.2.1 z.1.2.2.2.2.2++[(some b11,.cells (ib f[i].op).cells 88 (0,0)),(some b10,.cells (NV.cells z.1.2.1).toArray 65 (0,0))]) (fun z=>?_) (fun K=>?_)
  · -- what comes behind
   obtain ⟨⟨ts1,n1,q1,cap1,sp1,L1⟩,hts1,hn1,ho1,hd1,hkeep1⟩:=z
   dsimp only at hts1 hn1 ho1 hd1 hkeep1⊢
   obtain ⟨hc1,hnd1,hp1,hs1⟩:=qM hi hf ho.iq ho.nd hts
   rw [←hts1] at hc1 hnd1 hp1 hs1
   unfold bd
   refine gS ?_
   refine aa.qP (α:={z:List Tr×NV×Option Nat×Nat×List Value×List (Int×Nat) // z.1=bQ (af f i) ts∧z.2.1=aD (bQ (af f i) ts) (af f i)∧lY z.2.2.1 z.2.2.2.1 z.1 z.2.2.2.2.1∧dE f z.1 z.2.2.2.2.2∧∀j:Nat,i≤j→aG (fun a b:Int=>a==b) z.2.2.2.2.2 (j:Int)=aG (fun a b:Int=>a==b) L (j:Int)})
     (fun _=>[(0,.int .i64 i),(1,pt bD),(2,pt bf),(3,pt bF),(4,pt bN),(5,pt bO),(10,pt b10),(11,pt b11)]) (fun z=>bd bD bf bF bN bO mD mN a ca f.length z.1.2.2.1 z.1.2.2.2.1 z.1.1 z.1.2.2.2.2.1 z.1.2.2.2.2.2++[(some b11,.cells (ib f[i].op).cells 88 (0,0)),(some b10,.cells (NV.cells z.1.2.1).toArray 65 (0,0))]) (fun z=>?_) (fun K=>?_)
   · -- what comes behind
    obtain ⟨⟨vs,m,q2,cap2,sp2,L2⟩,hvs,hm2,ho2,hd2,hkeep2⟩:=z
    dsimp only at hvs hm2 ho2 hd2 hkeep2⊢
    obtain ⟨hc2,hnd2,hp2,hs2,hk2⟩:=qK hi hf ho.iq ho.nd hts
    have hput:=lZ (t:=af f i) ho.iq ho.nd
    rw [←hvs] at hc2 hnd2 hp2 hs2 hk2 hput hm2
    have hno2:aG (fun a b:Int=>a==b) L2 (i:Int)=none:=by rw [hkeep2 i (Nat.le_refl _),hno]
    have hVis:=cH (af f i) ho.iq ho.nd
    have hlT:vs.length≤10000:=by have:=o6 ho2.nd hs2;omega
    have hnl:(aw vs).length=vs.length:=dg
    unfold bd
    refine gS (gR ?_);refine aj isAgg113 3 ?_
    refine aa.v (ah.eR rfl rfl rfl rfl xE 9 rfl xu rfl) ?_
    refine aa.v (ah.sR (ev:=r9) (a:=m) (z:=.int .i64 0) (L:=(aw vs).zipIdx) hKN rfl rfl rfl rfl rfl underlying113 (fun _=>zeroValue3 _) 7 rfl) ?_
    refine ad ?_
    iterate 2 refine gZ ?_
    iterate 2 refine ai ?_
    refine gE (gS (gS (gR ?_)));refine ad ?_;refine bP aH ?_;refine gE ?_
    refine gC (fun hc=>?_) fun hc=>?_
    ·
     have hnm:af f i∉vs:=fun hm=>by
       rw [hm2,jN ho2.iq ho2.nd ho2.wf hm] at hc;simp at hc
     have hv0:visit (af f i) ts=vs++[af f i]:=by rw [←hput];exact if_neg hnm
     have hzz:=mT hc2 hk2
     rw [←hm2] at hzz
     have hsn:=fj hc2 hk2
     rw [←hm2] at hsn
     have e1:(aw vs).flatMap NV.cells++NV.cells m=(aw (vs++[af f i])).flatMap NV.cells:=by rw [hsn,List.flatMap_append];simp
     have e2:(aw vs).length+1=(aw (vs++[af f i])).length:=by rw [hsn];simp
     have hnew:aG (fun a b:NV=>a==b) (aw vs).zipIdx m=none:=by rw [hm2];exact jO hc2 ho2.wf (fD f i) hk2 hnm
     have hpre:vs<+:vs++[af f i]:=List.prefix_append _ _
     have hix:(vs++[af f i]).idxOf (af f i)=vs.length:=mh hnm
     refine gS (gR ?_);refine aj isAgg46 4 ?_;refine cq xx ?_;refine ai ?_;refine gE (gS (gR ?_));refine aj isAgg46 4 ?_
     refine aa.v (ah.eR rfl rfl rfl rfl xE 9 rfl xu rfl) ?_
     refine aa.fR (c:=[_,_,_,_,_,_]) rfl rfl rfl rfl xx xu xO rfl rfl (fun b59=>?_)
     refine aa.app 6 (xs:=(aw vs).flatMap NV.cells) (sp:=sp2) (nx:=(aw vs).length) (q:=q2) (news:=NV.cells m) (spn:=[]) rfl rfl rfl rfl rfl xx hiN hzN hszN rfl ho2.nil 6 rfl 0 rfl iJ ho2.cap rfl (by decide) (fun u hu=>by
       simp only [NV.cells,List.mem_cons,List.not_mem_nil,or_false] at hu
       rcases hu with rfl|rfl|rfl|rfl|rfl|rfl<;>rfl) (by unfold maxLen;omega) (by rw [hbyN];omega) (fun b' sp' cap' hlen=>?_)
     rw [e1] at hlen
     simp only [e1,e2]
     refine aa.st rfl rfl rfl rfl sizeOf46 rfl 5 rfl rfl ?_
     refine gE (gR ?_);refine aj isAgg113 4 ?_
     refine aa.v (ah.eR rfl rfl rfl rfl xE 10 rfl xu rfl) ?_
     refine ad ?_
     refine aa.kN hKN rfl (.inl rfl) rfl rfl rfl (a:=m) (v:=(aw vs).length) rfl rfl underlying113 8 rfl hnew ?_
     rw [←hzz]
     refine gE (gS (gR ?_));refine aj isAgg114 1 ?_
     iterate 2 refine ad ?_
     refine aa.kN hKI rfl (.inl rfl) rfl rfl rfl (a:=(i:Int)) (v:=(aw vs).length) rfl rfl underlying114 7 rfl hno2 ?_
     refine gE (gS (gR ?_));refine ad ?_;refine ai ?_;refine gE ?_
     refine gT func78 fun w' hS=>?_
     have hd3:=(hd2.mono hpre).ins (i:=i) (by rw [←hv0];exact hVis.mem)
     rw [hix,←hnl] at hd3
     refine ⟨_,⟨some b',cap',sp',L2++[((i:Int),(aw vs).length)],rfl,?_,by rw [hv0];exact hd3,fun j hj=>by rw [fW (by omega)];exact hkeep2 j (by omega),?_⟩,?_⟩
     · rw [hv0]
       exact ⟨(fun e=>by cases e),hlen,hc2.snoc hk2,dJ hnd2 hnm,fun u hu=>by
         rcases List.mem_append.1 hu with hu|hu
         · exact ho2.wf u hu
         rw [List.mem_singleton.1 hu];exact fD f i⟩
     · rw [hv0,hix,←hnl];rfl
     rw [hv0]
     exact hS.bR (.cons _ (List.sublist_append_left (bd bD bf bF bN bO mD mN a ca f.length (some b') cap' (vs++[af f i]) sp' (L2++[((i:Int),(aw vs).length)])) _))
    have hm:af f i∈vs:=Classical.byContradiction (fun hnm=>by
      rw [hm2,jO hc2 ho2.wf (fD f i) hk2 hnm] at hc;simp at hc)
    have hv0:visit (af f i) ts=vs:=by rw [←hput];exact if_pos hm
    have hget:aG (fun a b:NV=>a==b) (aw vs).zipIdx m=some (vs.idxOf (af f i)):=by rw [hm2];exact jN hc2 hnd2 ho2.wf hm
    refine gK (gS (gR ?_));refine aj isAgg114 0 ?_
    iterate 2 refine ad ?_
    refine aa.kN hKI rfl (.inl rfl) rfl rfl rfl (a:=(i:Int)) (v:=vs.idxOf (af f i)) rfl (by rw [hget];rfl) underlying114 6 rfl hno2 ?_
    refine gE (gS (gR ?_));refine ad ?_;refine ai ?_;refine gE ?_
    refine gT func78 fun w' hS=>?_
    refine ⟨_,⟨q2,cap2,sp2,L2++[((i:Int),vs.idxOf (af f i))],rfl,by rw [hv0];exact ho2,by rw [hv0];exact hd2.ins hm,fun j hj=>by rw [fW (by omega)];exact hkeep2 j (by omega),?_⟩,?_⟩
    · rw [hv0,hget];rfl
    rw [hv0]
    exact hS.bR (List.sublist_append_left (bd bD bf bF bN bO mD mN a ca f.length q2 cap2 vs sp2 (L2++[((i:Int),vs.idxOf (af f i))])) _)
   · -- the first part
    refine gS (gR ?_);refine ak xp xm 1 ?_;refine aj xo 8 ?_;refine gE ?_
    refine gC (fun hc=>?_) fun hc=>?_
    ·
     have hY:bA f[i].op=true:=hc
     have hyr:=hok.y hY
     obtain ⟨y,hy⟩:∃y:Nat,f[i].y=(y:Int):=⟨f[i].y.toNat,by omega⟩
     have hyi:y<i:=by omega
     have hn1y:n1.y=(y:Int):=by rw [hn1,←hy];rfl
     obtain ⟨e1,e2⟩:=sh hi hf ho.iq ho.nd hY
     rw [←hts1,←hn1,hy,Int.toNat_natCast] at e2
     rw [←hts1,hy,Int.toNat_natCast] at e1
     rw [e1] at e2
     refine gR ?_;refine aj isAgg115 2 ?_;refine ak xn xk 5 ?_;refine aj xl 9 ?_
     refine aa.bR (h':=bd bD bf bF bN bO mD mN a ca f.length q1 cap1 ts1 sp1 L1++[(some b11,.cells (ib f[i].op).cells 88 (0,0)),(some b10,.cells (NV.cells n1).toArray 65 (0,0))]) (List.Sublist.refl _) ?_
     refine aa.fw (h:=bd bD bf bF bN bO mD mN a ca f.length q1 cap1 ts1 sp1 L1) (hF:=[(some b11,.cells (ib f[i].op).cells 88 (0,0)),(some b10,.cells (NV.cells n1).toArray 65 (0,0))]) (fs:=[]) (cs:=[pt bD,pt bf,pt bF,pt bN,pt bO]) (fun _ v h'=>fx f y bD bf bF bN bO mD mN a ca f.length ts1 L1 v h') rfl rfl rfl rfl rfl (fun _ _=>call78 _ _) (fun w1 Y' hS=>?_) (fun w1 v h1 hR=>?_)
     · have hS1:=hS.bR (List.sublist_append_left (bd bD bf bF bN bO mD mN a ca f.length q1 cap1 ts1 sp1 L1) _)
       have:=IHi y hyi (by omega) w1 q1 cap1 ts1 sp1 L1 hS1.has ⟨(has.a8 hS.ext).at_⟩ (qg ha (by omega) hsep hS1) ho1 hs1 hd1
       rw [←hn1y] at this
       exact this
     obtain ⟨q3,cap3,sp3,L3,rfl,ho3,hd3,hkeep3,rfl⟩:=hR
     rw [e1] at ho3 hd3⊢
     unfold bd
     refine ak xn xk 5 ?_
     refine aa.st rfl rfl rfl rfl xk rfl 9 rfl rfl ?_
     refine gE ?_
     exact K ⟨(bQ (af f i) ts,{n1 with y:=((bQ (af f i) ts).idxOf (af f y):Int)},q3,cap3,sp3,L3),rfl,e2,ho3,hd3,fun j hj=>by rw [←hkeep1 j hj];exact hkeep3 j (by omega)⟩ _ _ sF (fun _ _ hS=>hS)
    have hY:bA f[i].op=false:=hc
    obtain ⟨e1,e2⟩:=vB hi hf (ts:=ts) hY
    rw [←hts1] at e1
    rw [←hn1] at e2
    refine gK ?_
    skip
    exact K ⟨(ts1,n1,q1,cap1,sp1,L1),e1,e2,ho1,hd1,hkeep1⟩ _ _ sF (fun _ _ hS=>hS)
  · -- the first part
   refine gS (gR ?_);refine ak xp xm 0 ?_;refine aj xo 8 ?_;refine gE ?_
   refine gC (fun hc=>?_) fun hc=>?_
   ·
    have hX:bE f[i].op=true:=hc
    have hxr:=hok.x hX
    obtain ⟨x,hx⟩:∃x:Nat,f[i].x=(x:Int):=⟨f[i].x.toNat,by omega⟩
    have hxi:x<i:=by omega
    have e1:visit (af f x) ts=ic f f[i] ts:=by rw [ic,if_pos hX,hx];rfl
    have e2:oN f f[i] ts={f[i] with x:=((ic f f[i] ts).idxOf (af f x):Int)}:=by rw [oN,if_pos hX,hx];rfl
    refine gR ?_;refine aj isAgg115 2 ?_;refine ak xn xk 4 ?_;refine aj xl 9 ?_
    refine aa.bR (h':=bd bD bf bF bN bO mD mN a ca f.length q cap ts sp L++[(some b11,.cells (ib f[i].op).cells 88 (0,0)),(some b10,.cells (NV.cells f[i]).toArray 65 (0,0))]) (List.Sublist.refl _) ?_
    refine aa.fw (h:=bd bD bf bF bN bO mD mN a ca f.length q cap ts sp L) (hF:=[(some b11,.cells (ib f[i].op).cells 88 (0,0)),(some b10,.cells (NV.cells f[i]).toArray 65 (0,0))]) (fs:=[]) (cs:=[pt bD,pt bf,pt bF,pt bN,pt bO]) (fun _ v h'=>fx f x bD bf bF bN bO mD mN a ca f.length ts L v h') rfl rfl rfl rfl rfl (fun _ _=>call78 _ _) (fun w1 Y' hS=>?_) (fun w1 v h1 hR=>?_)
    · have hS1:=hS.bR (List.sublist_append_left (bd bD bf bF bN bO mD mN a ca f.length q cap ts sp L) _)
      have:=IHi x hxi (by omega) w1 q cap ts sp L hS1.has ⟨(has.a8 hS.ext).at_⟩ (has.a8 hS.ext).sep ho hts hd
      rw [←hx] at this
      exact this
    obtain ⟨q3,cap3,sp3,L3,rfl,ho3,hd3,hkeep3,rfl⟩:=hR
    rw [e1] at ho3 hd3⊢
    unfold bd
    refine ak xn xk 4 ?_
    refine aa.st rfl rfl rfl rfl xk rfl 9 rfl rfl ?_
    refine gE ?_
    exact K ⟨(ic f f[i] ts,{f[i] with x:=((ic f f[i] ts).idxOf (af f x):Int)},q3,cap3,sp3,L3),rfl,e2.symm,ho3,hd3,fun j hj=>hkeep3 j (by omega)⟩ _ _ sF (fun _ _ hS=>hS)
   have hX:bE f[i].op=false:=hc
   have e1:ts=ic f f[i] ts:=by rw [ic,if_neg (by rw [hX];simp)]
   have e2:f[i]=oN f f[i] ts:=by rw [oN,if_neg (by rw [hX];simp)]
   refine gK ?_
   skip
   exact K ⟨(ts,f[i],q,cap,sp,L),e1,e2,ho,hd,fun j hj=>rfl⟩ _ _ sF (fun _ _ hS=>hS)
end Go.Proofs.Ytkpknmgofmohbaa
namespace Go.Proofs.Ytkpknmgofmohbaa
open Go.RowKit Go.Proofs.Wit Try
set_option maxRecDepth 8000 in
theorem lP (a:Option Addr) (ca:Nat) (f:List NV) (i:Nat) (w:World) (ha:FA w a f) (hf:aM f) (hfl:f.length≤10000) (hi:i<f.length):
  Cn Try.prog 64 [.slice a f.length ca,.int .i64 i] w (fun v w'=>da 65 w w' v (de (af f i))):=by
 refine Cn.of func64 rfl rfl ?_
 refine gS (gR ?_)
 refine aa.bx rfl rfl rfl rfl (fun b2=>?_)
 refine ai ?_;refine gE (gS (gR ?_))
 refine aa.dc rfl rfl rfl (fun _=>zeroValue46 _) (fun b5=>?_)
 refine gE (gS (gR ?_))
 refine aa.mkMap NV.v r9 rfl rfl rfl (fun b9=>?_)
 refine aa.dc rfl rfl rfl (fun _=>zeroValue113 _) (fun b6=>?_)
 refine aa.st rfl rfl rfl rfl sizeOf113 rfl 0 rfl rfl ?_
 refine gE (gS (gR ?_))
 refine aa.mkMap (Value.int .i64) r9 rfl rfl rfl (fun b10=>?_)
 refine aa.dc rfl rfl rfl (fun _=>zeroValue114 _) (fun b7=>?_)
 refine aa.st rfl rfl rfl rfl sizeOf114 rfl 0 rfl rfl ?_
 refine gE (gS (gR ?_))
 refine aa.dc rfl rfl rfl (fun _=>zeroValue115 _) (fun b8=>?_)
 refine gE (gS (gR ?_))
 refine aa.v (ah.eg rfl rfl rfl rfl rfl) ?_
 refine aa.st rfl rfl rfl rfl sizeOf115 rfl 0 rfl rfl ?_
 refine gE (gS (gR ?_));refine aj isAgg115 0 ?_;refine ad ?_
 refine aa.cw (ja 65 (aw []) []) ?_
 refine aa.pick (pre:=[_,_,_,_,_,_,_,_]) (pre':=bd b7 b2 b8 b6 b5 b10 b9 a ca f.length none 0 [] [] []++[]) [2,7,1,4,6,0,3,5] (by decide) rfl ?_
 refine aa.fw (h:=bd b7 b2 b8 b6 b5 b10 b9 a ca f.length none 0 [] [] []) (hF:=[]) (fs:=[]) (cs:=[pt b7,pt b2,pt b8,pt b6,pt b5]) (fun _ v h'=>fx f i b7 b2 b8 b6 b5 b10 b9 a ca f.length [] [] v h') rfl rfl rfl rfl rfl (fun _ _=>call78 _ _) (fun w1 Y' hS=>?_) (fun w1 v h1 hR=>?_)
 ·have hS1:=hS.bR (List.sublist_append_left (bd b7 b2 b8 b6 b5 b10 b9 a ca f.length none 0 [] [] []) _)
  exact pO f a ca hf hfl b7 b2 b8 b6 b5 b10 b9 i hi w1 none 0 [] [] [] hS1.has (ha.a8 hS.ext) (qg (h:=[]) ha (by omega) (by simp [ej]) hS1) ⟨fun _=>⟨rfl,rfl⟩,rfl,fB.nil,List.nodup_nil,fun u hu=>by cases hu⟩ (List.nil_subset _) dE.nil
 obtain ⟨q1,cap1,sp1,L1,rfl,ho1,hd1,_,rfl⟩:=hR
 unfold bd
 refine gE (gS (gR ?_));refine aj isAgg46 4 ?_;refine ai ?_;refine gE ?_
 refine gT func64 fun w' hS=>?_
 exact ⟨hS.ext,da.mk hS 5 rfl rfl ho1.nil ho1.cap⟩
set_option maxRecDepth 4000 in
theorem rF (a:Option Addr) (ca:Nat) (f:List NV) (i:Int) (w:World) (ha:FA w a f) (hl:f.length≤maxLen):Cn Try.prog 43 [.slice a f.length ca,.int .i64 i] w (fun v w'=>da 65 w w' v (ij f i)):=by
  refine Cn.of func43 rfl rfl ?_
  refine gS (gR ?_);refine ai ?_;refine gE (gS (gS (gR ?_)));refine ad ?_
  refine gP rfl rfl rfl rfl rfl call18 (fun w _ hS=>(by exact ft a ca f w (ha.a8 hS.ext) hl)) ?_
  refine aL eV ?_;refine ad ?_
  refine cM 8 (fun hc=>?_) fun hc=>?_
  ·
   have h1:bj f≠0:=by simpa using hc
   iterate 2 refine ba ?_
   refine aV ?_;refine ad ?_
   iterate 4 refine ba ?_
   refine aV ?_;refine gE (aa.aS rfl (gS (gR ?_)));refine ai ?_;refine gE ?_
   refine gT func43 fun w' hS=>?_
   exact ⟨hS.ext,by rw [ij,if_pos (.inl h1)];exact da.il⟩
  have h1:bj f=0:=by simpa using hc
  refine ad ?_;refine aL db ?_;refine aN ?_;refine ad ?_
  refine cM 12 (fun hc=>?_) fun hc=>?_
  ·
   have h2:i<0:=by simpa using hc
   iterate 4 refine ba ?_
   refine aV ?_;refine gE (aa.aS rfl (gS (gR ?_)));refine ai ?_;refine gE ?_
   refine gT func43 fun w' hS=>?_
   exact ⟨hS.ext,by rw [ij,if_pos (.inr (.inl h2))];exact da.il⟩
  have h2:¬i<0:=by simpa using hc
  iterate 2 refine ad ?_
  refine cq xx ?_;refine aL uH ?_;refine aN ?_;refine gE ?_
  refine gC (fun hc=>?_) fun hc=>?_
  ·
   have h3:(f.length:Int)≤i:=by simpa using hc
   refine gS (gR ?_);refine ai ?_;refine gE ?_
   refine gT func43 fun w' hS=>?_
   exact ⟨hS.ext,by rw [ij,if_pos (.inr (.inr h3))];exact da.il⟩
  have h3:¬(f.length:Int)≤i:=by simpa using hc
  have hok:=eB.1 h1
  have hnl:=hok.len
  have hnp:=hok.pos
  obtain ⟨i,rfl⟩:∃I:Nat,i=I:=⟨i.toNat,by omega⟩
  have hi2:i<f.length:=by omega
  have he:ij f i=de (af f i):=by rw [ij,if_neg (by simp [h1];omega)];rfl
  refine gK (gS (gR ?_))
  iterate 2 refine ad ?_
  refine gM rfl rfl rfl rfl rfl call64 (fun w _ hS=>lP a ca f i w (ha.a8 hS.ext) hok.nodes (by omega) hi2) ?_
  rintro v w1 w2 Y' hS he2 ho
  obtain ⟨q,cap,sp,rfl,hq,hcap,hS'⟩:=dS hS he2 ho
  refine ⟨_,hS',?_⟩
  refine ai ?_;refine gE ?_
  refine gT func43 fun w' hS=>?_
  exact ⟨hS.ext,by rw [he];exact da.mk hS 0 rfl rfl hq hcap⟩
theorem c9 (a:Option Addr) (ca:Nat) (f:List NV) (w:World) (ha:FA w a f) (hl:f.length≤maxLen):Cn Try.prog 22 [.slice a f.length ca] w (fun v w'=>da 65 w w' v (ij f ((f.length:Int) - 1))):=by
 unfold maxLen at hl
 refine Cn.of func22 rfl rfl ?_
 refine gS (gR ?_);refine ai ?_;refine gE (gS (gR ?_))
 iterate 2 refine ad ?_
 refine cq xx ?_;refine aC rfl rfl rfl rfl (p7 (by omega)) ?_
 refine gM rfl rfl rfl rfl rfl call43 (fun w _ hS=>rF a ca f ((f.length:Int) - 1) w (ha.a8 hS.ext) hl) ?_
 rintro v w1 w2 Y' hS he ho
 obtain ⟨q,cap,sp,rfl,hq,hcap,hS'⟩:=dS hS he ho
 refine ⟨_,hS',?_⟩
 refine ai ?_;refine gE ?_
 refine gT func22 fun w' hS=>?_
 exact ⟨hS.ext,da.mk hS 0 rfl rfl hq hcap⟩
end Go.Proofs.Ytkpknmgofmohbaa
namespace Go.Proofs.Ytkpknmgofmohbaa
open Go.RowKit Go.Proofs.Wit Try
set_option maxRecDepth 8000 in
theorem ow (n:NV) (A:Option Addr) (cA:Nat) (gs:List FV) (G:List (List NV)) (w:World) (hG:G=gs.map FV.f) (hA:qG w A gs) (hfa:∀g∈gs,FA w g.a g.f) (hgl:∀g∈gs,g.f.length≤maxLen) (h2:gs.length≤2):
    Cn Try.prog 25 [n.v,.slice A gs.length cA] w (fun v w'=>mM 65 w w' v (gu n G)):=by
  obtain ⟨iN,hiN,hzN,hszN,hbyN⟩:=info_parts qq
  have hGl:G.length=gs.length:=by rw [hG];simp
  have hGk:∀(k:Nat) (hk:k<gs.length),G[k]'(by omega)=gs[k].f:=fun k hk=>by subst hG;simp
  refine Cn.of func25 rfl rfl ?_
  refine gS (gR ?_)
  refine aa.bx rfl rfl rfl rfl (fun b2=>?_)
  refine ai ?_;refine gE (gS (gR ?_));refine ai ?_;refine gE (gS (gS (gR ?_)));refine ad ?_;refine cq underlying105 ?_;refine ad ?_;refine gE (gB ?_)
  refine aa.cw (ja 65 (outs []) []) ?_
  refine aa.pick (pre:=[_,_]) (pre':=[_,_]) [1,0] (by decide) rfl ?_
  refine aa.loop (σ:=Nat×Option Nat×Nat×List Value) (fun z=>[(2,.pointer (some ⟨b2,0,none⟩)),(5,aU z.2.1 (outs (G.take z.1)).length z.2.2.1),(14,.slice A gs.length cA),(15,.int .i64 gs.length),(16,.int .i64 z.1)]) (fun z=>[(some b2,.cells (NV.cells (bM n G z.1)).toArray 65 (0,0)),(z.2.1,ja 65 (outs (G.take z.1)) z.2.2.2)])
    (fun z=>z.1≤gs.length∧(∀g∈G.take z.1,bj g=0)∧(z.2.1=none→(outs (G.take z.1)).length=0∧z.2.2.1=0)∧((outs (G.take z.1)).flatMap NV.cells++z.2.2.2).length=z.2.2.1*6) (fun z=>gs.length - z.1) (0,none,0,[]) ⟨Nat.zero_le _,fun g hg=>by simp at hg,fun _=>⟨rfl,rfl⟩,rfl⟩ ⟨rfl,rfl,rfl,rfl,rfl,trivial⟩ (List.Sublist.refl _) (fun z hI IH=>?_)
  obtain ⟨k,q,cap,sp⟩:=z
  obtain ⟨hk,hall,hq,hcap⟩:=hI
  dsimp only at hk hall hq hcap IH⊢
  have hol:=nu hall
  rw [List.length_take] at hol
  refine gS (gR ?_);refine aL db ?_;refine gE (gS ?_)
  refine gC (fun hc=>?_) fun hc=>?_
  ·
   have hlt:k<gs.length:=by simpa using hc
   have hmem:gs[k]∈gs:=List.getElem_mem hlt
   refine gK (gS (gB (gS (gR ?_))));refine ad ?_
   refine aa.v (ah.idx rfl rfl rfl rfl rfl underlying105 sizeOf46 ⟨_,hA⟩ (by simp) (k) ⟨rfl,by simpa using hlt⟩) ?_
   refine aa.v (ah.ld rfl rfl rfl rfl isAgg46 (fun w _ hS=>(qG.a8 hA hS.ext).at (k) hlt)) ?_
   iterate 2 refine ai ?_
   refine gE (gS (gS (gR ?_)));refine ad ?_
   refine gP rfl rfl rfl rfl rfl call18 (fun w _ hS=>(by exact ft gs[k].a gs[k].c gs[k].f w ((hfa _ hmem).a8 hS.ext) (hgl _ hmem))) ?_
   refine aL eV ?_;refine gE ?_
   refine gC (fun hc=>?_) fun hc=>?_
   ·
    have h3:bj gs[k].f≠0:=by simpa using hc
    refine gS (gR ?_);refine ai ?_;refine gE ?_
    refine gT func25 fun w' hS=>?_
    have hb:gu n G=[]:=if_pos ⟨gs[k].f,by rw [hG];exact List.mem_map_of_mem hmem,h3⟩
    exact ⟨hS.ext,by rw [hb];exact mM.il⟩
   have h3:bj gs[k].f=0:=by simpa using hc
   have hokc:=eh h3
   have hcl:=hokc.len
   have hall2:∀g∈G.take (k+1),bj g=0:=fun g hg=>by
     rw [List.take_succ_eq_append_getElem (by omega:k<G.length)] at hg
     rcases List.mem_append.1 hg with hg|hg
     · exact hall g hg
     rw [List.mem_singleton.1 hg,hGk k hlt];exact h3
   have hot:outs (G.take (k+1))=bh (outs (G.take k)) (ae gs[k].f):=by rw [me (by omega),hGk k hlt]
   refine gK (gS (gR ?_));refine ad ?_;refine cq xx ?_;refine ai ?_;refine gE (gS (gS (gR ?_)));refine ad ?_
   refine gM rfl rfl rfl rfl rfl call22 (fun w _ hS=>(by exact c9 gs[k].a gs[k].c gs[k].f w ((hfa _ hmem).a8 hS.ext) (hgl _ hmem))) ?_
   rintro v w1 w2 Y' hS he ho
   rw [e4] at ho
   obtain ⟨qc,capc,spc,rfl,hqc,hcapc,hS'⟩:=dS hS he ho
   refine ⟨_,hS',?_⟩
   refine cq xx ?_;refine ad ?_;refine gE (gB ?_)
   refine aa.loop (σ:=Nat×Option Nat×Nat×List Value) (fun z=>[(2,.pointer (some ⟨b2,0,none⟩)),(5,aU z.2.1 (bh (outs (G.take k)) ((ae gs[k].f).take z.1)).length z.2.2.1),(6,.int .i64 k),(8,.int .i64 (outs (G.take k)).length),(14,.slice A gs.length cA),(15,.int .i64 gs.length),(16,.int .i64 k),(27,aU qc (ae gs[k].f).length capc),(28,.int .i64 (ae gs[k].f).length),(29,.int .i64 z.1)]) (fun z=>[(qc,ja 65 (ae gs[k].f) spc),(some b2,.cells (NV.cells (bM n G k)).toArray 65 (0,0)),(z.2.1,ja 65 (bh (outs (G.take k)) ((ae gs[k].f).take z.1)) z.2.2.2)])
     (fun z=>z.1≤(ae gs[k].f).length∧(z.2.1=none→(bh (outs (G.take k)) ((ae gs[k].f).take z.1)).length=0∧z.2.2.1=0)∧((bh (outs (G.take k)) ((ae gs[k].f).take z.1)).flatMap NV.cells++z.2.2.2).length=z.2.2.1*6) (fun z=>(ae gs[k].f).length - z.1) (0,q,cap,sp) (by rw [hN];exact ⟨Nat.zero_le _,hq,hcap⟩) (by rw [hN];exact ⟨rfl,rfl,rfl,rfl,rfl,rfl,rfl,rfl,rfl,rfl,trivial⟩) (by rw [hN];exact List.Sublist.refl _) (fun z hI IH2=>?_)
   obtain ⟨m,q,cap,sp⟩:=z
   obtain ⟨hm,hq,hcap⟩:=hI
   dsimp only at hm hq hcap IH2⊢
   have hcl2:(bh (outs (G.take k)) ((ae gs[k].f).take m)).length≤1000:=by rw [hZ,List.length_take];omega
   refine gS (gR ?_);refine aL db ?_;refine gE (gS ?_)
   refine gC (fun hc=>?_) fun hc=>?_
   ·
    have hm:m<(ae gs[k].f).length:=by simp at hc;omega
    have hokn:=hokc.at m hm
    obtain ⟨bc,rfl⟩:∃bc,qc=some bc:=by
      cases qc with
      |none=>have:=(hqc rfl).1;omega
      |some b=>exact ⟨b,rfl⟩
    refine gK (gS (gB (gS (gR ?_))))
    refine aa.v (ah.cD rfl rfl rfl rfl rfl xx xu m ⟨rfl,hm⟩) ?_
    refine aa.v (ah.ko (cs:=NV.cells (ae gs[k].f)[m]) rfl rfl rfl rfl xE xu (fun w _ hS=>Sl.many (enc:=NV.cells) (sz:=6) (a:=some ⟨bc,0,none⟩) (Sl.c5 (hS.get (j:=0) rfl)) (fun _=>rfl) hm)) ?_
    refine aa.dc rfl rfl rfl (fun _=>xO _) (fun b10=>?_)
    refine aa.bV rfl rfl rfl rfl xu 0 rfl rfl rfl rfl ?_
    refine gE (gS (gR ?_));refine ak xn xk 0 ?_;refine aj xl 0 ?_
    refine gP rfl rfl rfl rfl rfl call63 (fun w _ hS=>(by exact bS (ae gs[k].f)[m].op w)) ?_
    refine ad ?_
    iterate 2 refine gZ ?_
    refine aa.dc rfl rfl rfl (fun _=>xJ _) (fun b11=>?_)
    refine aa.bV rfl rfl rfl rfl xr 0 rfl rfl rfl rfl ?_
    refine ai ?_;refine gE (gS (gS (gR ?_)));refine ak xp xm 0 ?_;refine aj xo 0 ?_;refine gE ?_
    refine gC (fun hc=>?_) fun hc=>?_
    ·
     have hX:bE (ae gs[k].f)[m].op=true:=hc
     have hxr:=hokn.x hX
     refine gR ?_;refine ak xn xk 4 ?_;refine aj xl 1 ?_;refine ad ?_;refine aC rfl rfl rfl rfl (aK (by omega)) ?_;refine ak xn xk 4 ?_
     refine aa.st rfl rfl rfl rfl xk rfl 1 rfl rfl ?_
     refine gE (gS (gS (gR ?_)));refine ak xp xm 1 ?_;refine aj xo 0 ?_;refine gE ?_
     refine gC (fun hc=>?_) fun hc=>?_
     ·
      have hY:bA (ae gs[k].f)[m].op=true:=hc
      have hyr:=hokn.y hY
      refine gR ?_;refine ak xn xk 5 ?_;refine aj xl 1 ?_;refine ad ?_;refine aC rfl rfl rfl rfl (aK (by omega)) ?_;refine ak xn xk 5 ?_
      refine aa.st rfl rfl rfl rfl xk rfl 1 rfl rfl ?_
      refine gE (gR ?_);refine ad ?_
      refine aa.v (ah.eR rfl rfl rfl rfl xE 1 rfl xu rfl) ?_
      refine aa.fR (c:=[_,_,_,_,_,_]) rfl rfl rfl rfl xx xu xO rfl rfl (fun b55=>?_)
      have hsh:ct (outs (G.take k)).length (ae gs[k].f)[m]={(ae gs[k].f)[m] with x:=(ae gs[k].f)[m].x+((outs (G.take k)).length:Int),y:=(ae gs[k].f)[m].y+((outs (G.take k)).length:Int)}:=by simp [ct,hX,hY]
      have hct:=hQ (o:=outs (G.take k)) hm
      rw [hsh] at hct
      have e1:(bh (outs (G.take k)) ((ae gs[k].f).take m)).flatMap NV.cells++NV.cells {(ae gs[k].f)[m] with x:=(ae gs[k].f)[m].x+((outs (G.take k)).length:Int),y:=(ae gs[k].f)[m].y+((outs (G.take k)).length:Int)}=(bh (outs (G.take k)) ((ae gs[k].f).take (m+1))).flatMap NV.cells:=by rw [hct,List.flatMap_append];simp
      have e2:(bh (outs (G.take k)) ((ae gs[k].f).take m)).length+1=(bh (outs (G.take k)) ((ae gs[k].f).take (m+1))).length:=by rw [hct];simp
      refine aa.app 6 (xs:=(bh (outs (G.take k)) ((ae gs[k].f).take m)).flatMap NV.cells) (sp:=sp) (nx:=(bh (outs (G.take k)) ((ae gs[k].f).take m)).length) (q:=q) (news:=NV.cells {(ae gs[k].f)[m] with x:=(ae gs[k].f)[m].x+((outs (G.take k)).length:Int),y:=(ae gs[k].f)[m].y+((outs (G.take k)).length:Int)}) (spn:=[]) rfl rfl rfl rfl rfl xx hiN hzN hszN rfl hq 5 rfl 0 rfl iJ hcap rfl (by decide) (fun u hu=>by
        simp only [NV.cells,List.mem_cons,List.not_mem_nil,or_false] at hu
        rcases hu with rfl|rfl|rfl|rfl|rfl|rfl<;>rfl) (by unfold maxLen;omega) (by rw [hbyN];omega) (fun b' sp' cap' hlen=>?_)
      simp only [e1,e2] at hlen⊢
      refine ai ?_;refine gE (cu (gR ?_));refine aC rfl rfl rfl rfl (aK (by omega)) ?_;refine ad ?_;refine gE ?_
      exact IH2 (m+1,some b',cap',sp') _ _ ⟨hm,(fun e=>by cases e),hlen⟩ (by dsimp only;omega) ⟨rfl,rfl,rfl,rfl,rfl,rfl,rfl,rfl,rfl,rfl,trivial⟩ (.cons _ (.cons _ (.cons _ (List.Sublist.refl _))))
     have hY:bA (ae gs[k].f)[m].op=false:=hc
     refine gK (gR ?_);refine ad ?_
     refine aa.v (ah.eR rfl rfl rfl rfl xE 1 rfl xu rfl) ?_
     refine aa.fR (c:=[_,_,_,_,_,_]) rfl rfl rfl rfl xx xu xO rfl rfl (fun b55=>?_)
     have hsh:ct (outs (G.take k)).length (ae gs[k].f)[m]={(ae gs[k].f)[m] with x:=(ae gs[k].f)[m].x+((outs (G.take k)).length:Int)}:=by simp [ct,hX,hY]
     have hct:=hQ (o:=outs (G.take k)) hm
     rw [hsh] at hct
     have e1:(bh (outs (G.take k)) ((ae gs[k].f).take m)).flatMap NV.cells++NV.cells {(ae gs[k].f)[m] with x:=(ae gs[k].f)[m].x+((outs (G.take k)).length:Int)}=(bh (outs (G.take k)) ((ae gs[k].f).take (m+1))).flatMap NV.cells:=by rw [hct,List.flatMap_append];simp
     have e2:(bh (outs (G.take k)) ((ae gs[k].f).take m)).length+1=(bh (outs (G.take k)) ((ae gs[k].f).take (m+1))).length:=by rw [hct];simp
     refine aa.app 6 (xs:=(bh (outs (G.take k)) ((ae gs[k].f).take m)).flatMap NV.cells) (sp:=sp) (nx:=(bh (outs (G.take k)) ((ae gs[k].f).take m)).length) (q:=q) (news:=NV.cells {(ae gs[k].f)[m] with x:=(ae gs[k].f)[m].x+((outs (G.take k)).length:Int)}) (spn:=[]) rfl rfl rfl rfl rfl xx hiN hzN hszN rfl hq 5 rfl 0 rfl iJ hcap rfl (by decide) (fun u hu=>by
       simp only [NV.cells,List.mem_cons,List.not_mem_nil,or_false] at hu
       rcases hu with rfl|rfl|rfl|rfl|rfl|rfl<;>rfl) (by unfold maxLen;omega) (by rw [hbyN];omega) (fun b' sp' cap' hlen=>?_)
     simp only [e1,e2] at hlen⊢
     refine ai ?_;refine gE (cu (gR ?_));refine aC rfl rfl rfl rfl (aK (by omega)) ?_;refine ad ?_;refine gE ?_
     exact IH2 (m+1,some b',cap',sp') _ _ ⟨hm,(fun e=>by cases e),hlen⟩ (by dsimp only;omega) ⟨rfl,rfl,rfl,rfl,rfl,rfl,rfl,rfl,rfl,rfl,trivial⟩ (.cons _ (.cons _ (.cons _ (List.Sublist.refl _))))
    have hX:bE (ae gs[k].f)[m].op=false:=hc
    have hY:bA (ae gs[k].f)[m].op=false:=by
      cases e:bA (ae gs[k].f)[m].op with
      |false=>rfl
      |true=>exact absurd ((dY e).symm.trans hX) (by decide)
    refine gK (gS (gS (gR ?_)));refine ak xp xm 1 ?_;refine aj xo 0 ?_;refine gE ?_
    refine aa.cond rfl (fun hc=>by exfalso;(exact absurd (hY.symm.trans hc) (by decide))) (fun _=>?_)
    refine gK (gR ?_);refine ad ?_
    refine aa.v (ah.eR rfl rfl rfl rfl xE 1 rfl xu rfl) ?_
    refine aa.fR (c:=[_,_,_,_,_,_]) rfl rfl rfl rfl xx xu xO rfl rfl (fun b55=>?_)
    have hsh:ct (outs (G.take k)).length (ae gs[k].f)[m]=(ae gs[k].f)[m]:=by simp [ct,hX,hY]
    have hct:=hQ (o:=outs (G.take k)) hm
    rw [hsh] at hct
    have e1:(bh (outs (G.take k)) ((ae gs[k].f).take m)).flatMap NV.cells++NV.cells (ae gs[k].f)[m]=(bh (outs (G.take k)) ((ae gs[k].f).take (m+1))).flatMap NV.cells:=by rw [hct,List.flatMap_append];simp
    have e2:(bh (outs (G.take k)) ((ae gs[k].f).take m)).length+1=(bh (outs (G.take k)) ((ae gs[k].f).take (m+1))).length:=by rw [hct];simp
    refine aa.app 6 (xs:=(bh (outs (G.take k)) ((ae gs[k].f).take m)).flatMap NV.cells) (sp:=sp) (nx:=(bh (outs (G.take k)) ((ae gs[k].f).take m)).length) (q:=q) (news:=NV.cells (ae gs[k].f)[m]) (spn:=[]) rfl rfl rfl rfl rfl xx hiN hzN hszN rfl hq 5 rfl 0 rfl iJ hcap rfl (by decide) (fun u hu=>by
      simp only [NV.cells,List.mem_cons,List.not_mem_nil,or_false] at hu
      rcases hu with rfl|rfl|rfl|rfl|rfl|rfl<;>rfl) (by unfold maxLen;omega) (by rw [hbyN];omega) (fun b' sp' cap' hlen=>?_)
    simp only [e1,e2] at hlen⊢
    refine ai ?_;refine gE (cu (gR ?_));refine aC rfl rfl rfl rfl (aK (by omega)) ?_;refine ad ?_;refine gE ?_
    exact IH2 (m+1,some b',cap',sp') _ _ ⟨hm,(fun e=>by cases e),hlen⟩ (by dsimp only;omega) ⟨rfl,rfl,rfl,rfl,rfl,rfl,rfl,rfl,rfl,rfl,trivial⟩ (.cons _ (.cons _ (.cons _ (List.Sublist.refl _))))
   have hge:¬m<(ae gs[k].f).length:=by simp at hc;omega
   obtain rfl:m=(ae gs[k].f).length:=by omega
   rw [List.take_length,←hot] at hq hcap hcl2
   rw [List.take_length,←hot]
   refine aa.exit rfl (gS (gR ?_))
   refine ad ?_;refine aL dU ?_;refine gE ?_
   refine gC (fun hc=>?_) fun hc=>?_
   ·
    have hk0:k=0:=by simp at hc;omega
    subst hk0
    refine gR ?_;refine ad ?_;refine cq xx ?_;refine aC rfl rfl rfl rfl (p7 (by omega)) ?_;refine ak xn xk 4 ?_
    refine aa.st rfl rfl rfl rfl xk rfl 1 rfl rfl ?_
    refine gE (cu (gR ?_));refine aC rfl rfl rfl rfl (aK (by omega)) ?_;refine ad ?_;refine gE ?_
    exact IH (1,q,cap,sp) _ _ ⟨hlt,hall2,hq,hcap⟩ (by dsimp only;omega) ⟨rfl,rfl,rfl,rfl,rfl,trivial⟩ (.cons _ (List.Sublist.refl _))
   have hk0:k≠0:=by simp at hc;omega
   have hnK:=pq (n:=n) (gs:=G) hk0
   refine gR ?_;refine ad ?_;refine cq xx ?_;refine aC rfl rfl rfl rfl (p7 (by omega)) ?_;refine ak xn xk 5 ?_
   refine aa.st rfl rfl rfl rfl xk rfl 1 rfl rfl ?_
   refine gE (cu (gR ?_));refine aC rfl rfl rfl rfl (aK (by omega)) ?_;refine ad ?_;refine gE ?_
   exact IH (k+1,q,cap,sp) _ _ ⟨hlt,hall2,hq,hcap⟩ (by dsimp only;omega) ⟨rfl,rfl,rfl,rfl,rfl,trivial⟩ (by rw [hnK];exact .cons _ (List.Sublist.refl _))
  have hge:¬k<gs.length:=by simpa using hc
  obtain rfl:k=gs.length:=by omega
  have hGt:G.take gs.length=G:=by rw [←hGl];exact List.take_length
  rw [hGt] at hall hq hcap hol
  rw [hGt]
  have hex:¬∃g∈G,bj g≠0:=fun ⟨g,hg,h⟩=>h (hall g hg)
  refine aa.exit rfl (gS (gS (gR ?_)))
  refine aa.v (ah.eR rfl rfl rfl rfl xE 0 rfl xu rfl) ?_
  refine ad ?_;refine cq xx ?_
  refine gP rfl rfl rfl rfl rfl call36 (fun w _ hS=>(by exact nB (bM n G gs.length) (outs G).length w)) ?_
  refine aL eV ?_;refine gE ?_
  refine gC (fun hc=>?_) fun hc=>?_
  ·
   have h3:aq (bM n G gs.length) (outs G).length≠0:=by simpa using hc
   refine gS (gR ?_);refine ai ?_;refine gE ?_
   refine gT func25 fun w' hS=>?_
   have hb:gu n G=[]:=by rw [gu,if_neg hex,hGl,if_pos h3]
   exact ⟨hS.ext,by rw [hb];exact mM.il⟩
  have h3:aq (bM n G gs.length) (outs G).length=0:=by simpa using hc
  have hnn:=o9 (pj hall) (eQ.1 h3)
  have e1:(outs G).flatMap NV.cells++NV.cells (bM n G gs.length)=(outs G++[bM n G gs.length]).flatMap NV.cells:=by rw [List.flatMap_append];simp
  have e2:(outs G).length+1=(outs G++[bM n G gs.length]).length:=by simp
  have hb2:gu n G=if 200<(de (af (outs G++[bM n G gs.length]) (outs G).length)).length then [] else de (af (outs G++[bM n G gs.length]) (outs G).length):=by rw [gu,if_neg hex,hGl,if_neg (by simp [h3])]
  refine gK (gS (gR ?_));refine ad ?_
  refine aa.v (ah.eR rfl rfl rfl rfl xE 0 rfl xu rfl) ?_
  refine aa.fR (c:=[_,_,_,_,_,_]) rfl rfl rfl rfl xx xu xO rfl rfl (fun b76=>?_)
  refine aa.app 6 (xs:=(outs G).flatMap NV.cells) (sp:=sp) (nx:=(outs G).length) (q:=q) (news:=NV.cells (bM n G gs.length)) (spn:=[]) rfl rfl rfl rfl rfl xx hiN hzN hszN rfl hq 2 rfl 0 rfl iJ hcap rfl (by decide) (fun u hu=>by
    simp only [NV.cells,List.mem_cons,List.not_mem_nil,or_false] at hu
    rcases hu with rfl|rfl|rfl|rfl|rfl|rfl<;>rfl) (by unfold maxLen;omega) (by rw [hbyN];omega) (fun b' sp' cap' hlen=>?_)
  simp only [e1,e2] at hlen⊢
  refine ad ?_;refine cq xx ?_
  refine gM rfl rfl rfl rfl rfl call64 (fun w _ hS=>(by exact lP (some ⟨b',0,none⟩) cap' (outs G++[bM n G gs.length]) (outs G).length w ⟨Sl.c5 (hS.get (j:=2) rfl)⟩ hnn (by simp;omega) (by simp))) ?_
  rintro v w1 w2 Y' hS he ho
  obtain ⟨qr,capr,spr,rfl,hqr,hcapr,hS'⟩:=dS hS he ho
  refine ⟨_,hS',?_⟩
  refine ai ?_;refine gE (gS (gS (gR ?_)));refine ad ?_;refine cq xx ?_;refine aL qz ?_;refine gE ?_
  refine gC (fun hc=>?_) fun hc=>?_
  ·
   have h4:200<(de (af (outs G++[bM n G gs.length]) (outs G).length)).length:=by simp at hc;omega
   refine gS (gR ?_);refine ai ?_;refine gE ?_
   refine gT func25 fun w' hS=>?_
   exact ⟨hS.ext,by rw [hb2,if_pos h4];exact mM.il⟩
  have h4:¬200<(de (af (outs G++[bM n G gs.length]) (outs G).length)).length:=by simp at hc;omega
  refine gK (gS (gR ?_));refine ad ?_;refine ai ?_;refine gE ?_
  refine gT func25 fun w' hS=>?_
  exact ⟨hS.ext,by rw [hb2,if_neg h4];exact ⟨da.mk hS 0 rfl rfl hqr hcapr,fun e=>absurd e (List.ne_nil_of_length_pos (j4 _))⟩⟩
theorem lU (n:NV) (A:Option Addr) (cA:Nat) (gs:List FV) (G:List (List NV)) (w:World) (hG:G=gs.map FV.f) (hA:qG w A gs) (hfa:∀g∈gs,FA w g.a g.f) (hgl:∀g∈gs,g.f.length≤maxLen) (h2:gs.length≤2):
  Cn Try.prog 25 [n.v,.slice A gs.length cA] w (fun v w'=>da 65 w w' v (gu n G)):=(ow n A cA gs G w hG hA hfa hgl h2).mono (fun _ _ _ h=>h.1)
end Go.Proofs.Ytkpknmgofmohbaa
namespace Go.Proofs.Ytkpknmgofmohbaa
open Go.RowKit Go.Proofs.Wit Try
theorem rj (i:Int) (a:Option Addr) (ca:Nat) (f:List NV) (w:World) (ha:FA w a f) (hl:f.length≤maxLen):Cn Try.prog 10 [.int .i64 i,.slice a f.length ca] w (fun v w'=>da 65 w w' v (gu ⟨9,i,0,0,0,0⟩ [f])):=by
 refine Cn.of func10 rfl rfl ?_
 refine gS (gR ?_);refine ai ?_;refine gE (gS (gR ?_));refine ad ?_
 refine aa.v (ah.eM rfl rfl rfl rfl (bd65 (c:=[_,_,_,_,_,_]) rfl)) ?_
 refine ad ?_
 refine aa.fR (c:=[_]) rfl rfl rfl rfl underlying105 sizeOf46 zeroValue46 rfl rfl (fun b8=>?_)
 refine gM rfl rfl rfl rfl rfl call25 (fun w _ hS=>(by exact lU ⟨9,i,0,0,0,0⟩ (some ⟨b8,0,none⟩) 1 [⟨a,ca,f⟩] [f] w rfl (Sl.c5 (sp:=[]) (hS.get (j:=0) rfl)) (fun g hg=>by rw [List.mem_singleton.1 hg];exact ha.a8 hS.ext) (fun g hg=>by rw [List.mem_singleton.1 hg];exact hl) (by simp))) ?_
 rintro v w1 w2 Y' hS he ho
 obtain ⟨q,cap,sp,rfl,hq,hcap,hS'⟩:=dS hS he ho
 refine ⟨_,hS',?_⟩
 refine ai ?_;refine gE ?_
 refine gT func10 fun w' hS=>?_
 exact ⟨hS.ext,da.mk hS 0 rfl rfl hq hcap⟩
theorem rI (i:Int) (w:World):Cn Try.prog 11 [.int .i64 i] w (fun v w'=>da 65 w w' v (gu ⟨3,i,0,0,0,0⟩ [])):=by
 refine Cn.of func11 rfl rfl ?_
 refine gS (gR ?_);refine ai ?_;refine gE (gS (gR ?_));refine ad ?_
 refine aa.v (ah.eM rfl rfl rfl rfl (bd65 (c:=[_,_,_,_,_,_]) rfl)) ?_
 refine gM rfl rfl rfl rfl rfl call25 (fun w _ hS=>(by exact lU ⟨3,i,0,0,0,0⟩ none 0 [] [] w rfl (Sl.nil _ _) (fun g hg=>by cases hg) (fun g hg=>by cases hg) (by simp))) ?_
 rintro v w1 w2 Y' hS he ho
 obtain ⟨q,cap,sp,rfl,hq,hcap,hS'⟩:=dS hS he ho
 refine ⟨_,hS',?_⟩
 refine ai ?_;refine gE ?_
 refine gT func11 fun w' hS=>?_
 exact ⟨hS.ext,da.mk hS 0 rfl rfl hq hcap⟩
end Go.Proofs.Ytkpknmgofmohbaa
namespace Go.Proofs.Ytkpknmgofmohbaa
open Go.RowKit Go.Proofs.Wit Try
theorem nW (n:NV) (op:Int) (w:World):Cn Try.prog 38 [n.v,ib op] w (fun v _=>v=.int .i64 (pK op)):=by
 refine Cn.of func38 rfl rfl ?_
 refine gS (gR ?_)
 refine aa.bx rfl rfl rfl rfl (fun b2=>?_)
 refine aa.bx rfl rfl rfl rfl (fun b3=>?_)
 refine ai ?_;refine gE (gS (gR ?_));refine ak xp xk 6 ?_;refine aj xl 0 ?_;refine ai ?_;refine gE ?_
 refine gT func38 fun w' hS=>?_
 exact ⟨hS.ext,rfl⟩
set_option maxRecDepth 4000 in
theorem nV (a:Option Addr) (ca:Nat) (f:List NV) (w:World) (ha:FA w a f) (hl:f.length≤maxLen):Cn Try.prog 37 [.slice a f.length ca,.func (.func 38) #[] #[]] w (fun v _=>v=.int .i64 (fO (ae f))):=by
  have hcl:=hJ f
  refine Cn.of func37 rfl rfl ?_
  refine gS (gR ?_);refine ai ?_;refine gE (gS (gR ?_));refine ai ?_;refine gE (gS (gS (gR ?_)));refine ad ?_
  refine gM rfl rfl rfl rfl rfl call22 (fun w _ hS=>c9 a ca f w (ha.a8 hS.ext) hl) ?_
  rintro v w1 w2 Y' hS he ho
  rw [e4] at ho
  obtain ⟨q,cap,sp,rfl,hq,hcap,hS'⟩:=dS hS he ho
  refine ⟨_,hS',?_⟩
  refine cq xx ?_;refine ad ?_;refine gE (gB ?_)
  refine aa.loop (σ:=Nat) (fun k=>[(1,.func (.func 38) #[] #[]),(5,.int .i64 (fO ((ae f).take k))),(11,aU q (ae f).length cap),(12,.int .i64 (ae f).length),(13,.int .i64 k)]) (fun _=>[(q,ja 65 (ae f) sp)]) (fun k=>k≤(ae f).length) (fun k=>(ae f).length - k) 0 (Nat.zero_le _) ⟨rfl,rfl,rfl,rfl,rfl,trivial⟩ (List.Sublist.refl _) (fun k hk IH=>?_)
  refine gS (gR ?_);refine aL db ?_;refine gE (gS ?_)
  refine gC (fun hc=>?_) fun hc=>?_
  ·
   have hm:k<(ae f).length:=by simpa using hc
   obtain ⟨b,rfl⟩:∃b,q=some b:=by
     cases q with
     |none=>have:=(hq rfl).1;omega
     |some b=>exact ⟨b,rfl⟩
   have h1:=pI ((ae f).take k)
   have h2:=kV (ae f)[k].op
   have h3:=rG (ae f)[k]
   have ht:fO ((ae f).take (k+1))=fO ((ae f).take k)|||rH (ae f)[k]:=by rw [List.take_succ_eq_append_getElem hm,iG]
   refine gK (gS (gB (gS (gR ?_))))
   refine aa.v (ah.cD rfl rfl rfl rfl rfl xx xu k ⟨rfl,hm⟩) ?_
   refine aa.v (ah.ko (cs:=NV.cells (ae f)[k]) rfl rfl rfl rfl xE xu (fun w _ hS=>Sl.many (enc:=NV.cells) (sz:=6) (a:=some ⟨b,0,none⟩) (Sl.c5 (hS.get (j:=0) rfl)) (fun _=>rfl) hm)) ?_
   refine aa.dc rfl rfl rfl (fun _=>xO _) (fun b7=>?_)
   refine aa.bV rfl rfl rfl rfl xu 0 rfl rfl rfl rfl ?_
   refine gE (gS (gR ?_));refine ak xn xk 0 ?_;refine aj xl 0 ?_
   refine gP rfl rfl rfl rfl rfl call63 (fun w _ hS=>(by exact bS (ae f)[k].op w)) ?_
   refine ad ?_
   iterate 2 refine gZ ?_
   refine aa.dc rfl rfl rfl (fun _=>xJ _) (fun b8=>?_)
   refine aa.bV rfl rfl rfl rfl xr 0 rfl rfl rfl rfl ?_
   refine ai ?_;refine gE (gR ?_)
   iterate 2 refine ad ?_
   refine aa.v (ah.eR rfl rfl rfl rfl xE 1 rfl xu rfl) ?_
   refine aa.v (ah.eR rfl rfl rfl rfl xA 0 rfl xr rfl) ?_
   refine gP rfl rfl rfl rfl rfl call38 (fun w _ hS=>(by have:=nW (ae f)[k] (ae f)[k].op w;rw [←h3] at this;exact this)) ?_
   refine aC rfl rfl rfl rfl (rQ h1 (by omega) ht) ?_;refine ai ?_;refine gE (cu (gR ?_));refine aC rfl rfl rfl rfl (aK (by omega)) ?_;refine ad ?_;refine gE ?_
   exact IH (k+1) _ _ hm (by omega) ⟨rfl,rfl,rfl,rfl,rfl,trivial⟩ (.cons _ (.cons _ (List.Sublist.refl _)))
  have hge:¬k<(ae f).length:=by simpa using hc
  obtain rfl:k=(ae f).length:=by omega
  rw [List.take_length]
  refine aa.exit rfl (gS (gR ?_))
  refine ad ?_;refine ai ?_;refine gE ?_
  refine gT func37 fun w' hS=>?_
  exact ⟨hS.ext,rfl⟩
theorem pJ (a:Option Addr) (ca:Nat) (f:List NV) (w:World) (ha:FA w a f) (hl:f.length≤maxLen):Cn Try.prog 19 [.slice a f.length ca] w (fun v _=>v=.int .i64 (fO (ae f))):=by
 refine Cn.of func19 rfl rfl ?_
 refine gS (gR ?_);refine ai ?_;refine gE (gS (gR ?_));refine ad ?_
 refine gP rfl rfl rfl rfl rfl call37 (fun w _ hS=>(by exact nV a ca f w (ha.a8 hS.ext) hl)) ?_
 refine ai ?_;refine gE ?_
 refine gT func19 fun w' hS=>?_
 exact ⟨hS.ext,rfl⟩
end Go.Proofs.Ytkpknmgofmohbaa
namespace Go.Proofs.Ytkpknmgofmohbaa
open Go.RowKit Go.Proofs.Wit Try
theorem mL (n:NV) (h:gj n.op n.i n.e n.g) (w:World):Cn Try.prog 69 [n.v,ib n.op] w (fun v _=>v=.int .i64 (lg n:Nat)):=by
  refine Cn.of func69 rfl rfl ?_
  refine gS (gR ?_)
  refine aa.bx rfl rfl rfl rfl (fun b2=>?_)
  refine aa.bx rfl rfl rfl rfl (fun b3=>?_)
  refine ai ?_;refine gE (gS (gS (gR ?_)));refine ak xp xm 3 ?_;refine aj xo 0 ?_;refine gE ?_
  refine gC (fun hc=>?_) fun hc=>?_
  ·
   have ha:gv n.op=true:=hc
   have h1:=h.ag ha
   obtain ⟨k,hk⟩:∃k:Nat,n.i=(k:Int):=⟨n.i.toNat,by omega⟩
   have h3:n.g=0:=h.g0 (tv ha)
   have hpw:1*2^k<9223372036854775808:=by
     have:k=0∨k=1∨k=2∨k=3:=by omega
     rcases this with rfl|rfl|rfl|rfl<;>decide
   refine gS (gR ?_);refine ak xn xk 1 ?_;refine aj xl 1 ?_
   refine aC rfl rfl rfl rfl (iP (x:=1) (j:=k) hk hpw (by omega)) ?_
   refine ai ?_;refine gE ?_
   refine gT func69 fun w' hS=>?_
   exact ⟨hS.ext,by rw [lg,if_pos ha,h3,hk];simp;rfl⟩
  have ha:¬gv n.op=true:=by rw [show gv n.op=false from hc];simp
  have h1:=uo h
  refine gK (gS (gR ?_));refine ak xn xk 3 ?_;refine aj xl 1 ?_;refine ai ?_;refine gE ?_
  refine gT func69 fun w' hS=>?_
  exact ⟨hS.ext,by rw [lg,if_neg ha,Nat.zero_or,Int.toNat_of_nonneg h1];rfl⟩
theorem n8 (n:NV) (h:gj n.op n.i n.e n.g) (w:World):Cn Try.prog 70 [n.v,ib n.op] w (fun v _=>v=.int .i64 (kU n:Nat)):=by
  refine Cn.of func70 rfl rfl ?_
  refine gS (gR ?_)
  refine aa.bx rfl rfl rfl rfl (fun b2=>?_)
  refine aa.bx rfl rfl rfl rfl (fun b3=>?_)
  refine ai ?_;refine gE (gS (gS (gR ?_)));refine ak xp xm 2 ?_;refine aj xo 0 ?_;refine gE ?_
  refine gC (fun hc=>?_) fun hc=>?_
  ·
   have ha:n.op=3:=by simpa using hc
   have h1:=h.fact ha
   obtain ⟨k,hk⟩:∃k:Nat,n.i=(k:Int):=⟨n.i.toNat,by omega⟩
   have hpw:1*2^k<9223372036854775808:=by
     have:2^k<2^8:=Nat.pow_lt_pow_right (by decide) (by omega)
     omega
   refine gS (gR ?_);refine ak xn xk 1 ?_;refine aj xl 1 ?_
   refine aC rfl rfl rfl rfl (iP (x:=1) (j:=k) hk hpw (by omega)) ?_
   refine ai ?_;refine gE ?_
   refine gT func70 fun w' hS=>?_
   exact ⟨hS.ext,by rw [kU,if_pos ha,hk];simp;rfl⟩
  have ha:¬n.op=3:=by simpa using hc
  refine gK (gS (gR ?_));refine ai ?_;refine gE ?_
  refine gT func70 fun w' hS=>?_
  exact ⟨hS.ext,by rw [kU,if_neg ha];rfl⟩
set_option maxRecDepth 4000 in
theorem kr (a:Option Addr) (ca:Nat) (f:List NV) (w:World) (ha:FA w a f) (hl:f.length≤maxLen):Cn Try.prog 37 [.slice a f.length ca,.func (.func 69) #[] #[]] w (fun v _=>v=.int .i64 (gq lg (ae f):Nat)):=by
  have hcl:=hJ f
  have hno:=(ei f).jX
  refine Cn.of func37 rfl rfl ?_
  refine gS (gR ?_);refine ai ?_;refine gE (gS (gR ?_));refine ai ?_;refine gE (gS (gS (gR ?_)));refine ad ?_
  refine gM rfl rfl rfl rfl rfl call22 (fun w _ hS=>c9 a ca f w (ha.a8 hS.ext) hl) ?_
  rintro v w1 w2 Y' hS he ho
  rw [e4] at ho
  obtain ⟨q,cap,sp,rfl,hq,hcap,hS'⟩:=dS hS he ho
  refine ⟨_,hS',?_⟩
  refine cq xx ?_;refine ad ?_;refine gE (gB ?_)
  refine aa.loop (σ:=Nat) (fun k=>[(1,.func (.func 69) #[] #[]),(5,.int .i64 (gq lg ((ae f).take k):Nat)),(11,aU q (ae f).length cap),(12,.int .i64 (ae f).length),(13,.int .i64 k)]) (fun _=>[(q,ja 65 (ae f) sp)]) (fun k=>k≤(ae f).length) (fun k=>(ae f).length - k) 0 (Nat.zero_le _) ⟨rfl,rfl,rfl,rfl,rfl,trivial⟩ (List.Sublist.refl _) (fun k hk IH=>?_)
  refine gS (gR ?_);refine aL db ?_;refine gE (gS ?_)
  refine gC (fun hc=>?_) fun hc=>?_
  ·
   have hm:k<(ae f).length:=by simpa using hc
   obtain ⟨b,rfl⟩:∃b,q=some b:=by
     cases q with
     |none=>have:=(hq rfl).1;omega
     |some b=>exact ⟨b,rfl⟩
   have hfk:=hno _ (List.getElem_mem hm)
   have h1:gq lg ((ae f).take k)<2^4:=iX (fun n hn=>lb (hno n (List.mem_of_mem_take hn)))
   have h2:=lb hfk
   have ht:gq lg ((ae f).take (k+1))=gq lg ((ae f).take k)|||lg (ae f)[k]:=jH hm
   refine gK (gS (gB (gS (gR ?_))))
   refine aa.v (ah.cD rfl rfl rfl rfl rfl xx xu k ⟨rfl,hm⟩) ?_
   refine aa.v (ah.ko (cs:=NV.cells (ae f)[k]) rfl rfl rfl rfl xE xu (fun w _ hS=>Sl.many (enc:=NV.cells) (sz:=6) (a:=some ⟨b,0,none⟩) (Sl.c5 (hS.get (j:=0) rfl)) (fun _=>rfl) hm)) ?_
   refine aa.dc rfl rfl rfl (fun _=>xO _) (fun b7=>?_)
   refine aa.bV rfl rfl rfl rfl xu 0 rfl rfl rfl rfl ?_
   refine gE (gS (gR ?_));refine ak xn xk 0 ?_;refine aj xl 0 ?_
   refine gP rfl rfl rfl rfl rfl call63 (fun w _ hS=>(by exact bS (ae f)[k].op w)) ?_
   refine ad ?_
   iterate 2 refine gZ ?_
   refine aa.dc rfl rfl rfl (fun _=>xJ _) (fun b8=>?_)
   refine aa.bV rfl rfl rfl rfl xr 0 rfl rfl rfl rfl ?_
   refine ai ?_;refine gE (gR ?_)
   iterate 2 refine ad ?_
   refine aa.v (ah.eR rfl rfl rfl rfl xE 1 rfl xu rfl) ?_
   refine aa.v (ah.eR rfl rfl rfl rfl xA 0 rfl xr rfl) ?_
   refine gP rfl rfl rfl rfl rfl call69 (fun w _ hS=>(by exact mL (ae f)[k] hfk w)) ?_
   refine aC rfl rfl rfl rfl (rQ (by omega) (by omega) ht) ?_;refine ai ?_;refine gE (cu (gR ?_));refine aC rfl rfl rfl rfl (aK (by omega)) ?_;refine ad ?_;refine gE ?_
   exact IH (k+1) _ _ hm (by omega) ⟨rfl,rfl,rfl,rfl,rfl,trivial⟩ (.cons _ (.cons _ (List.Sublist.refl _)))
  have hge:¬k<(ae f).length:=by simpa using hc
  obtain rfl:k=(ae f).length:=by omega
  rw [List.take_length]
  refine aa.exit rfl (gS (gR ?_))
  refine ad ?_;refine ai ?_;refine gE ?_
  refine gT func37 fun w' hS=>?_
  exact ⟨hS.ext,rfl⟩
theorem mc (a:Option Addr) (ca:Nat) (f:List NV) (w:World) (ha:FA w a f) (hl:f.length≤maxLen):Cn Try.prog 40 [.slice a f.length ca] w (fun v _=>v=.int .i64 (gq lg (ae f):Nat)):=by
 refine Cn.of func40 rfl rfl ?_
 refine gS (gR ?_);refine ai ?_;refine gE (gS (gR ?_));refine ad ?_
 refine gP rfl rfl rfl rfl rfl call37 (fun w _ hS=>(by exact kr a ca f w (ha.a8 hS.ext) hl)) ?_
 refine ai ?_;refine gE ?_
 refine gT func40 fun w' hS=>?_
 exact ⟨hS.ext,rfl⟩
set_option maxRecDepth 4000 in
theorem l3 (a:Option Addr) (ca:Nat) (f:List NV) (w:World) (ha:FA w a f) (hl:f.length≤maxLen):Cn Try.prog 37 [.slice a f.length ca,.func (.func 70) #[] #[]] w (fun v _=>v=.int .i64 (gq kU (ae f):Nat)):=by
  have hcl:=hJ f
  have hno:=(ei f).jX
  refine Cn.of func37 rfl rfl ?_
  refine gS (gR ?_);refine ai ?_;refine gE (gS (gR ?_));refine ai ?_;refine gE (gS (gS (gR ?_)));refine ad ?_
  refine gM rfl rfl rfl rfl rfl call22 (fun w _ hS=>c9 a ca f w (ha.a8 hS.ext) hl) ?_
  rintro v w1 w2 Y' hS he ho
  rw [e4] at ho
  obtain ⟨q,cap,sp,rfl,hq,hcap,hS'⟩:=dS hS he ho
  refine ⟨_,hS',?_⟩
  refine cq xx ?_;refine ad ?_;refine gE (gB ?_)
  refine aa.loop (σ:=Nat) (fun k=>[(1,.func (.func 70) #[] #[]),(5,.int .i64 (gq kU ((ae f).take k):Nat)),(11,aU q (ae f).length cap),(12,.int .i64 (ae f).length),(13,.int .i64 k)]) (fun _=>[(q,ja 65 (ae f) sp)]) (fun k=>k≤(ae f).length) (fun k=>(ae f).length - k) 0 (Nat.zero_le _) ⟨rfl,rfl,rfl,rfl,rfl,trivial⟩ (List.Sublist.refl _) (fun k hk IH=>?_)
  refine gS (gR ?_);refine aL db ?_;refine gE (gS ?_)
  refine gC (fun hc=>?_) fun hc=>?_
  ·
   have hm:k<(ae f).length:=by simpa using hc
   obtain ⟨b,rfl⟩:∃b,q=some b:=by
     cases q with
     |none=>have:=(hq rfl).1;omega
     |some b=>exact ⟨b,rfl⟩
   have hfk:=hno _ (List.getElem_mem hm)
   have h1:gq kU ((ae f).take k)<2^8:=iX (fun n hn=>kT (hno n (List.mem_of_mem_take hn)))
   have h2:=kT hfk
   have ht:gq kU ((ae f).take (k+1))=gq kU ((ae f).take k)|||kU (ae f)[k]:=jH hm
   refine gK (gS (gB (gS (gR ?_))))
   refine aa.v (ah.cD rfl rfl rfl rfl rfl xx xu k ⟨rfl,hm⟩) ?_
   refine aa.v (ah.ko (cs:=NV.cells (ae f)[k]) rfl rfl rfl rfl xE xu (fun w _ hS=>Sl.many (enc:=NV.cells) (sz:=6) (a:=some ⟨b,0,none⟩) (Sl.c5 (hS.get (j:=0) rfl)) (fun _=>rfl) hm)) ?_
   refine aa.dc rfl rfl rfl (fun _=>xO _) (fun b7=>?_)
   refine aa.bV rfl rfl rfl rfl xu 0 rfl rfl rfl rfl ?_
   refine gE (gS (gR ?_));refine ak xn xk 0 ?_;refine aj xl 0 ?_
   refine gP rfl rfl rfl rfl rfl call63 (fun w _ hS=>(by exact bS (ae f)[k].op w)) ?_
   refine ad ?_
   iterate 2 refine gZ ?_
   refine aa.dc rfl rfl rfl (fun _=>xJ _) (fun b8=>?_)
   refine aa.bV rfl rfl rfl rfl xr 0 rfl rfl rfl rfl ?_
   refine ai ?_;refine gE (gR ?_)
   iterate 2 refine ad ?_
   refine aa.v (ah.eR rfl rfl rfl rfl xE 1 rfl xu rfl) ?_
   refine aa.v (ah.eR rfl rfl rfl rfl xA 0 rfl xr rfl) ?_
   refine gP rfl rfl rfl rfl rfl call70 (fun w _ hS=>(by exact n8 (ae f)[k] hfk w)) ?_
   refine aC rfl rfl rfl rfl (rQ (by omega) (by omega) ht) ?_;refine ai ?_;refine gE (cu (gR ?_));refine aC rfl rfl rfl rfl (aK (by omega)) ?_;refine ad ?_;refine gE ?_
   exact IH (k+1) _ _ hm (by omega) ⟨rfl,rfl,rfl,rfl,rfl,trivial⟩ (.cons _ (.cons _ (List.Sublist.refl _)))
  have hge:¬k<(ae f).length:=by simpa using hc
  obtain rfl:k=(ae f).length:=by omega
  rw [List.take_length]
  refine aa.exit rfl (gS (gR ?_))
  refine ad ?_;refine ai ?_;refine gE ?_
  refine gT func37 fun w' hS=>?_
  exact ⟨hS.ext,rfl⟩
theorem nq (a:Option Addr) (ca:Nat) (f:List NV) (w:World) (ha:FA w a f) (hl:f.length≤maxLen):Cn Try.prog 41 [.slice a f.length ca] w (fun v _=>v=.int .i64 (gq kU (ae f):Nat)):=by
 refine Cn.of func41 rfl rfl ?_
 refine gS (gR ?_);refine ai ?_;refine gE (gS (gR ?_));refine ad ?_
 refine gP rfl rfl rfl rfl rfl call37 (fun w _ hS=>(by exact l3 a ca f w (ha.a8 hS.ext) hl)) ?_
 refine ai ?_;refine gE ?_
 refine gT func41 fun w' hS=>?_
 exact ⟨hS.ext,rfl⟩
theorem lL (m A:Nat) (hm:m<512) (hA:A<31) (w:World):Cn Try.prog 39 [.int .i64 m,.int .i64 A] w (fun v _=>v=.bool (decide (m / 2^A=0))):=by
 refine Cn.of func39 rfl rfl ?_
 refine gS (gR ?_);refine ai ?_;refine gE (gS (gR ?_));refine ad ?_
 refine aC rfl rfl rfl rfl (jm (v:=false) (decide_eq_false (by omega))) ?_
 iterate 3 refine ad ?_
 refine aa.v (ah.blt rfl rfl rfl (gD (c:=(A:Int)) (by omega)) rfl) ?_
 refine aC rfl rfl rfl rfl (ke (j:=A) (by simp) (by omega) (by omega)) ?_
 refine aL dU ?_;refine aN ?_;refine ai ?_;refine gE ?_
 refine gT func39 fun w' hS=>?_
 refine ⟨hS.ext,?_⟩
 have e:(((m / 2^A:Nat):Int)==0)=decide (m / 2^A=0):=by
  rw [Bool.eq_iff_iff,beq_iff_eq,decide_eq_true_eq];omega
 rw [←e];rfl
theorem pf (a:Option Addr) (ca:Nat) (f:List NV) (A Bf:Nat) (w:World) (ha:FA w a f) (hl:f.length≤maxLen) (hA:A<31) (hB:Bf<31):Cn Try.prog 20 [.slice a f.length ca,.int .i64 A,.int .i64 Bf] w (fun v _=>v=.bool (kW f A Bf)):=by
  have hno:=(ei f).jX
  have h1:gq lg (ae f)<2^4:=iX (fun n hn=>lb (hno n hn))
  have h2:gq kU (ae f)<2^8:=iX (fun n hn=>kT (hno n hn))
  refine Cn.of func20 rfl rfl ?_
  refine gS (gR ?_);refine ai ?_;refine gE (gS (gR ?_));refine ai ?_;refine gE (gS (gR ?_));refine ad ?_
  refine gP rfl rfl rfl rfl rfl call18 (fun w _ hS=>(by exact ft a ca f w (ha.a8 hS.ext) hl)) ?_
  refine aL dU ?_;refine ad ?_
  refine cM 11 (fun hc=>?_) fun hc=>?_
  ·
   have h0:bj f=0:=by simpa using hc
   iterate 2 refine ad ?_
   refine gP rfl rfl rfl rfl rfl call40 (fun w _ hS=>(by exact mc a ca f w (ha.a8 hS.ext) hl)) ?_
   refine ad ?_
   refine gP rfl rfl rfl rfl rfl call39 (fun w _ hS=>(by exact lL (gq lg (ae f)) A (by omega) hA w)) ?_
   refine aV ?_;refine ad ?_
   refine cM 18 (fun hc=>?_) fun hc=>?_
   ·
    have h3:=hc
    iterate 2 refine ad ?_
    refine gP rfl rfl rfl rfl rfl call41 (fun w _ hS=>(by exact nq a ca f w (ha.a8 hS.ext) hl)) ?_
    refine ad ?_
    refine gP rfl rfl rfl rfl rfl call39 (fun w _ hS=>(by exact lL (gq kU (ae f)) Bf (by omega) hB w)) ?_
    refine aV ?_;refine ai ?_;refine gE ?_
    refine gT func20 fun w' hS=>?_
    refine ⟨hS.ext,?_⟩
    rw [kW,iZ h1,iZ h2,h3,h0];rfl
   have h3:decide (gq lg (ae f) / 2^A=0)=false:=hc
   iterate 5 refine ba ?_
   refine aN ?_;refine ai ?_;refine gE ?_
   refine gT func20 fun w' hS=>?_
   refine ⟨hS.ext,?_⟩
   rw [kW,iZ h1,h3,Bool.false_and,Bool.and_false];rfl
  have h0:(bj f==0)=false:=hc
  iterate 5 refine ba ?_
  refine aN ?_;refine ad ?_
  iterate 5 refine ba ?_
  refine aN ?_;refine ai ?_;refine gE ?_
  refine gT func20 fun w' hS=>?_
  refine ⟨hS.ext,?_⟩
  rw [kW,h0,Bool.false_and];rfl
end Go.Proofs.Ytkpknmgofmohbaa
namespace Go.Proofs.Ytkpknmgofmohbaa
open Go.RowKit Go.Proofs.Wit Try
def pH (rs:List RV) (i:Nat) (p:CD):Bool:=((dz rs p.1).lO.getD p.2 0#64).getLsbD i
set_option maxRecDepth 8000 in
theorem pW (nb cb xb yb bc i n f l:Nat) (A:Option Addr) (c:Nat) (rs:List RV) (p:CD) (w:World) (hC:oT w 94 bc n f l A c rs) (hok:dt n f l rs) (hp1:p.1<rs.length) (hp2:p.2<l)
  (h1:w.heap[nb]?=some (.cells #[.int .i64 3,.int .i64 i,.int .i64 0,.int .i64 0,.int .i64 0,.int .i64 0] 65 (0,0))) (h2:w.heap[cb]?=some (.cells #[ptr bc] 60 (0,0))):
  Cn Try.prog 62 [.agg (cG p).toArray,ptr nb,ptr cb,ptr xb,ptr yb] w (fun v _=>v=.bool (pH rs i p)):=by
 obtain ⟨Q,cp,G,cg,ms,bK,hb,hA,_⟩:=hC.all
 have HB:∀{w':World} {j:Nat} {u:Value},Ex [] w w'→(mH n f l A rs.length c Q bK.length cp G n cg)[j]?=some u→w'.cell? ⟨bc,j,none⟩=some u:=fun e h=>Ex.cell e hb h
 have HB1:∀{w':World} {j:Nat} {u:Value},Ex [] w w'→(#[.int .i64 3,.int .i64 (i:Int),.int .i64 0,.int .i64 0,.int .i64 0,.int .i64 0]:Array Value)[j]?=some u→w'.cell? ⟨nb,j,none⟩=some u:=fun e h=>Ex.cell e h1 h
 have HB2:∀{w':World} {j:Nat} {u:Value},Ex [] w w'→(#[ptr bc]:Array Value)[j]?=some u→w'.cell? ⟨cb,j,none⟩=some u:=fun e h=>Ex.cell e h2 h
 have hxm:rs[p.1]∈rs:=List.getElem_mem hp1
 have hxa:=hA.runs _ hxm
 obtain ⟨k1,k2,k3,k4⟩:=hok.ok _ hxm
 have ht2:p.2<rs[p.1].fs.length:=by omega
 have hv:pH rs i p=(rs[p.1].fs.getD p.2 0#64).getLsbD i:=by rw [pH,dA hp1];rfl
 refine Cn.of func62 rfl rfl ?_
 refine gS (gR ?_)
 refine aa.bx rfl rfl rfl rfl (fun b5=>?_)
 refine ai ?_;refine gE (gS ?_)
 refine aa.draw 6 mixed rfl ?_
 refine iw xR xk 0 ?_;refine kD xl 0 ?_;refine iw xR xk 1 ?_;refine kD xl 0 ?_
 iterate 2 refine r2 ?_
 refine ao.nil ?_
 refine gE (gS (gS (gR ?_)));refine ak xn xk 0 ?_
 refine aa.v (ah.ld (p:=⟨nb,0,none⟩) rfl rfl rfl rfl xl (fun w _ hS=>HB1 hS.ext rfl)) ?_
 refine gE (gB (gS (gR ?_)))
 refine aC rfl rfl rfl rfl (iu (v:=false) rfl) ?_
 refine ai ?_;refine gE (aa.aP rfl (gS (gR ?_)))
 refine aC rfl rfl rfl rfl (iu (v:=true) rfl) ?_
 refine ai ?_;refine gE (aa.aS rfl (gS ?_))
 refine aa.draw 18 mixed rfl ?_
 refine ao.v (ah.ld (p:=⟨cb,0,none⟩) rfl rfl rfl rfl isAgg60 (fun w _ hS=>HB2 hS.ext rfl)) ?_
 refine u5 ?_;refine iw xS xz 0 ?_;refine iw xw xD 3 ?_
 refine ao.v (ah.ld rfl rfl rfl rfl xF (fun w _ hS=>(HB hS.ext rfl))) ?_
 refine ik ?_
 refine ao.v (ah.fo rfl rfl rfl rfl rfl xB xH ⟨_,(hA).at_⟩ (aO (enc:=RV.cells) (sz:=2) (fun _=>rfl)) (by decide) (p.1) ⟨rfl,hp1⟩) ?_
 refine ao.v (ah.jg rfl rfl rfl rfl xI rfl sizeOf36 ((p.1)*2+1) rfl) ?_
 refine ao.v (ah.ld rfl rfl rfl rfl isAgg36 (fun w _ hS=>Sl.jX (enc:=RV.cells) (sz:=2) ((hA).a8 hS.ext).at_ (fun _=>rfl) hp1 rfl)) ?_
 refine ik ?_
 refine ao.v (ah.idx rfl rfl rfl rfl rfl xT sizeOf34 ⟨_,hxa.fs⟩ (by simp) p.2 ⟨rfl,by simpa using ht2⟩) ?_
 refine ao.v (ah.ld rfl rfl rfl rfl isAgg34 (fun w _ hS=>((hxa.a8 hS.ext).fs.at p.2 ht2))) ?_
 refine iw xn xk 1 ?_
 refine ao.v (ah.ld (p:=⟨nb,1,none⟩) rfl rfl rfl rfl xl (fun w _ hS=>HB1 hS.ext rfl)) ?_
 refine ao.v (ah.bin rfl rfl rfl rfl (p8 i rfl) rfl) ?_
 refine ao.v (ah.bin (b:=U 1#64) rfl rfl rfl rfl rS rfl) ?_
 refine ao.v (ah.bin (b:=U 1#64) rfl rfl rfl rfl (tq (v:=pH rs i p) (by rw [hv];exact pF)) rfl) ?_
 refine r2 ?_
 refine ao.nil ?_
 refine gE ?_
 refine gT func62 fun w' hS=>?_
 exact ⟨hS.ext,rfl⟩
set_option maxRecDepth 8000 in
theorem mJ (bc i n f l:Nat) (A:Option Addr) (c:Nat) (rs:List RV) (w:World) (hC:oT w 94 bc n f l A c rs) (hok:dt n f l rs):
  Cn Try.prog 24 [ptr bc,.agg #[.int .i64 3,.int .i64 i,.int .i64 0,.int .i64 0,.int .i64 0,.int .i64 0],.slice none 0 0,.slice none 0 0] w (fun v w'=>jv 30 4 w w' v rs.length l (pH rs i)):=by
 refine Cn.of func24 rfl rfl ?_
 refine gS (gR ?_)
 refine aa.bx rfl rfl rfl rfl (fun b4=>?_)
 refine aa.bx rfl rfl rfl rfl (fun b5=>?_)
 refine aa.bx rfl rfl rfl rfl (fun b6=>?_)
 refine aa.bx rfl rfl rfl rfl (fun b7=>?_)
 refine ai ?_;refine gE (gS (gR ?_));refine aj isAgg60 3 ?_
 refine aa.v (ah.eg rfl rfl rfl rfl rfl) ?_
 refine gM rfl rfl rfl rfl rfl call47 (fun w _ hS=>(by exact nZ bc n f l A c rs w (hC.a8 hS.ext) hok.r7.2 hok.sT.2 62 [ptr b5,ptr b4,ptr b6,ptr b7] (pH rs i) (fun _ _=>call62 _ _) (fun w' he p h1 h2=>by exact pW b5 b4 b6 b7 bc i n f l A c rs p w' ((hC.a8 hS.ext).a8 he) hok h1 h2 (he.dR (hS.get (j:=2) rfl)) (he.dR (hS.get (j:=3) rfl))))) ?_
 rintro v w1 w2 Y' hS he ⟨bo,B,rfl,hnew,hBl,hRL,hvv⟩
 refine ⟨_,hS.lK he hnew,?_⟩
 refine ai ?_;refine gE ?_
 refine gT func24 fun w' hS=>?_
 exact ⟨hS.ext,bo,B,rfl,c3.of (hS.bR (List.sublist_append_left _ _)),hBl,hRL,hvv⟩
def qR (e:Int×FuncId):List Value:=[.int .i64 e.1,.func (.func e.2) #[] #[]]
def lD:List (Int×FuncId):=[(9,44),(10,46),(11,50),(12,52),(13,54),(18,56),(20,58),(19,59),(21,61)]
set_option maxRecDepth 8000 in
theorem lC (w:World):Cn Try.prog 23 [] w (fun v w'=>∃b,v=.slice (some ⟨b,0,none⟩) 9 9∧w.heap.size≤b∧w'.heap[b]?=some (.cells (lD.flatMap qR++[]).toArray 71 (0,0))):=by
 refine Cn.of func23 rfl rfl ?_
 refine gS (gR ?_);refine ai ?_;refine gE (gS (gR ?_))
 iterate 9 refine aa.v (ah.eM rfl rfl rfl rfl (bd71 (c:=[_,_]) rfl)) ?_
 refine aa.fR (c:=[_,_,_,_,_,_,_,_,_,_,_,_,_,_,_,_,_,_]) rfl rfl rfl rfl underlying67 sizeOf71 zeroValue71 rfl rfl (fun b10=>?_)
 refine ai ?_;refine gE ?_
 refine gT func23 fun w' hS=>?_
 exact ⟨hS.ext,b10,rfl,hS.fresh (j:=0) rfl,hS.get (j:=0) rfl⟩
set_option maxRecDepth 8000 in
theorem nf (bc a n f l:Nat) (A:Option Addr) (c:Nat) (rs:List RV) (X:Option Addr) (cX:Nat) (rows:List BV) (xv:CD→Bool) (Z:Value) (w:World) (hC:oT w 94 bc n f l A c rs) (hok:dt n f l rs) (han:a<n) (hX:qC w X rs.length l rows xv):
  Cn Try.prog 44 [ptr bc,.agg #[.int .i64 9,.int .i64 a,.int .i64 0,.int .i64 0,.int .i64 0,.int .i64 0],.slice X rs.length cX,Z] w (fun v w'=>jv 30 4 w w' v rs.length l (fun p=>im rs l a xv (fy rs a p))):=by
 refine Cn.of func44 rfl rfl ?_
 refine gS (gR ?_)
 refine aa.bx rfl rfl rfl rfl (fun b5=>?_)
 refine ai ?_;refine gE (gS (gR ?_));refine ad ?_;refine ak xn xk 1 ?_;refine aj xl 0 ?_;refine ad ?_
 refine gM rfl rfl rfl rfl rfl call45 (fun w _ hS=>(by exact ri bc a n f l A c rs X cX rows xv w (hC.a8 hS.ext) hok han (hX.a8 hS.ext))) ?_
 rintro v w1 w2 Y' hS he ⟨bo,B,rfl,hnew,hBl,hRL,hvv⟩
 refine ⟨_,hS.lK he hnew,?_⟩
 refine ai ?_;refine gE ?_
 refine gT func44 fun w' hS=>?_
 exact ⟨hS.ext,bo,B,rfl,c3.of (hS.bR (List.sublist_append_left _ _)),hBl,hRL,hvv⟩
end Go.Proofs.Ytkpknmgofmohbaa
namespace Go.Proofs.Ytkpknmgofmohbaa
open Go.RowKit Go.Proofs.Wit Try
def fK:List NV:=[⟨3,0,0,0,0,0⟩,⟨9,1,0,0,0,0⟩]
def vK (rs:List RV):Nat→CD→Bool
 |0=>pH rs 0
 |_=>fun p=>im rs 3 1 (pH rs 0) (fy rs 1 p)
theorem ry:(Try.prog.info? 66).map (fun i=>(i.zero,i.size,i.bytes))=some (some (.slice none 0 0),1,24):=by kernel_rfl
theorem sq:∀j (h:j<lD.length),(((lD[j]'h).1==9)=true→j=0)∧((lD[j]'h).1==3)=false:=by decide
set_option maxRecDepth 8000 in
set_option maxHeartbeats 1000000 in
theorem pE (A:Option Addr) (c:Nat) (rs:List RV) (F:Option Addr) (cF:Nat) (w:World) (hA:gw w A rs) (hok:dt 2 4 3 rs) (hF:FA w F fK):
    Cn Try.prog 9 [mX (2:Nat) (4:Nat) (3:Nat) A rs c,.slice F fK.length cF] w (fun v w'=>∃b H,v=.tuple #[.slice (some ⟨b,0,none⟩) rs.length rs.length,.int .i64 0]∧c3 w w' H∧dD 30 4 H b rs.length 3 (vK rs 1)):=by
  obtain ⟨i0,hi0,hz0,hsz0,hby0⟩:=info_parts ry
  have hml:fK.length≤maxLen:=by decide
  refine Cn.of func9 rfl rfl ?_
  refine gS (gR ?_)
  refine aa.bx rfl rfl rfl rfl (fun b2=>?_)
  iterate 2 refine ai ?_
  refine gE (gS (gS (gR ?_)))
  refine aa.v (ah.eR rfl rfl rfl rfl xK 0 rfl xz rfl) ?_
  refine gP rfl rfl rfl rfl rfl call17 (fun w _ hS=>(by exact jD 2 4 3 A c rs w (hA.a8 hS.ext) hok)) ?_
  refine ai ?_;refine gE (gS (gR ?_));refine ad ?_
  refine aC rfl rfl rfl rfl (jl (v:=false) rfl) ?_
  refine gE (aa.aP rfl (gK (gS (gS (gR ?_)))));refine ad ?_
  refine gP rfl rfl rfl rfl rfl call18 (fun w _ hS=>(by have:=ft F cF fK w (hF.a8 hS.ext) hml;rw [show bj fK=0 by decide] at this;exact this)) ?_
  refine ai ?_;refine gE (gS (gR ?_));refine ad ?_
  refine aC rfl rfl rfl rfl (jl (v:=false) rfl) ?_
  refine gE (aa.aP rfl (gK (gS (gS (gR ?_)))));refine ad ?_
  refine gP rfl rfl rfl rfl rfl call19 (fun w _ hS=>(by have:=pJ F cF fK w (hF.a8 hS.ext) hml;rw [show fO (ae fK)=1 by decide] at this;exact this)) ?_
  refine aC rfl rfl rfl rfl (oC (a:=1) (b:=271) (by decide) (by decide)) ?_
  refine aC rfl rfl rfl rfl (jl (v:=false) (by decide)) ?_
  refine gE (aa.aP rfl (gK (gS (gS (gR ?_)))));refine ad ?_;refine ak xw xk 0 ?_;refine aj xl 0 ?_;refine ak xw xk 1 ?_;refine aj xl 0 ?_
  refine gP rfl rfl rfl rfl rfl call20 (fun w _ hS=>(by have:=pf F cF fK 2 4 w (hF.a8 hS.ext) hml (by decide) (by decide);rw [show kW fK 2 4=true by decide] at this;exact this)) ?_
  refine bP aH ?_;refine gE (aa.aP rfl (gK (gS (gR ?_))))
  refine aa.v (ah.eR rfl rfl rfl rfl xK 0 rfl xz rfl) ?_
  refine gM rfl rfl rfl rfl rfl call21 (fun w _ hS=>(by exact kJ 2 4 3 A c rs w (hA.a8 hS.ext) hok)) ?_
  rintro v w1 w2 Y' hS he ⟨bc,Hc,rfl,hnew,hck⟩
  refine ⟨_,hS.cY (pre:=[]) he hnew,?_⟩
  refine ai ?_;refine gE (gS (gR ?_));refine ai ?_;refine gE (gS (gS (gR ?_)));refine ad ?_
  refine gM rfl rfl rfl rfl rfl call22 (fun w _ hS=>(by exact c9 F cF fK w (hF.a8 hS.ext) hml)) ?_
  rintro v w1 w2 Y' hS he ho
  rw [show ij fK ((fK.length:Int) - 1)=fK by decide] at ho
  obtain ⟨qn,cn,spn,rfl,hqn,hcn,hS'⟩:=dS hS he ho
  obtain ⟨bn,rfl⟩:∃b,qn=some b:=by
    cases qn with
    |none=>have:=(hqn rfl).1;cases this
    |some b=>exact ⟨b,rfl⟩
  refine ⟨_,hS',?_⟩
  refine cq xx ?_;refine ad ?_;refine gE (gB ?_)
  refine aa.cw (ob (kp rs.length) 66 [] []) ?_
  refine aa.loop (σ:=Nat×Option Nat×Nat×List Nat×List Value×Hl) (fun z=>[(8,ptr bc),(41,.slice (some ⟨bn,0,none⟩) 2 cn),(42,.int .i64 2),(9,aU z.2.1 z.2.2.2.1.length z.2.2.1),(43,.int .i64 z.1)]) (fun z=>[(z.2.1,ob (kp rs.length) 66 z.2.2.2.1 z.2.2.2.2.1),(some bn,ja 65 fK spn)]++z.2.2.2.2.2)
    (fun z=>z.1≤2∧z.2.2.2.1.length=z.1∧(z.2.1=none→z.2.2.2.1.length=0∧z.2.2.1=0)∧(z.2.2.2.1.map (kp rs.length)++z.2.2.2.2.1).length=z.2.2.1∧lp 94 97 95 z.2.2.2.2.2 bc 2 4 3 A c rs∧∀j (hj:j<z.2.2.2.1.length),dD 30 4 z.2.2.2.2.2 z.2.2.2.1[j] rs.length 3 (vK rs j)) (fun z=>2 - z.1) (0,none,0,[],[],Hc) ⟨Nat.zero_le _,rfl,fun _=>⟨rfl,rfl⟩,rfl,hck,fun j hj=>absurd hj (Nat.not_lt_zero _)⟩ ⟨rfl,rfl,rfl,rfl,rfl,trivial⟩ (.cons_cons _ (.cons_cons _ (.cons _ (List.Sublist.refl _)))) (fun z hI IH=>?_)
  obtain ⟨k,q,cap,vs,sp,H⟩:=z
  obtain ⟨hk,hvl,hq,hcap,hck,htr⟩:=hI
  dsimp only at hk hvl hq hcap hck htr IH⊢
  refine gS (gR ?_);refine aL db ?_;refine gE (gS ?_)
  refine gC (fun hc=>?_) fun hc=>?_
  ·
   have hk2:k<2:=by have h:=of_decide_eq_true hc;omega
   refine gK (gS (gB (gS (gR ?_))));refine ad ?_
   refine aa.v (ah.cD rfl rfl rfl rfl rfl xx xu (k) ⟨rfl,hk2⟩) ?_
   refine aa.v (ah.ko (cs:=NV.cells (fK[k]'(show k<fK.length from hk2))) rfl rfl rfl rfl xE xu (fun w _ hS=>Sl.many (enc:=NV.cells) (sz:=6) (Sl.c5 (hS.get (j:=1) rfl)) (fun _=>rfl) (show k<fK.length from hk2))) ?_
   refine aa.dc rfl rfl rfl (fun _=>xO _) (fun b11=>?_)
   refine ai ?_
   refine aa.bV rfl rfl rfl rfl xu 0 rfl rfl rfl rfl ?_
   refine gE (gS (gR ?_))
   iterate 2 refine ai ?_
   refine gE (gS (gS (gR ?_)));refine ad ?_;refine aL qz ?_;refine gE ?_
   refine gC (fun hc=>?_) fun hc=>?_
   ·
    obtain rfl:k=1:=by have h:=of_decide_eq_true hc;omega
    obtain ⟨v0,rfl⟩:∃v0,vs=[v0]:=by
      match vs,hvl with
      |[v0],_=>exact ⟨v0,rfl⟩
    obtain ⟨bv,rfl⟩:∃b,q=some b:=by
      cases q with
      |none=>have:=(hq rfl).1;cases this
      |some b=>exact ⟨b,rfl⟩
    have ht0:=htr 0 Nat.zero_lt_one
    refine aa.draw 12 mixed rfl ?_
    refine ik ?_;refine iw xn xk 4 ?_;refine kD xl 0 ?_
    refine ao.v (ah.cD rfl rfl rfl rfl rfl xU sizeOf66 (0) ⟨rfl,Nat.zero_lt_one⟩) ?_
    refine ao.v (ah.nL (kp rs.length) 0 rfl rfl rfl rfl isAgg66 1 rfl Nat.zero_lt_one) ?_
    refine ik ?_;refine iw xn xk 5 ?_;refine kD xl 0 ?_
    refine ao.v (ah.cD rfl rfl rfl rfl rfl xU sizeOf66 (0) ⟨rfl,Nat.zero_lt_one⟩) ?_
    refine ao.v (ah.nL (kp rs.length) 0 rfl rfl rfl rfl isAgg66 1 rfl Nat.zero_lt_one) ?_
    iterate 2 refine r2 ?_
    refine ao.nil ?_
    refine gE (gS (gR ?_));refine ai ?_;refine gE (gS (gS (gR ?_)))
    refine gM rfl rfl rfl rfl rfl call23 (fun w _ hS=>(by exact lC w)) ?_
    rintro v w1 w2 Y' hS he ⟨br,rfl,hf1,hf2⟩
    refine ⟨_,hS.kS he hf2 rfl hf1,?_⟩
    refine cq underlying67 ?_;refine ad ?_;refine gE (gB ?_)
    refine aa.loop (σ:=Nat×Value×Hl) (fun z=>[(8,ptr bc),(41,.slice (some ⟨bn,0,none⟩) 2 cn),(42,.int .i64 2),(9,aU (some bv) 1 cap),(43,.int .i64 1),(11,ptr b11),(12,kp rs.length v0),(13,kp rs.length v0),(14,z.2.1),(60,.slice (some ⟨br,0,none⟩) 9 9),(61,.int .i64 9),(62,.int .i64 z.1)]) (fun z=>[(some br,.cells (lD.flatMap qR++[]).toArray 71 (0,0)),(some b11,.cells (NV.cells (fK[1]'(by decide))).toArray 65 (0,0)),(some bv,ob (kp rs.length) 66 [v0] sp),(some bn,ja 65 fK spn)]++z.2.2)
      (fun z=>z.1≤9∧((z.1=0∧z.2.1=.slice none 0 0∧z.2.2=H)∨(0<z.1∧H⊆z.2.2∧∃b,z.2.1=kp rs.length b∧dD 30 4 z.2.2 b rs.length 3 (vK rs 1)))) (fun z=>9 - z.1) (0,.slice none 0 0,H) ⟨Nat.zero_le _,.inl ⟨rfl,rfl,rfl⟩⟩ ⟨rfl,rfl,rfl,rfl,rfl,rfl,rfl,rfl,rfl,rfl,rfl,rfl,trivial⟩ (List.Sublist.refl _) (fun z hI IH2=>?_)
    obtain ⟨j,v,H1⟩:=z
    obtain ⟨hj9,hcase⟩:=hI
    dsimp only at hj9 hcase IH2⊢
    refine gS (gR ?_);refine aL db ?_;refine gE (gS ?_)
    refine gC (fun hc=>?_) fun hc=>?_
    ·
     have hj:j<lD.length:=by have h:=of_decide_eq_true hc;show j<9;omega
     obtain ⟨ru,hru⟩:∃ru,ru=lD[j]'hj:=⟨_,rfl⟩
     refine gK (gS (gB (gS (gR ?_))))
     refine aa.v (ah.cD rfl rfl rfl rfl rfl underlying67 sizeOf71 (j) ⟨rfl,hj⟩) ?_
     refine aa.v (ah.ko (cs:=qR ru) rfl rfl rfl rfl isAgg71 sizeOf71 (fun w _ hS=>by rw [hru];exact Sl.many (enc:=qR) (sz:=2) (Sl.c5 (hS.get (j:=0) rfl)) (fun _=>rfl) hj)) ?_
     refine aa.dc rfl rfl rfl (fun _=>zeroValue71 _) (fun b16=>?_)
     refine aa.bV rfl rfl rfl rfl sizeOf71 0 rfl rfl rfl rfl ?_
     refine gE (gS (gR ?_));refine ak underlying71 xk 0 ?_;refine aj xl 0 ?_;refine ak xn xk 0 ?_;refine aj xl 2 ?_;refine aL dU ?_;refine gE ?_
     refine gC (fun hc=>?_) fun hc=>?_
     ·
      have hj0:j=0:=(sq j hj).1 (by rw [←hru];exact hc)
      obtain ⟨_,rfl,rfl⟩:j=0∧v=.slice none 0 0∧H1=H:=by
        rcases hcase with h|h
        · exact h
        omega
      subst hj0
      subst hru
      refine gR ?_;refine ak underlying71 sizeOf69 1 ?_;refine aj isAgg69 0 ?_;refine ad ?_
      refine aa.v (ah.eR rfl rfl rfl rfl xE 2 rfl xu rfl) ?_
      iterate 2 refine ad ?_
      refine gM rfl rfl rfl rfl rfl call44 (fun w _ hS=>(by obtain ⟨rows,hrows⟩:=(ht0.mono (fun z hz=>by simp [hz])).at hS;exact nf bc 1 2 4 3 A c rs (some ⟨v0,0,none⟩) rs.length rows (pH rs 0) (kp rs.length v0) w ((hck.mono (fun z hz=>by simp [hz])).at hS (hA.a8 hS.ext)) hok (by decide) hrows)) ?_
      rintro v w1 w2 Y' hS he ⟨bo,B,rfl,hnew,hBl,hRL,hvv⟩
      refine ⟨_,hS.cY (pre:=[]) he hnew,?_⟩
      refine ai ?_;refine gE (cu (gR ?_));refine aC rfl rfl rfl rfl (aK (by omega)) ?_;refine ad ?_;refine gE ?_
      exact IH2 (1,kp rs.length bo,H1++((some bo,ob (dN 3) 30 (cK B 0) [])::B.map (dB 4))) _ _ ⟨show 1≤9 by decide,.inr ⟨Nat.zero_lt_one,fun z hz=>List.mem_append_left _ hz,bo,rfl,(dD.new hBl hRL hvv).mono (fun z hz=>List.mem_append_right _ hz)⟩⟩ (show 9 - 1<9 - 0 by decide) ⟨rfl,rfl,rfl,rfl,rfl,rfl,rfl,rfl,rfl,rfl,rfl,rfl,trivial⟩ (.cons _ (List.Sublist.refl _))
     have hj0:j≠0:=fun e=>by subst e;subst hru;cases hc
     refine gK (cu (gR ?_));refine aC rfl rfl rfl rfl (aK (by omega)) ?_;refine ad ?_;refine gE ?_
     exact IH2 (j+1,v,H1) _ _ ⟨by show j+1≤9;have:lD.length=9:=rfl;omega,.inr ⟨Nat.succ_pos _,hcase.elim (fun h=>absurd h.1 hj0) (fun h=>h.2)⟩⟩ (by show 9 - (j+1)<9 - j;have:lD.length=9:=rfl;omega) ⟨rfl,rfl,rfl,rfl,rfl,rfl,rfl,rfl,rfl,rfl,rfl,rfl,trivial⟩ (.cons _ (List.Sublist.refl _))
    have hj9':j=9:=by have h:=of_decide_eq_false hc;omega
    obtain ⟨_,hsub,b,rfl,hb⟩:0<j∧H⊆H1∧∃b,v=kp rs.length b∧dD 30 4 H1 b rs.length 3 (vK rs 1):=by
      rcases hcase with h|h
      · omega
      exact h
    refine aa.exit rfl (gS (gS (gR ?_)))
    refine ad ?_;refine aC rfl rfl rfl rfl (jk xW) ?_;refine gE (aa.aP rfl (gK (gR ?_)))
    iterate 2 refine ad ?_
    refine aa.fR (c:=[_]) rfl rfl rfl rfl xU sizeOf66 zeroValue66 rfl rfl (fun b88=>?_)
    refine aa.iv (kp rs.length) (news:=[b]) (spn:=[]) (xs:=[v0]) (sp:=sp) (q:=some bv) rfl rfl rfl rfl rfl xU hi0 hz0 hsz0 rfl hq 3 rfl 0 rfl hcap rfl (by decide) (fun _=>rfl) (by unfold maxLen;simp) (by rw [hby0];simp) (fun b' sp' cap' hlen=>?_)
    refine ai ?_;refine gE (cu (gR ?_));refine aC rfl rfl rfl rfl (aK (by omega)) ?_;refine ad ?_;refine gE ?_
    exact IH (2,some b',cap',[v0]++[b],sp',H1) _ _ ⟨Nat.le_refl _,rfl,(fun e=>by cases e),hlen,hck.mono hsub,fun i hi=>(match i,hi with
    |0,_=>ht0.mono hsub
    |1,_=>hb)⟩ (show 2 - 2<2 - 1 by decide) ⟨rfl,rfl,rfl,rfl,rfl,trivial⟩ (.cons _ (.cons _ (.cons _ (List.Sublist.refl _))))
   obtain rfl:k=0:=by have h:=of_decide_eq_false hc;omega
   obtain rfl:vs=[]:=List.eq_nil_of_length_eq_zero hvl
   refine gK (gS (gR ?_));refine ai ?_;refine gE (gS (gS (gR ?_)))
   refine gM rfl rfl rfl rfl rfl call23 (fun w _ hS=>(by exact lC w)) ?_
   rintro v w1 w2 Y' hS he ⟨br,rfl,hf1,hf2⟩
   refine ⟨_,hS.kS he hf2 rfl hf1,?_⟩
   refine cq underlying67 ?_;refine ad ?_;refine gE (gB ?_)
   refine aa.loop (σ:=Nat) (fun j=>[(8,ptr bc),(41,.slice (some ⟨bn,0,none⟩) 2 cn),(42,.int .i64 2),(9,aU q 0 cap),(43,.int .i64 0),(11,ptr b11),(12,.slice none 0 0),(13,.slice none 0 0),(14,.slice none 0 0),(60,.slice (some ⟨br,0,none⟩) 9 9),(61,.int .i64 9),(62,.int .i64 j)]) (fun _=>[(some br,.cells (lD.flatMap qR++[]).toArray 71 (0,0)),(some b11,.cells (NV.cells (fK[0]'(by decide))).toArray 65 (0,0)),(q,ob (kp rs.length) 66 [] sp),(some bn,ja 65 fK spn)]++H)
     (fun j=>j≤9) (fun j=>9 - j) 0 (Nat.zero_le _) ⟨rfl,rfl,rfl,rfl,rfl,rfl,rfl,rfl,rfl,rfl,rfl,rfl,trivial⟩ (List.Sublist.refl _) (fun j hj9 IH2=>?_)
   refine gS (gR ?_);refine aL db ?_;refine gE (gS ?_)
   refine gC (fun hc=>?_) fun hc=>?_
   ·
    have hj:j<lD.length:=by have h:=of_decide_eq_true hc;show j<9;omega
    obtain ⟨ru,hru⟩:∃ru,ru=lD[j]'hj:=⟨_,rfl⟩
    refine gK (gS (gB (gS (gR ?_))))
    refine aa.v (ah.cD rfl rfl rfl rfl rfl underlying67 sizeOf71 (j) ⟨rfl,hj⟩) ?_
    refine aa.v (ah.ko (cs:=qR ru) rfl rfl rfl rfl isAgg71 sizeOf71 (fun w _ hS=>by rw [hru];exact Sl.many (enc:=qR) (sz:=2) (Sl.c5 (hS.get (j:=0) rfl)) (fun _=>rfl) hj)) ?_
    refine aa.dc rfl rfl rfl (fun _=>zeroValue71 _) (fun b16=>?_)
    refine aa.bV rfl rfl rfl rfl sizeOf71 0 rfl rfl rfl rfl ?_
    refine gE (gS (gR ?_));refine ak underlying71 xk 0 ?_;refine aj xl 0 ?_;refine ak xn xk 0 ?_;refine aj xl 2 ?_
    refine aC rfl rfl rfl rfl (iu (v:=false) (by rw [hru];exact (sq j hj).2)) ?_
    refine gE (aa.aP rfl (gK (cu (gR ?_))));refine aC rfl rfl rfl rfl (aK (by omega)) ?_;refine ad ?_;refine gE ?_
    exact IH2 (j+1) _ _ (by show j+1≤9;have:lD.length=9:=rfl;omega) (by show 9 - (j+1)<9 - j;have:lD.length=9:=rfl;omega) ⟨rfl,rfl,rfl,rfl,rfl,rfl,rfl,rfl,rfl,rfl,rfl,rfl,trivial⟩ (.cons _ (List.Sublist.refl _))
   refine aa.exit rfl (gS (gS (gR ?_)))
   refine ad ?_;refine aC rfl rfl rfl rfl (jk xW) ?_;refine gE (aa.aS rfl (gR ?_));refine ad ?_
   refine aa.v (ah.eR rfl rfl rfl rfl xE 1 rfl xu rfl) ?_
   iterate 2 refine ad ?_
   refine gM rfl rfl rfl rfl rfl call24 (fun w _ hS=>(by exact mJ bc 0 2 4 3 A c rs w ((hck.mono (fun z hz=>by simp [hz])).at hS (hA.a8 hS.ext)) hok)) ?_
   rintro v w1 w2 Y' hS he ⟨bo,B,rfl,hnew,hBl,hRL,hvv⟩
   refine ⟨_,hS.cY (pre:=[]) he hnew,?_⟩
   refine ai ?_;refine gE (gR ?_)
   iterate 2 refine ad ?_
   refine aa.fR (c:=[_]) rfl rfl rfl rfl xU sizeOf66 zeroValue66 rfl rfl (fun b88=>?_)
   refine aa.iv (kp rs.length) (news:=[bo]) (spn:=[]) (xs:=[]) (sp:=sp) (q:=q) rfl rfl rfl rfl rfl xU hi0 hz0 hsz0 rfl hq 3 rfl 0 rfl hcap rfl (by decide) (fun _=>rfl) (by unfold maxLen;simp) (by rw [hby0];simp) (fun b' sp' cap' hlen=>?_)
   refine ai ?_;refine gE (cu (gR ?_));refine aC rfl rfl rfl rfl (aK (by omega)) ?_;refine ad ?_;refine gE ?_
   exact IH (1,some b',cap',[]++[bo],sp',H++((some bo,ob (dN 3) 30 (cK B 0) [])::B.map (dB 4))) _ _ ⟨show 1≤2 by decide,rfl,(fun e=>by cases e),hlen,hck.mono (fun z hz=>List.mem_append_left _ hz),fun i hi=>(match i,hi with
   |0,_=>(dD.new hBl hRL hvv).mono (fun z hz=>List.mem_append_right _ hz))⟩ (show 2 - 1<2 - 0 by decide) ⟨rfl,rfl,rfl,rfl,rfl,trivial⟩ (.cons _ (.cons _ (.cons _ (List.Sublist.refl _))))
  obtain rfl:k=2:=by have h:=of_decide_eq_false hc;omega
  obtain ⟨v0,v1,rfl⟩:∃v0 v1,vs=[v0,v1]:=by
    match vs,hvl with
    |[v0,v1],_=>exact ⟨v0,v1,rfl⟩
  obtain ⟨bv,rfl⟩:∃b,q=some b:=by
    cases q with
    |none=>have:=(hq rfl).1;cases this
    |some b=>exact ⟨b,rfl⟩
  refine aa.exit rfl (gS (gR ?_))
  iterate 2 refine ad ?_
  refine cq xU ?_
  refine aC rfl rfl rfl rfl (lW (c:=((1:Nat):Int)) rfl (by decide)) ?_
  refine aa.v (ah.cD rfl rfl rfl rfl rfl xU sizeOf66 (1) ⟨rfl,(Nat.lt_succ_self 1)⟩) ?_
  refine aa.v (ah.nL (kp rs.length) 0 rfl rfl rfl rfl isAgg66 0 rfl (Nat.lt_succ_self 1)) ?_
  iterate 2 refine ai ?_
  refine gE ?_
  refine gT func9 fun w' hS=>?_
  exact ⟨hS.ext,v1,H,rfl,c3.of (hS.bR (List.sublist_append_right _ _)),htr 1 (Nat.lt_succ_self 1)⟩
end Go.Proofs.Ytkpknmgofmohbaa
namespace Go.Proofs.Ytkpknmgofmohbaa
open Go.RowKit Go.Proofs.Wit Try
theorem dq {xs:List Bool} {t:Nat} (h:t<xs.length):(xs.map Value.bool).getD t undef=.bool (xs.getD t false):=by simp [List.getD_eq_getElem?_getD,h]
def pB (ds:List RD) (m t:Nat):Bool:=(eG m 3).all (fun q=>!(eX (ds.getD q.1 ⟨[],[]⟩) q.2 1==eX (ds.getD 9 ⟨[],[]⟩) t 1)||((ds.getD q.1 ⟨[],[]⟩).lO.getD q.2 0#64).getLsbD 0)
def og:List RD:=[⟨[[2,4],[14,14],[23,23]],[12#64,12#64,12#64]⟩,⟨[[2,4],[11,0],[20,0]],[12#64,4#64,4#64]⟩,⟨[[2,4],[14,0],[23,0]],[12#64,4#64,4#64]⟩,⟨[[2,4],[14,14],[23,0]],[12#64,12#64,4#64]⟩,⟨[[2,4],[14,14],[23,0]],[12#64,12#64,4#64]⟩,⟨[[2,4],[0,13],[0,22]],[12#64,8#64,8#64]⟩,⟨[[2,4],[0,14],[0,23]],[12#64,8#64,8#64]⟩,⟨[[2,4],[14,14],[0,23]],[12#64,12#64,8#64]⟩,⟨[[2,4],[14,14],[0,23]],[12#64,12#64,8#64]⟩,⟨[[3,4],[15,15],[24,24]],[13#64,13#64,13#64]⟩,⟨[[3,4],[12,0],[21,0]],[13#64,5#64,5#64]⟩,⟨[[3,4],[15,0],[24,0]],[13#64,5#64,5#64]⟩,⟨[[3,4],[15,15],[24,0]],[13#64,13#64,5#64]⟩,⟨[[3,4],[15,15],[24,0]],[13#64,13#64,5#64]⟩,⟨[[3,4],[0,13],[0,22]],[13#64,9#64,9#64]⟩,⟨[[3,4],[0,15],[0,24]],[13#64,9#64,9#64]⟩,⟨[[3,4],[15,15],[0,24]],[13#64,13#64,9#64]⟩,⟨[[3,4],[15,15],[0,24]],[13#64,13#64,9#64]⟩]
theorem lR:eD 2 1 2 [0,1]=og:=by decide+kernel
theorem gV:pB og 18 0=false∧pB og 18 1=true∧pB og 18 2=true:=by decide+kernel
theorem gW:pB (eD 2 1 2 [0,1]) 18 0=false∧pB (eD 2 1 2 [0,1]) 18 1=true∧pB (eD 2 1 2 [0,1]) 18 2=true∧(eD 2 1 2 [0,1]).length=18:=by
 rw [lR];exact ⟨gV.1,gV.2.1,gV.2.2,rfl⟩
def sr (d:RD):Bool:=decide (d.loc.length=3) && (decide (d.lO.length=3) && ((d.loc.all fun x=>decide (x.length=2)) && d.lO.all fun x=>x>>>4==0#64))
theorem nj:og.all sr=true:=by decide+kernel
theorem mW:∀d∈eD 2 1 2 [0,1],d.loc.length=3∧d.lO.length=3∧(∀x∈d.loc,x.length=2)∧∀x∈d.lO,x>>>4=0#64:=by
 rw [lR]
 intro d hd
 have:=List.all_eq_true.1 nj d hd
 simp only [sr,Bool.and_eq_true,decide_eq_true_eq,List.all_eq_true,beq_iff_eq] at this
 exact ⟨this.1,this.2.1,this.2.2.1,this.2.2.2⟩
theorem iW:(aW 2 2 2 [] 1).length=9:=by decide+kernel
theorem l9 {rs:List RV} (h:rs.map RV.d=eD 2 1 2 [0,1]):dt 2 4 3 rs:=by
 have hl:rs.length=18:=by have:=congrArg List.length h;rw [List.length_map] at this;rw [this];exact gW.2.2.2
 refine ⟨by decide,by decide,by decide,by omega,fun r hr=>?_⟩
 have hm:r.d∈eD 2 1 2 [0,1]:=by rw [←h];exact List.mem_map_of_mem hr
 obtain ⟨h1,h2,h3,h4⟩:=mW _ hm
 refine ⟨by simpa [RV.d] using h1,h2,fun x hx=>?_,h4⟩
 have:=h3 x.xs (List.mem_map_of_mem hx)
 rw [this]
set_option maxRecDepth 8000 in
set_option maxHeartbeats 1000000 in
theorem mK (w:World):Cn Try.prog 4 [] w (fun v _=>v=.bool true):=by
  refine Cn.of func4 rfl rfl ?_
  refine gS (gR ?_);refine ai ?_;refine gE (gS (gR ?_))
  refine aa.fR (c:=[_,_]) rfl rfl rfl rfl xy xk zeroValue3 rfl rfl (fun b6=>?_)
  refine gM rfl rfl rfl rfl rfl call8 (fun w _ hS=>(by exact iM 2 1 2 (by decide) (by decide) (by decide) (some ⟨b6,0,none⟩) 2 [0,1] (by decide) w (Sl.c5 (xs:=[0,1].map NI) (sp:=[]) (hS.get (j:=0) rfl)) (by decide) (by rw [iW];decide) (by rw [iW];decide) (by rw [iW];decide))) ?_
  rintro v w1 w2 Y' hS he ⟨nn,ff,ll,B,rs,cr,H,e,rfl,hnew,hsy,hcase⟩
  obtain ⟨rfl,rfl,rfl,rfl,hds⟩:e=0∧nn=((2:Nat):Int)∧ff=((4:Nat):Int)∧ll=((3:Nat):Int)∧rs.map RV.d=eD 2 1 2 [0,1]:=by
    rcases hcase with h|h
    · exact absurd h.1 (by simp)
    exact ⟨h.2.1,h.2.2.1,h.2.2.2.1,h.2.2.2.2.1,h.2.2.2.2.2⟩
  have hrok:=l9 hds
  have hL:rs.length=18:=by have:=congrArg List.length hds;rw [List.length_map] at this;rw [this];exact gW.2.2.2
  have hv0:vK rs 1 (9,0)=false:=by
    show pB (rs.map RV.d) rs.length 0=false
    rw [hds,hL];exact gW.1
  have hv1:vK rs 1 (9,1)=true:=by
    show pB (rs.map RV.d) rs.length 1=true
    rw [hds,hL];exact gW.2.1
  have hv2:vK rs 1 (9,2)=true:=by
    show pB (rs.map RV.d) rs.length 2=true
    rw [hds,hL];exact gW.2.2.1
  refine ⟨_,hS.cY (pre:=[]) he hnew,?_⟩
  refine ad ?_
  iterate 2 refine gZ ?_
  refine aa.dc rfl rfl rfl (fun _=>zeroValue27 _) (fun b1=>?_)
  refine aa.bV rfl rfl rfl rfl xz 0 rfl rfl rfl rfl ?_
  refine ai ?_;refine gE (gS ?_)
  refine aa.lS 10 (([(some b1,.cells (bt (2:Nat) (4:Nat) (3:Nat) B rs.length cr) 27 (0,0))])) mixed ?_
  refine cV 0 (ah.eR rfl rfl rfl rfl xK 0 rfl xz rfl) ?_
  refine cE.call (i:=1) _ rfl rfl rfl rfl rfl rfl (fun _ _=>call11 _ _) (fun w _ hS=>(by exact rI 0 w)) ?_
  rintro v w1 w2 Y' hS he ho
  obtain ⟨qf,cf,spf,rfl,hqf,hcf,hS'⟩:=dS hS he ho
  refine ⟨_,hS',sL,?_⟩
  refine cE.call (i:=2) _ rfl rfl rfl rfl rfl rfl (fun _ _=>call10 _ _) (fun w _ hS=>(by exact rj 1 (qf.map (fun b=>⟨b,0,none⟩)) cf (gu ⟨3,0,0,0,0,0⟩ []) w (s8 hS 0 rfl (fun e=>(hqf e).1)) (by decide))) ?_
  rintro v w1 w2 Y' hS he ho
  rw [show gu ⟨9,1,0,0,0,0⟩ [gu ⟨3,0,0,0,0,0⟩ []]=fK by decide] at ho
  obtain ⟨qk,ck,spk,rfl,hqk,hck,hS'⟩:=dS hS he ho
  refine ⟨_,hS',sL,?_⟩
  refine cE.call (i:=3) _ rfl rfl rfl rfl rfl rfl (fun _ _=>call9 _ _) (fun w _ hS=>(by exact pE B cr rs (qk.map (fun b=>⟨b,0,none⟩)) ck w ((hsy.mono (fun z hz=>by simp [hz])).at hS) hrok (s8 hS 0 rfl (fun e=>(hqk e).1)))) ?_
  rintro v w1 w2 Y' hS he ⟨bx,H2,rfl,hnew2,B2,hB1,hB2,hB3,hB4,hB5⟩
  have hTA:∀{w0 w3:World} {S3:List Nat} {h3:Hl} {Y3:List (Nat×Obj)},St w0 S3 w3 h3 Y3→H2⊆h3→qC w3 (some ⟨bx,0,none⟩) rs.length 3 (cI 3 B2) (vK rs 1):=fun s hs=>si s (hs hB1) (fun e he=>hs (hB2 e he)) hB3 hB4 hB5
  have hS2:=hS.cY (pre:=[]) he hnew2
  have hTA0:=hTA hS2 (fun z hz=>by simp [hz])
  have h9:9<(cI 3 B2).length:=by rw [hTA0.len,hL];decide
  refine ⟨_,hS2,sL,?_⟩
  refine cV 4 (ah.mv rfl rfl rfl rfl) ?_
  refine cV 5 (ah.ext rfl rfl rfl rfl rfl) ?_
  refine cV 6 (ah.ext rfl rfl rfl rfl rfl) ?_
  refine cV 7 (ah.mR rfl rfl rfl rfl) ?_
  refine cV 8 (ah.mR rfl rfl rfl rfl) ?_
  refine cE.done rfl ?_
  refine gE (gS (gR ?_));refine ad ?_
  refine aC rfl rfl rfl rfl (iu (v:=true) rfl) ?_
  iterate 2 refine ad ?_
  refine aC rfl rfl rfl rfl (iu (v:=true) rfl) ?_
  refine aV ?_;refine ad ?_;refine ak xw xD 3 ?_;refine aj xF 2 ?_;refine cq xB ?_
  refine aC rfl rfl rfl rfl (iu (v:=true) (by rw [hL];rfl)) ?_
  refine aV ?_
  iterate 2 refine ad ?_
  refine cq underlying43 ?_
  refine aC rfl rfl rfl rfl (iu (v:=true) (by rw [hL];rfl)) ?_
  refine aV ?_
  iterate 2 refine ad ?_
  refine aa.v (ah.idx rfl rfl rfl rfl rfl underlying43 sizeOf30 ⟨_,hTA0.at_⟩ (by rw [List.length_map,hTA0.len]) 9 ⟨rfl,by rw [List.length_map];exact h9⟩) ?_
  refine aa.v (ah.ld rfl rfl rfl rfl isAgg30 (fun w _ hS=>(show w.cell? (dk (some ⟨bx,0,none⟩) 9)=some (BV.v ((cI 3 B2)[9]'h9)) by rw [(hTA hS (fun z hz=>by simp [hz])).at_.cell 9 (by rw [List.length_map];exact h9)];simp [List.getD_eq_getElem?_getD,h9]))) ?_
  refine cq xM ?_
  refine aC rfl rfl rfl rfl (iu (v:=true) (by rw [(hTA0.row 9 h9).2.1];rfl)) ?_
  refine aV ?_
  iterate 2 refine ad ?_
  refine aa.v (ah.idx rfl rfl rfl rfl rfl underlying43 sizeOf30 ⟨_,hTA0.at_⟩ (by rw [List.length_map,hTA0.len]) 9 ⟨rfl,by rw [List.length_map];exact h9⟩) ?_
  refine aa.v (ah.ld rfl rfl rfl rfl isAgg30 (fun w _ hS=>(show w.cell? (dk (some ⟨bx,0,none⟩) 9)=some (BV.v ((cI 3 B2)[9]'h9)) by rw [(hTA hS (fun z hz=>by simp [hz])).at_.cell 9 (by rw [List.length_map];exact h9)];simp [List.getD_eq_getElem?_getD,h9]))) ?_
  refine aa.v (ah.idx rfl rfl rfl rfl rfl xM xm ⟨_,(hTA0.row 9 h9).1⟩ (by simp) 0 ⟨rfl,by rw [List.length_map,(hTA0.row 9 h9).2.1];decide⟩) ?_
  refine aa.v (ah.ld rfl rfl rfl rfl xo (fun w _ hS=>(show w.cell? (dk ((cI 3 B2)[9]'h9).a 0)=some (.bool false) by rw [((hTA hS (fun z hz=>by simp [hz])).row 9 h9).1.cell 0 (by rw [List.length_map,(hTA0.row 9 h9).2.1];decide),dq (by rw [(hTA0.row 9 h9).2.1];decide),((hTA hS (fun z hz=>by simp [hz])).row 9 h9).2.2 0 (by decide),hv0]))) ?_
  refine bP aH ?_;refine aV ?_;refine ad ?_
  refine cM 49 (fun hc=>?_) fun hc=>?_
  ·
   refine ad ?_
   refine aa.v (ah.idx rfl rfl rfl rfl rfl underlying43 sizeOf30 ⟨_,hTA0.at_⟩ (by rw [List.length_map,hTA0.len]) 9 ⟨rfl,by rw [List.length_map];exact h9⟩) ?_
   refine aa.v (ah.ld rfl rfl rfl rfl isAgg30 (fun w _ hS=>(show w.cell? (dk (some ⟨bx,0,none⟩) 9)=some (BV.v ((cI 3 B2)[9]'h9)) by rw [(hTA hS (fun z hz=>by simp [hz])).at_.cell 9 (by rw [List.length_map];exact h9)];simp [List.getD_eq_getElem?_getD,h9]))) ?_
   refine aa.v (ah.idx rfl rfl rfl rfl rfl xM xm ⟨_,(hTA0.row 9 h9).1⟩ (by simp) 1 ⟨rfl,by rw [List.length_map,(hTA0.row 9 h9).2.1];decide⟩) ?_
   refine aa.v (ah.ld rfl rfl rfl rfl xo (fun w _ hS=>(show w.cell? (dk ((cI 3 B2)[9]'h9).a 1)=some (.bool true) by rw [((hTA hS (fun z hz=>by simp [hz])).row 9 h9).1.cell 1 (by rw [List.length_map,(hTA0.row 9 h9).2.1];decide),dq (by rw [(hTA0.row 9 h9).2.1];decide),((hTA hS (fun z hz=>by simp [hz])).row 9 h9).2.2 1 (by decide),hv1]))) ?_
   refine aV ?_;refine ad ?_
   refine cM 56 (fun hc=>?_) fun hc=>?_
   ·
    refine ad ?_
    refine aa.v (ah.idx rfl rfl rfl rfl rfl underlying43 sizeOf30 ⟨_,hTA0.at_⟩ (by rw [List.length_map,hTA0.len]) 9 ⟨rfl,by rw [List.length_map];exact h9⟩) ?_
    refine aa.v (ah.ld rfl rfl rfl rfl isAgg30 (fun w _ hS=>(show w.cell? (dk (some ⟨bx,0,none⟩) 9)=some (BV.v ((cI 3 B2)[9]'h9)) by rw [(hTA hS (fun z hz=>by simp [hz])).at_.cell 9 (by rw [List.length_map];exact h9)];simp [List.getD_eq_getElem?_getD,h9]))) ?_
    refine aa.v (ah.idx rfl rfl rfl rfl rfl xM xm ⟨_,(hTA0.row 9 h9).1⟩ (by simp) 2 ⟨rfl,by rw [List.length_map,(hTA0.row 9 h9).2.1];decide⟩) ?_
    refine aa.v (ah.ld rfl rfl rfl rfl xo (fun w _ hS=>(show w.cell? (dk ((cI 3 B2)[9]'h9).a 2)=some (.bool true) by rw [((hTA hS (fun z hz=>by simp [hz])).row 9 h9).1.cell 2 (by rw [List.length_map,(hTA0.row 9 h9).2.1];decide),dq (by rw [(hTA0.row 9 h9).2.1];decide),((hTA hS (fun z hz=>by simp [hz])).row 9 h9).2.2 2 (by decide),hv2]))) ?_
    refine aV ?_;refine ai ?_;refine gE ?_
    refine gT func4 fun w' hS=>?_
    exact ⟨hS.ext,rfl⟩
   cases hc
  cases hc
theorem ir (a b c:Nat) (ha:a<256) (hb:b<256) (hc8:c<256) (A:Option Addr) (cA:Nat) (bits:List Nat) (w:World) (hA:Sl w A (bits.map V8)) (hbi:∀x∈bits,x<256) (hl:bits.length≤maxLen):
  Cn Try.prog 3 [.int .u8 a,.agg #[.int .u8 b,.int .u8 c],.slice A bits.length cA] w (fun v _=>v=.bool true):=pQ mK a b c ha hb hc8 A cA bits w hA hbi hl
end Go.Proofs.Ytkpknmgofmohbaa
