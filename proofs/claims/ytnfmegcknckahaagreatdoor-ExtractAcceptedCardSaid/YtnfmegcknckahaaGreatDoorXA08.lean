/- What calls of the program return, under the conditions that each theorem states. -/
import Derived.Test.YtnfmegcknckahaaGreatDoorXA06
import Derived.Test.YtnfmegcknckahaaGreatDoorXA07
import Derived.Test.YtnfmegcknckahaaGreatDoorXA03
import Derived.Test.YtnfmegcknckahaaGreatDoorXA04
namespace Go.Proofs.YtnfmegcknckahaaGreatDoor
open Go.RowKit Go.Proofs.Wit Tryz
def pt (b:Nat):Value:=.pointer (some ⟨b,0,none⟩)
def eK (bD bf bF bN bO mD mN:Nat) (a:Option Addr) (ca n:Nat) (q:Option Nat) (cap:Nat) (ts:List Tr) (sp:List Value) (L:List (Int×Nat)):Hl:=
 [(some bD,.cells #[.map (some mD)] 158 (0,0)),(some bf,.cells #[.slice a n ca] 22 (0,0)),(some bF,.cells #[.func (.func 153) #[] #[pt bD,pt bf,pt bF,pt bN,pt bO]] 96 (0,0)),(some bN,.cells #[.map (some mN)] 157 (0,0)),(some bO,.cells #[cQ q (aQ ts).length cap] 22 (0,0)),(q,eW 66 (aQ ts) sp),(some mD,ly (Value.int .i64) EL L),(some mN,ly NV.v EL (aQ ts).zipIdx)]
def nG (f:List NV) (i bD bf bF bN bO mD mN:Nat) (a:Option Addr) (ca n:Nat) (ts:List Tr) (L:List (Int×Nat)) (v:Value) (h':Hl):Prop:=
 ∃q' cap' sp' L',h'=eK bD bf bF bN bO mD mN a ca n q' cap' (visit (aa f i) ts) sp' L'∧we q' cap' (visit (aa f i) ts) sp'∧kq f (visit (aa f i) ts) L'∧(∀j:Nat,i<j→cI (fun a b:Int=>a==b) L' (j:Int)=cI (fun a b:Int=>a==b) L (j:Int))∧v=.int .i64 ((visit (aa f i) ts).idxOf (aa f i):Int)
set_option maxRecDepth 8000 in
theorem BN (f:List NV) (a:Option Addr) (ca:Nat) (hf:aZ f) (hfl:f.length≤10000) (bD bf bF bN bO mD mN:Nat):∀(i:Nat),i<f.length→∀(w:World) (q:Option Nat) (cap:Nat) (ts:List Tr) (sp:List Value) (L:List (Int×Nat)),
    iE w (eK bD bf bF bN bO mD mN a ca f.length q cap ts sp L)→FA w a f→(∀b o,a=some ⟨b,o,none⟩→b∉cM (eK bD bf bF bN bO mD mN a ca f.length q cap ts sp L))→we q cap ts sp→ts⊆trees f→kq f ts L→
    qC Tryz.prog 153 [.int .i64 i,pt bD,pt bf,pt bF,pt bN,pt bO] w (eK bD bf bF bN bO mD mN a ca f.length q cap ts sp L) (nG f i bD bf bF bN bO mD mN a ca f.length ts L):=by
  obtain ⟨iN,hiN,hzN,hszN,hbyN⟩:=info_parts Cs
  have hKI:=jQ.int (P:=Tryz.prog) (kt:=3) (kd:=.i64) underlying3
  have hKN:jQ Tryz.prog 66 NV.v (fun a b=>a==b):=by
    obtain ⟨fs,hu,hfs⟩:=vE
    exact jQ.node hu hfs underlying3 Jj xR
  intro i
  induction i using Nat.strongRecOn with
  |_ i IHi=>
  intro hi w q cap ts sp L hh ha hsep ho hts hd
  have hok:=hf i hi
  have hclo:=hf.ord.oQ
  have hmem:=mf hi
  have has:CI (cM (eK bD bf bF bN bO mD mN a ca f.length q cap ts sp L)) w a f:=⟨ha.at_,hsep⟩
  refine qC.of hh func153 rfl rfl ?_
  unfold eK at has⊢
  refine gS (gR ?_);refine ai ?_;refine gE (gS (gS (gR ?_)));refine aq isAgg158 0 ?_;refine ah ?_
  refine ab.v (ae.Bk (ev:=EL) (a:=(i:Int)) (z:=.int .i64 0) (L:=L) hKI rfl rfl rfl rfl rfl underlying158 (fun _=>JE _) 6 rfl) ?_
  refine ah ?_
  iterate 2 refine fZ ?_
  iterate 2 refine ai ?_
  refine gE (gS (gR ?_));refine ah ?_;refine gE ?_
  refine gC (fun hc=>?_) fun hc=>?_
  ·
   obtain ⟨v,hv⟩:∃v,cI (fun a b:Int=>a==b) L (i:Int)=some v:=by
     cases h:cI (fun a b:Int=>a==b) L (i:Int) with
     |none=>rw [h] at hc;simp at hc
     |some v=>exact ⟨v,rfl⟩
   obtain ⟨hm,hix⟩:=hd.at_ i v hv
   refine gS (gR ?_);refine ah ?_;refine ai ?_;refine gE ?_
   refine gT func153 fun w' hS=>?_
   refine ⟨_,⟨q,cap,sp,L,?_,?_,?_,fun j _=>rfl,?_⟩,hS⟩
   · rw [gi hm];rfl
   · rw [gi hm];exact ho
   · rw [gi hm];exact hd
   rw [gi hm,←hix,hv];rfl
  have hno:cI (fun a b:Int=>a==b) L (i:Int)=none:=by
    cases h:cI (fun a b:Int=>a==b) L (i:Int) with
    |none=>rfl
    |some v=>rw [h] at hc;simp at hc
  refine gK (gS (gR ?_));refine aq Jx 1 ?_;refine ah ?_
  refine ab.v (ae.ed rfl rfl rfl rfl rfl Jr Jm ⟨_,(has).at_⟩ (ax (enc:=NV.cells) (sz:=6) (fun _=>rfl)) (by decide) (i) ⟨rfl,hi⟩) ?_
  refine ab.v (ae.nV (cs:=NV.cells f[i]) rfl rfl rfl rfl JD Jm (fun w _ hS=>Sl.many (enc:=NV.cells) (sz:=6) (has.ay hS.ext).at_ (fun _=>rfl) hi)) ?_
  refine ab.eO rfl rfl rfl (fun _=>JA _) (fun b10=>?_)
  refine ab.dF rfl rfl rfl rfl Jm 0 rfl rfl rfl rfl ?_
  refine gE (gS (gR ?_));refine al Jk Ji 0 ?_;refine aq Jj 0 ?_
  refine gP rfl rfl rfl rfl rfl call105 (fun w _ hS=>(by exact gV f[i].op w)) ?_
  refine ah ?_
  iterate 2 refine fZ ?_
  refine ab.eO rfl rfl rfl (fun _=>J8 _) (fun b11=>?_)
  refine ab.dF rfl rfl rfl rfl Ju 0 rfl rfl rfl rfl ?_
  refine ab.pick (pre:=[_,_,_,_,_,_,_,_,_,_]) (pre':=eK bD bf bF bN bO mD mN a ca f.length q cap ts sp L++[(some b11,.cells (qQ f[i].op).cells 122 (0,0)),(some b10,.cells (NV.cells f[i]).toArray 66 (0,0))]) [2,3,4,5,6,7,8,9,0,1] (by decide) rfl ?_
  unfold eK
  refine ai ?_;refine gE (gS ?_)
  refine ab.jS (α:={z:List Tr×NV×Option Nat×Nat×List Value×List (Int×Nat) // z.1=qB f f[i] ts∧z.2.1=Ab f f[i] ts∧we z.2.2.1 z.2.2.2.1 z.1 z.2.2.2.2.1∧kq f z.1 z.2.2.2.2.2∧∀j:Nat,i≤j→cI (fun a b:Int=>a==b) z.2.2.2.2.2 (j:Int)=cI (fun a b:Int=>a==b) L (j:Int)})
    (fun _=>[(0,.int .i64 i),(1,pt bD),(2,pt bf),(3,pt bF),(4,pt bN),(5,pt bO),(10,pt b10),(11,pt b11)]) (fun z=>eK bD bf bF bN bO mD mN a ca f.length z.1.2.2.1 z.1.2.2.2.1 z.1.1 z.1.2.2.2.2.1 z.1.2.2.2.2.2++[(some b11,.cells (qQ f[i].op).cells 122 (0,0)),(some b10,.cells (NV.cells z.1.2.1).toArray 66 (0,0))]) (fun z=>?_) (fun K=>?_)
  · -- what comes behind
   obtain ⟨⟨ts1,n1,q1,cap1,sp1,L1⟩,hts1,hn1,ho1,hd1,hkeep1⟩:=z
   dsimp only at hts1 hn1 ho1 hd1 hkeep1⊢
   obtain ⟨hc1,hnd1,hp1,hs1⟩:=CT hi hf ho.oQ ho.nd hts
   rw [←hts1] at hc1 hnd1 hp1 hs1
   unfold eK
   refine gS ?_
   refine ab.jS (α:={z:List Tr×NV×Option Nat×Nat×List Value×List (Int×Nat) // z.1=fP (aa f i) ts∧z.2.1=br (fP (aa f i) ts) (aa f i)∧we z.2.2.1 z.2.2.2.1 z.1 z.2.2.2.2.1∧kq f z.1 z.2.2.2.2.2∧∀j:Nat,i≤j→cI (fun a b:Int=>a==b) z.2.2.2.2.2 (j:Int)=cI (fun a b:Int=>a==b) L (j:Int)})
     (fun _=>[(0,.int .i64 i),(1,pt bD),(2,pt bf),(3,pt bF),(4,pt bN),(5,pt bO),(10,pt b10),(11,pt b11)]) (fun z=>eK bD bf bF bN bO mD mN a ca f.length z.1.2.2.1 z.1.2.2.2.1 z.1.1 z.1.2.2.2.2.1 z.1.2.2.2.2.2++[(some b11,.cells (qQ f[i].op).cells 122 (0,0)),(some b10,.cells (NV.cells z.1.2.1).toArray 66 (0,0))]) (fun z=>?_) (fun K=>?_)
   · -- what comes behind
    obtain ⟨⟨vs,m,q2,jV,oY,L2⟩,hvs,hm2,ho2,hd2,hkeep2⟩:=z
    dsimp only at hvs hm2 ho2 hd2 hkeep2⊢
    obtain ⟨hc2,hnd2,hp2,hs2,hk2⟩:=CS hi hf ho.oQ ho.nd hts
    have hput:=wm (t:=aa f i) ho.oQ ho.nd
    rw [←hvs] at hc2 hnd2 hp2 hs2 hk2 hput hm2
    have hno2:cI (fun a b:Int=>a==b) L2 (i:Int)=none:=by rw [hkeep2 i (Nat.le_refl _),hno]
    have hVis:=iv (aa f i) ho.oQ ho.nd
    have hlT:vs.length≤10000:=by have:=AE ho2.nd hs2;omega
    have hnl:(aQ vs).length=vs.length:=jJ
    unfold eK
    refine gS (gR ?_);refine aq isAgg157 3 ?_
    refine ab.v (ae.iA rfl rfl rfl rfl JD 9 rfl Jm rfl) ?_
    refine ab.v (ae.Bk (ev:=EL) (a:=m) (z:=.int .i64 0) (L:=(aQ vs).zipIdx) hKN rfl rfl rfl rfl rfl underlying157 (fun _=>JE _) 7 rfl) ?_
    refine ah ?_
    iterate 2 refine fZ ?_
    iterate 2 refine ai ?_
    refine gE (gS (gS (gR ?_)));refine ah ?_;refine eZ bG ?_;refine gE ?_
    refine gC (fun hc=>?_) fun hc=>?_
    ·
     have hnm:aa f i∉vs:=fun hm=>by
       rw [hm2,tu ho2.oQ ho2.nd ho2.wf hm] at hc;simp at hc
     have hv0:visit (aa f i) ts=vs++[aa f i]:=by rw [←hput];exact if_neg hnm
     have hzz:=xz hc2 hk2
     rw [←hm2] at hzz
     have hsn:=kD hc2 hk2
     rw [←hm2] at hsn
     have e1:(aQ vs).flatMap NV.cells++NV.cells m=(aQ (vs++[aa f i])).flatMap NV.cells:=by rw [hsn,List.flatMap_append];simp
     have e2:(aQ vs).length+1=(aQ (vs++[aa f i])).length:=by rw [hsn];simp
     have hnew:cI (fun a b:NV=>a==b) (aQ vs).zipIdx m=none:=by rw [hm2];exact tv hc2 ho2.wf (nL f i) hk2 hnm
     have hpre:vs<+:vs++[aa f i]:=List.prefix_append _ _
     have hix:(vs++[aa f i]).idxOf (aa f i)=vs.length:=wM hnm
     refine gS (gR ?_);refine aq Jx 4 ?_;refine dM Jr ?_;refine ai ?_;refine gE (gS (gR ?_));refine aq Jx 4 ?_
     refine ab.v (ae.iA rfl rfl rfl rfl JD 9 rfl Jm rfl) ?_
     refine ab.ew (c:=[_,_,_,_,_,_]) rfl rfl rfl rfl Jr Jm JA rfl rfl (fun b59=>?_)
     refine ab.app 6 (xs:=(aQ vs).flatMap NV.cells) (sp:=oY) (nx:=(aQ vs).length) (q:=q2) (news:=NV.cells m) (spn:=[]) rfl rfl rfl rfl rfl Jr hiN hzN hszN rfl ho2.nil 6 rfl 0 rfl oz ho2.cap rfl (by decide) (fun u hu=>by
       simp only [NV.cells,List.mem_cons,List.not_mem_nil,or_false] at hu
       rcases hu with rfl|rfl|rfl|rfl|rfl|rfl<;>rfl) (by unfold maxLen;omega) (by rw [hbyN];omega) (fun b' sp' cap' hlen=>?_)
     rw [e1] at hlen
     simp only [e1,e2]
     refine ab.st rfl rfl rfl rfl Js rfl 5 rfl rfl ?_
     refine gE (gR ?_);refine aq isAgg157 4 ?_
     refine ab.v (ae.iA rfl rfl rfl rfl JD 10 rfl Jm rfl) ?_
     refine ah ?_
     refine ab.pQ hKN rfl (.inl rfl) rfl rfl rfl (a:=m) (v:=(aQ vs).length) rfl rfl underlying157 8 rfl hnew ?_
     rw [←hzz]
     refine gE (gS (gR ?_));refine aq isAgg158 1 ?_
     iterate 2 refine ah ?_
     refine ab.pQ hKI rfl (.inl rfl) rfl rfl rfl (a:=(i:Int)) (v:=(aQ vs).length) rfl rfl underlying158 7 rfl hno2 ?_
     refine gE (gS (gR ?_));refine ah ?_;refine ai ?_;refine gE ?_
     refine gT func153 fun w' hS=>?_
     have hd3:=(hd2.mono hpre).ins (i:=i) (by rw [←hv0];exact hVis.mem)
     rw [hix,←hnl] at hd3
     refine ⟨_,⟨some b',cap',sp',L2++[((i:Int),(aQ vs).length)],rfl,?_,by rw [hv0];exact hd3,fun j hj=>by rw [ou (by omega)];exact hkeep2 j (by omega),?_⟩,?_⟩
     · rw [hv0]
       exact ⟨(fun e=>by cases e),hlen,hc2.snoc hk2,kC hnd2 hnm,fun u hu=>by
         rcases List.mem_append.1 hu with hu|hu
         · exact ho2.wf u hu
         rw [List.mem_singleton.1 hu];exact nL f i⟩
     · rw [hv0,hix,←hnl];rfl
     rw [hv0]
     exact hS.dN (.cons _ (List.sublist_append_left (eK bD bf bF bN bO mD mN a ca f.length (some b') cap' (vs++[aa f i]) sp' (L2++[((i:Int),(aQ vs).length)])) _))
    have hm:aa f i∈vs:=Classical.byContradiction (fun hnm=>by
      rw [hm2,tv hc2 ho2.wf (nL f i) hk2 hnm] at hc;simp at hc)
    have hv0:visit (aa f i) ts=vs:=by rw [←hput];exact if_pos hm
    have hget:cI (fun a b:NV=>a==b) (aQ vs).zipIdx m=some (vs.idxOf (aa f i)):=by rw [hm2];exact tu hc2 hnd2 ho2.wf hm
    refine gK (gS (gR ?_));refine aq isAgg158 0 ?_
    iterate 2 refine ah ?_
    refine ab.pQ hKI rfl (.inl rfl) rfl rfl rfl (a:=(i:Int)) (v:=vs.idxOf (aa f i)) rfl (by rw [hget];rfl) underlying158 6 rfl hno2 ?_
    refine gE (gS (gR ?_));refine ah ?_;refine ai ?_;refine gE ?_
    refine gT func153 fun w' hS=>?_
    refine ⟨_,⟨q2,jV,oY,L2++[((i:Int),vs.idxOf (aa f i))],rfl,by rw [hv0];exact ho2,by rw [hv0];exact hd2.ins hm,fun j hj=>by rw [ou (by omega)];exact hkeep2 j (by omega),?_⟩,?_⟩
    · rw [hv0,hget];rfl
    rw [hv0]
    exact hS.dN (List.sublist_append_left (eK bD bf bF bN bO mD mN a ca f.length q2 jV vs oY (L2++[((i:Int),vs.idxOf (aa f i))])) _)
   · -- the first part
    refine gS (gR ?_);refine al Jo Jl 1 ?_;refine aq Jn 8 ?_;refine gE ?_
    refine gC (fun hc=>?_) fun hc=>?_
    ·
     have hY:ct f[i].op=true:=hc
     have hyr:=hok.y hY
     obtain ⟨y,hy⟩:∃y:Nat,f[i].y=(y:Int):=⟨f[i].y.toNat,by omega⟩
     have hyi:y<i:=by omega
     have hn1y:n1.y=(y:Int):=by rw [hn1,←hy];rfl
     obtain ⟨e1,e2⟩:=ET hi hf ho.oQ ho.nd hY
     rw [←hts1,←hn1,hy,Int.toNat_natCast] at e2
     rw [←hts1,hy,Int.toNat_natCast] at e1
     rw [e1] at e2
     refine gR ?_;refine aq isAgg96 2 ?_;refine al Jk Ji 5 ?_;refine aq Jj 9 ?_
     refine ab.dN (h':=eK bD bf bF bN bO mD mN a ca f.length q1 cap1 ts1 sp1 L1++[(some b11,.cells (qQ f[i].op).cells 122 (0,0)),(some b10,.cells (NV.cells n1).toArray 66 (0,0))]) (List.Sublist.refl _) ?_
     refine ab.iP (h:=eK bD bf bF bN bO mD mN a ca f.length q1 cap1 ts1 sp1 L1) (hF:=[(some b11,.cells (qQ f[i].op).cells 122 (0,0)),(some b10,.cells (NV.cells n1).toArray 66 (0,0))]) (fs:=[]) (cs:=[pt bD,pt bf,pt bF,pt bN,pt bO]) (fun _ v h'=>nG f y bD bf bF bN bO mD mN a ca f.length ts1 L1 v h') rfl rfl rfl rfl rfl (fun _ _=>call153 _ _) (fun w1 Y' hS=>?_) (fun w1 v h1 hR=>?_)
     · have hS1:=hS.dN (List.sublist_append_left (eK bD bf bF bN bO mD mN a ca f.length q1 cap1 ts1 sp1 L1) _)
       have:=IHi y hyi (by omega) w1 q1 cap1 ts1 sp1 L1 hS1.has ⟨(has.ay hS.ext).at_⟩ (vy ha (by omega) hsep hS1) ho1 hs1 hd1
       rw [←hn1y] at this
       exact this
     obtain ⟨q3,cap3,sp3,L3,rfl,ho3,hd3,hkeep3,rfl⟩:=hR
     rw [e1] at ho3 hd3⊢
     unfold eK
     refine al Jk Ji 5 ?_
     refine ab.st rfl rfl rfl rfl Ji rfl 9 rfl rfl ?_
     refine gE ?_
     exact K ⟨(fP (aa f i) ts,{n1 with y:=((fP (aa f i) ts).idxOf (aa f y):Int)},q3,cap3,sp3,L3),rfl,e2,ho3,hd3,fun j hj=>by rw [←hkeep1 j hj];exact hkeep3 j (by omega)⟩ _ _ sF (fun _ _ hS=>hS)
    have hY:ct f[i].op=false:=hc
    obtain ⟨e1,e2⟩:=Ij hi hf (ts:=ts) hY
    rw [←hts1] at e1
    rw [←hn1] at e2
    refine gK ?_
    skip
    exact K ⟨(ts1,n1,q1,cap1,sp1,L1),e1,e2,ho1,hd1,hkeep1⟩ _ _ sF (fun _ _ hS=>hS)
  · -- the first part
   refine gS (gR ?_);refine al Jo Jl 0 ?_;refine aq Jn 8 ?_;refine gE ?_
   refine gC (fun hc=>?_) fun hc=>?_
   ·
    have hX:cG f[i].op=true:=hc
    have hxr:=hok.x hX
    obtain ⟨x,hx⟩:∃x:Nat,f[i].x=(x:Int):=⟨f[i].x.toNat,by omega⟩
    have hxi:x<i:=by omega
    have e1:visit (aa f x) ts=qB f f[i] ts:=by rw [qB,if_pos hX,hx];rfl
    have e2:Ab f f[i] ts={f[i] with x:=((qB f f[i] ts).idxOf (aa f x):Int)}:=by rw [Ab,if_pos hX,hx];rfl
    refine gR ?_;refine aq isAgg96 2 ?_;refine al Jk Ji 4 ?_;refine aq Jj 9 ?_
    refine ab.dN (h':=eK bD bf bF bN bO mD mN a ca f.length q cap ts sp L++[(some b11,.cells (qQ f[i].op).cells 122 (0,0)),(some b10,.cells (NV.cells f[i]).toArray 66 (0,0))]) (List.Sublist.refl _) ?_
    refine ab.iP (h:=eK bD bf bF bN bO mD mN a ca f.length q cap ts sp L) (hF:=[(some b11,.cells (qQ f[i].op).cells 122 (0,0)),(some b10,.cells (NV.cells f[i]).toArray 66 (0,0))]) (fs:=[]) (cs:=[pt bD,pt bf,pt bF,pt bN,pt bO]) (fun _ v h'=>nG f x bD bf bF bN bO mD mN a ca f.length ts L v h') rfl rfl rfl rfl rfl (fun _ _=>call153 _ _) (fun w1 Y' hS=>?_) (fun w1 v h1 hR=>?_)
    · have hS1:=hS.dN (List.sublist_append_left (eK bD bf bF bN bO mD mN a ca f.length q cap ts sp L) _)
      have:=IHi x hxi (by omega) w1 q cap ts sp L hS1.has ⟨(has.ay hS.ext).at_⟩ (has.ay hS.ext).sep ho hts hd
      rw [←hx] at this
      exact this
    obtain ⟨q3,cap3,sp3,L3,rfl,ho3,hd3,hkeep3,rfl⟩:=hR
    rw [e1] at ho3 hd3⊢
    unfold eK
    refine al Jk Ji 4 ?_
    refine ab.st rfl rfl rfl rfl Ji rfl 9 rfl rfl ?_
    refine gE ?_
    exact K ⟨(qB f f[i] ts,{f[i] with x:=((qB f f[i] ts).idxOf (aa f x):Int)},q3,cap3,sp3,L3),rfl,e2.symm,ho3,hd3,fun j hj=>hkeep3 j (by omega)⟩ _ _ sF (fun _ _ hS=>hS)
   have hX:cG f[i].op=false:=hc
   have e1:ts=qB f f[i] ts:=by rw [qB,if_neg (by rw [hX];simp)]
   have e2:f[i]=Ab f f[i] ts:=by rw [Ab,if_neg (by rw [hX];simp)]
   refine gK ?_
   skip
   exact K ⟨(ts,f[i],q,cap,sp,L),e1,e2,ho,hd,fun j hj=>rfl⟩ _ _ sF (fun _ _ hS=>hS)
end Go.Proofs.YtnfmegcknckahaaGreatDoor
namespace Go.Proofs.YtnfmegcknckahaaGreatDoor
open Go.RowKit Go.Proofs.Wit Tryz
set_option maxRecDepth 8000 in
theorem vR (a:Option Addr) (ca:Nat) (f:List NV) (i:Nat) (w:World) (ha:FA w a f) (hf:aZ f) (hfl:f.length≤10000) (hi:i<f.length):
  Cn Tryz.prog 106 [.slice a f.length ca,.int .i64 i] w (fun v w'=>aH 66 w w' v (bX (aa f i))):=by
 refine Cn.of func106 rfl rfl ?_
 refine gS (gR ?_)
 refine ab.bx rfl rfl rfl rfl (fun b2=>?_)
 refine ai ?_;refine gE (gS (gR ?_))
 refine ab.eO rfl rfl rfl (fun _=>JF _) (fun b5=>?_)
 refine gE (gS (gR ?_))
 refine ab.mkMap NV.v EL rfl rfl rfl (fun b9=>?_)
 refine ab.eO rfl rfl rfl (fun _=>zeroValue157 _) (fun b6=>?_)
 refine ab.st rfl rfl rfl rfl sizeOf157 rfl 0 rfl rfl ?_
 refine gE (gS (gR ?_))
 refine ab.mkMap (Value.int .i64) EL rfl rfl rfl (fun b10=>?_)
 refine ab.eO rfl rfl rfl (fun _=>zeroValue158 _) (fun b7=>?_)
 refine ab.st rfl rfl rfl rfl sizeOf158 rfl 0 rfl rfl ?_
 refine gE (gS (gR ?_))
 refine ab.eO rfl rfl rfl (fun _=>zeroValue96 _) (fun b8=>?_)
 refine gE (gS (gR ?_))
 refine ab.v (ae.uF rfl rfl rfl rfl rfl) ?_
 refine ab.st rfl rfl rfl rfl sizeOf96 rfl 0 rfl rfl ?_
 refine gE (gS (gR ?_));refine aq isAgg96 0 ?_;refine ah ?_
 refine ab.cJ (eW 66 (aQ []) []) ?_
 refine ab.pick (pre:=[_,_,_,_,_,_,_,_]) (pre':=eK b7 b2 b8 b6 b5 b10 b9 a ca f.length none 0 [] [] []++[]) [2,7,1,4,6,0,3,5] (by decide) rfl ?_
 refine ab.iP (h:=eK b7 b2 b8 b6 b5 b10 b9 a ca f.length none 0 [] [] []) (hF:=[]) (fs:=[]) (cs:=[pt b7,pt b2,pt b8,pt b6,pt b5]) (fun _ v h'=>nG f i b7 b2 b8 b6 b5 b10 b9 a ca f.length [] [] v h') rfl rfl rfl rfl rfl (fun _ _=>call153 _ _) (fun w1 Y' hS=>?_) (fun w1 v h1 hR=>?_)
 ·have hS1:=hS.dN (List.sublist_append_left (eK b7 b2 b8 b6 b5 b10 b9 a ca f.length none 0 [] [] []) _)
  exact BN f a ca hf hfl b7 b2 b8 b6 b5 b10 b9 i hi w1 none 0 [] [] [] hS1.has (ha.ay hS.ext) (vy (h:=[]) ha (by omega) (by simp [cM]) hS1) ⟨fun _=>⟨rfl,rfl⟩,rfl,l9.nil,List.nodup_nil,fun u hu=>by cases hu⟩ (List.nil_subset _) kq.nil
 obtain ⟨q1,cap1,sp1,L1,rfl,ho1,hd1,_,rfl⟩:=hR
 unfold eK
 refine gE (gS (gR ?_));refine aq Jx 4 ?_;refine ai ?_;refine gE ?_
 refine gT func106 fun w' hS=>?_
 exact ⟨hS.ext,aH.mk hS 5 rfl rfl ho1.nil ho1.cap⟩
set_option maxRecDepth 4000 in
theorem iK (a:Option Addr) (ca:Nat) (f:List NV) (i:Int) (w:World) (ha:FA w a f) (hl:f.length≤maxLen):Cn Tryz.prog 86 [.slice a f.length ca,.int .i64 i] w (fun v w'=>aH 66 w w' v (fz f i)):=by
  refine Cn.of func86 rfl rfl ?_
  refine gS (gR ?_);refine ai ?_;refine gE (gS (gS (gR ?_)));refine ah ?_
  refine gP rfl rfl rfl rfl rfl call54 (fun w _ hS=>(by exact fV a ca f w (ha.ay hS.ext) hl)) ?_
  refine aw gJ ?_;refine ah ?_
  refine eC 8 (fun hc=>?_) fun hc=>?_
  ·
   have h1:aW f≠0:=by simpa using hc
   iterate 2 refine cD ?_
   refine cF ?_;refine ah ?_
   iterate 4 refine cD ?_
   refine cF ?_;refine gE (ab.bV rfl (gS (gR ?_)));refine ai ?_;refine gE ?_
   refine gT func86 fun w' hS=>?_
   exact ⟨hS.ext,by rw [fz,if_pos (.inl h1)];exact aH.oN⟩
  have h1:aW f=0:=by simpa using hc
  refine ah ?_;refine aw iX ?_;refine bB ?_;refine ah ?_
  refine eC 12 (fun hc=>?_) fun hc=>?_
  ·
   have h2:i<0:=by simpa using hc
   iterate 4 refine cD ?_
   refine cF ?_;refine gE (ab.bV rfl (gS (gR ?_)));refine ai ?_;refine gE ?_
   refine gT func86 fun w' hS=>?_
   exact ⟨hS.ext,by rw [fz,if_pos (.inr (.inl h2))];exact aH.oN⟩
  have h2:¬i<0:=by simpa using hc
  iterate 2 refine ah ?_
  refine dM Jr ?_;refine aw oT ?_;refine bB ?_;refine gE ?_
  refine gC (fun hc=>?_) fun hc=>?_
  ·
   have h3:(f.length:Int)≤i:=by simpa using hc
   refine gS (gR ?_);refine ai ?_;refine gE ?_
   refine gT func86 fun w' hS=>?_
   exact ⟨hS.ext,by rw [fz,if_pos (.inr (.inr h3))];exact aH.oN⟩
  have h3:¬(f.length:Int)≤i:=by simpa using hc
  have hok:=aA.1 h1
  have hnl:=hok.len
  have hnp:=hok.pos
  obtain ⟨i,rfl⟩:∃I:Nat,i=I:=⟨i.toNat,by omega⟩
  have hi2:i<f.length:=by omega
  have he:fz f i=bX (aa f i):=by rw [fz,if_neg (by simp [h1];omega)];rfl
  refine gK (gS (gR ?_))
  iterate 2 refine ah ?_
  refine gM rfl rfl rfl rfl rfl call106 (fun w _ hS=>vR a ca f i w (ha.ay hS.ext) hok.nodes (by omega) hi2) ?_
  rintro v w1 w2 Y' hS he2 ho
  obtain ⟨q,cap,sp,rfl,hq,ao,hS'⟩:=ak hS he2 ho
  refine ⟨_,hS',?_⟩
  refine ai ?_;refine gE ?_
  refine gT func86 fun w' hS=>?_
  exact ⟨hS.ext,by rw [he];exact aH.mk hS 0 rfl rfl hq ao⟩
theorem eg (a:Option Addr) (ca:Nat) (f:List NV) (w:World) (ha:FA w a f) (hl:f.length≤maxLen):Cn Tryz.prog 55 [.slice a f.length ca] w (fun v w'=>aH 66 w w' v (fz f ((f.length:Int) - 1))):=by
 unfold maxLen at hl
 refine Cn.of func55 rfl rfl ?_
 refine gS (gR ?_);refine ai ?_;refine gE (gS (gR ?_))
 iterate 2 refine ah ?_
 refine dM Jr ?_;refine db rfl rfl rfl rfl (oo (by omega)) ?_
 refine gM rfl rfl rfl rfl rfl call86 (fun w _ hS=>iK a ca f ((f.length:Int) - 1) w (ha.ay hS.ext) hl) ?_
 rintro v w1 w2 Y' hS he ho
 obtain ⟨q,cap,sp,rfl,hq,ao,hS'⟩:=ak hS he ho
 refine ⟨_,hS',?_⟩
 refine ai ?_;refine gE ?_
 refine gT func55 fun w' hS=>?_
 exact ⟨hS.ext,aH.mk hS 0 rfl rfl hq ao⟩
end Go.Proofs.YtnfmegcknckahaaGreatDoor
