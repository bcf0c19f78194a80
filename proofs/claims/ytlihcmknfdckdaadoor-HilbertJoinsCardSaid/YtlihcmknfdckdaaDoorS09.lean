/- What calls of the program return, under the conditions that each theorem states. -/
import Derived.Test.YtlihcmknfdckdaaDoorS07
import Derived.Test.YtlihcmknfdckdaaDoorS08
import Derived.Test.YtlihcmknfdckdaaDoorS04
namespace Go.Proofs.YtlihcmknfdckdaaDoor
open Go.RowKit Go.Proofs.Wit Tryd
/-! the program's walk that makes a canonical list -/
def pt (b : Nat) : Value := .pointer (some ⟨b, 0, none⟩)
def compH (bD bf bF bN bO mD mN : Nat) (a : Option Addr) (ca n : Nat) (q : Option Nat) (cap : Nat) (ts : List Tr) (sp : List Value) (L : List (Int × Nat)) : Hl :=
 [(some bD, .cells #[.map (some mD)] 131 (0, 0)), (some bf, .cells #[.slice a n ca] 23 (0, 0)), (some bF, .cells #[.func (.func 131) #[] #[pt bD, pt bf, pt bF, pt bN, pt bO]] 65 (0, 0)), (some bN, .cells #[.map (some mN)] 130 (0, 0)), (some bO, .cells #[osv q (nodesOf ts).length cap] 23 (0, 0)), (q, obN 80 (nodesOf ts) sp), (some mD, mobj (Value.int .i64) evM L), (some mN, mobj NV.v evM (nodesOf ts).zipIdx)]
def CompPost (f : List NV) (i bD bf bF bN bO mD mN : Nat) (a : Option Addr) (ca n : Nat) (ts : List Tr) (L : List (Int × Nat)) (v : Value) (h' : Hl) : Prop :=
 ∃ q' cap' sp' L', h' = compH bD bf bF bN bO mD mN a ca n q' cap' (visit (treeAt f i) ts) sp' L' ∧ OutOk q' cap' (visit (treeAt f i) ts) sp' ∧ DoneM f (visit (treeAt f i) ts) L' ∧ (∀ j : Nat, i < j → mget (fun a b : Int => a == b) L' (j : Int) = mget (fun a b : Int => a == b) L (j : Int)) ∧ v = .int .i64 ((visit (treeAt f i) ts).idxOf (treeAt f i) : Int)
set_option maxRecDepth 8000 in
theorem comp1_c (f : List NV) (a : Option Addr) (ca : Nat) (hf : NodesOk f) (hfl : f.length ≤ 10000) (bD bf bF bN bO mD mN : Nat) : ∀ (i : Nat), i < f.length → ∀ (w : World) (q : Option Nat) (cap : Nat) (ts : List Tr) (sp : List Value) (L : List (Int × Nat)),
    HasH w (compH bD bf bF bN bO mD mN a ca f.length q cap ts sp L) → FA w a f → (∀ b o, a = some ⟨b, o, none⟩ → b ∉ blks (compH bD bf bF bN bO mD mN a ca f.length q cap ts sp L)) → OutOk q cap ts sp → ts ⊆ trees f → DoneM f ts L →
    CnS Tryd.prog 131 [.int .i64 i, pt bD, pt bf, pt bF, pt bN, pt bO] w (compH bD bf bF bN bO mD mN a ca f.length q cap ts sp L) (CompPost f i bD bf bF bN bO mD mN a ca f.length ts L) := by
  obtain ⟨iN, hiN, hzN, hszN, hbyN⟩ := info_parts infoN
  have hKI := KeyOk.int (P := Tryd.prog) (kt := 3) (kd := .i64) underlying3
  have hKN : KeyOk Tryd.prog 80 NV.v (fun a b => a == b) := by
    obtain ⟨fs, hu, hfs⟩ := nodeFsK
    exact KeyOk.node hu hfs underlying3 isAgg3 stoodK
  intro i
  induction i using Nat.strongRecOn with
  | _ i IHi =>
  intro hi w q cap ts sp L hh ha hsep ho hts hd
  have hok := hf i hi
  have hclo := hf.ord.clo
  have hmem := treeAt_mem hi
  have has : FAS (blks (compH bD bf bF bN bO mD mN a ca f.length q cap ts sp L)) w a f := ⟨ha.at_, hsep⟩
  refine CnS.of hh func131 rfl rfl ?_
  unfold compH at has ⊢
  refine gS (gR ?_); refine gAs ?_; refine gE (gS (gS (gR ?_))); refine gLo isAgg131 0 ?_; refine gMv ?_
  refine GoH.v (Vop.lkup (ev := evM) (a := (i : Int)) (z := .int .i64 0) (L := L) hKI rfl rfl rfl rfl rfl underlying131 (fun _ => zeroValue3 _) 6 rfl) ?_
  refine gMv ?_
  iterate 2 refine gEx ?_
  iterate 2 refine gAs ?_
  refine gE (gS (gR ?_)); refine gMv ?_; refine gE ?_
  refine gC (fun hc => ?_) fun hc => ?_
  ·
   obtain ⟨v, hv⟩ : ∃ v, mget (fun a b : Int => a == b) L (i : Int) = some v := by
     cases h : mget (fun a b : Int => a == b) L (i : Int) with
     | none => rw [h] at hc; simp at hc
     | some v => exact ⟨v, rfl⟩
   obtain ⟨hm, hix⟩ := hd.at_ i v hv
   refine gS (gR ?_); refine gMv ?_; refine gAs ?_; refine gE ?_
   refine gT func131 fun w' hS => ?_
   refine ⟨_, ⟨q, cap, sp, L, ?_, ?_, ?_, fun j _ => rfl, ?_⟩, hS⟩
   · rw [visit_mem hm]; rfl
   · rw [visit_mem hm]; exact ho
   · rw [visit_mem hm]; exact hd
   · rw [visit_mem hm, ← hix, hv]; rfl
  ·
   have hno : mget (fun a b : Int => a == b) L (i : Int) = none := by
     cases h : mget (fun a b : Int => a == b) L (i : Int) with
     | none => rfl
     | some v => rw [h] at hc; simp at hc
   refine gK (gS (gR ?_)); refine gLo isAgg23 1 ?_; refine gMv ?_
   refine GoH.v (Vop.idxN rfl rfl rfl rfl rfl underlying23 sizeOf80 ⟨_, (has).at_⟩ (flat_len (enc := NV.cells) (sz := 6) (fun _ => rfl)) (by decide) (i) ⟨rfl, hi⟩) ?_
   refine GoH.v (Vop.ldN (cs := NV.cells f[i]) rfl rfl rfl rfl isAgg80 sizeOf80 (fun w _ hS => Sl.many (enc := NV.cells) (sz := 6) (has.ex0 hS.ext).at_ (fun _ => rfl) hi)) ?_
   refine GoH.alc rfl rfl rfl (fun _ => zeroValue80 _) (fun b10 => ?_)
   refine GoH.stB rfl rfl rfl rfl sizeOf80 0 rfl rfl rfl rfl ?_
   refine gE (gS (gR ?_)); refine gFp underlying80 sizeOf3 0 ?_; refine gLo isAgg3 0 ?_
   refine gP rfl rfl rfl rfl rfl call126 (fun w _ hS => (by exact uses_c f[i].op w)) ?_
   refine gMv ?_
   iterate 2 refine gEx ?_
   refine GoH.alc rfl rfl rfl (fun _ => zeroValue109 _) (fun b11 => ?_)
   refine GoH.stB rfl rfl rfl rfl sizeOf109 0 rfl rfl rfl rfl ?_
   refine GoH.pick (pre := [_, _, _, _, _, _, _, _, _, _]) (pre' := compH bD bf bF bN bO mD mN a ca f.length q cap ts sp L ++ [(some b11, .cells (usV f[i].op).cells 109 (0, 0)), (some b10, .cells (NV.cells f[i]).toArray 80 (0, 0))]) [2, 3, 4, 5, 6, 7, 8, 9, 0, 1] (by decide) rfl ?_
   unfold compH
   refine gAs ?_; refine gE (gS ?_)
   refine GoH.seqJ (α := {z : List Tr × NV × Option Nat × Nat × List Value × List (Int × Nat) // z.1 = tsX f f[i] ts ∧ z.2.1 = nvX f f[i] ts ∧ OutOk z.2.2.1 z.2.2.2.1 z.1 z.2.2.2.2.1 ∧ DoneM f z.1 z.2.2.2.2.2 ∧ ∀ j : Nat, i ≤ j → mget (fun a b : Int => a == b) z.2.2.2.2.2 (j : Int) = mget (fun a b : Int => a == b) L (j : Int)})
     (fun _ => [(0, .int .i64 i), (1, pt bD), (2, pt bf), (3, pt bF), (4, pt bN), (5, pt bO), (10, pt b10), (11, pt b11)]) (fun z => compH bD bf bF bN bO mD mN a ca f.length z.1.2.2.1 z.1.2.2.2.1 z.1.1 z.1.2.2.2.2.1 z.1.2.2.2.2.2 ++ [(some b11, .cells (usV f[i].op).cells 109 (0, 0)), (some b10, .cells (NV.cells z.1.2.1).toArray 80 (0, 0))]) (fun z => ?_) (fun K => ?_)
   · -- what comes behind
    obtain ⟨⟨ts1, n1, q1, cap1, sp1, L1⟩, hts1, hn1, ho1, hd1, hkeep1⟩ := z
    dsimp only at hts1 hn1 ho1 hd1 hkeep1 ⊢
    obtain ⟨hc1, hnd1, hp1, hs1⟩ := tsX_ok hi hf ho.clo ho.nd hts
    rw [← hts1] at hc1 hnd1 hp1 hs1
    unfold compH
    refine gS ?_
    refine GoH.seqJ (α := {z : List Tr × NV × Option Nat × Nat × List Value × List (Int × Nat) // z.1 = vkids (treeAt f i) ts ∧ z.2.1 = nodeOf (vkids (treeAt f i) ts) (treeAt f i) ∧ OutOk z.2.2.1 z.2.2.2.1 z.1 z.2.2.2.2.1 ∧ DoneM f z.1 z.2.2.2.2.2 ∧ ∀ j : Nat, i ≤ j → mget (fun a b : Int => a == b) z.2.2.2.2.2 (j : Int) = mget (fun a b : Int => a == b) L (j : Int)})
      (fun _ => [(0, .int .i64 i), (1, pt bD), (2, pt bf), (3, pt bF), (4, pt bN), (5, pt bO), (10, pt b10), (11, pt b11)]) (fun z => compH bD bf bF bN bO mD mN a ca f.length z.1.2.2.1 z.1.2.2.2.1 z.1.1 z.1.2.2.2.2.1 z.1.2.2.2.2.2 ++ [(some b11, .cells (usV f[i].op).cells 109 (0, 0)), (some b10, .cells (NV.cells z.1.2.1).toArray 80 (0, 0))]) (fun z => ?_) (fun K => ?_)
    · -- what comes behind
     obtain ⟨⟨vs, m, q2, cap2, sp2, L2⟩, hvs, hm2, ho2, hd2, hkeep2⟩ := z
     dsimp only at hvs hm2 ho2 hd2 hkeep2 ⊢
     obtain ⟨hc2, hnd2, hp2, hs2, hk2⟩ := tsY_ok hi hf ho.clo ho.nd hts
     have hput := visit_put (t := treeAt f i) ho.clo ho.nd
     rw [← hvs] at hc2 hnd2 hp2 hs2 hk2 hput hm2
     have hno2 : mget (fun a b : Int => a == b) L2 (i : Int) = none := by rw [hkeep2 i (Nat.le_refl _), hno]
     have hVis := visit_ok (treeAt f i) ho.clo ho.nd
     have hlT : vs.length ≤ 10000 := by have := sub_len ho2.nd hs2; omega
     have hnl : (nodesOf vs).length = vs.length := nodesOf_len
     unfold compH
     refine gS (gR ?_); refine gLo isAgg130 3 ?_
     refine GoH.v (Vop.ldB rfl rfl rfl rfl isAgg80 9 rfl sizeOf80 rfl) ?_
     refine GoH.v (Vop.lkup (ev := evM) (a := m) (z := .int .i64 0) (L := (nodesOf vs).zipIdx) hKN rfl rfl rfl rfl rfl underlying130 (fun _ => zeroValue3 _) 7 rfl) ?_
     refine gMv ?_
     iterate 2 refine gEx ?_
     iterate 2 refine gAs ?_
     refine gE (gS (gS (gR ?_))); refine gMv ?_; refine gUn uNot ?_; refine gE ?_
     refine gC (fun hc => ?_) fun hc => ?_
     ·
      have hnm : treeAt f i ∉ vs := fun hm => by
        rw [hm2, mget_old ho2.clo ho2.nd ho2.wf hm] at hc; simp at hc
      have hv0 : visit (treeAt f i) ts = vs ++ [treeAt f i] := by rw [← hput]; exact if_neg hnm
      have hzz := zip_snoc hc2 hk2
      rw [← hm2] at hzz
      have hsn := nodesOf_snoc hc2 hk2
      rw [← hm2] at hsn
      have e1 : (nodesOf vs).flatMap NV.cells ++ NV.cells m = (nodesOf (vs ++ [treeAt f i])).flatMap NV.cells := by rw [hsn, List.flatMap_append]; simp
      have e2 : (nodesOf vs).length + 1 = (nodesOf (vs ++ [treeAt f i])).length := by rw [hsn]; simp
      have hnew : mget (fun a b : NV => a == b) (nodesOf vs).zipIdx m = none := by rw [hm2]; exact mget_new hc2 ho2.wf (treeAt_wf f i) hk2 hnm
      have hpre : vs <+: vs ++ [treeAt f i] := List.prefix_append _ _
      have hix : (vs ++ [treeAt f i]).idxOf (treeAt f i) = vs.length := nodup_idx hnm
      refine gS (gR ?_); refine gLo isAgg23 4 ?_; refine gBl underlying23 ?_; refine gAs ?_; refine gE (gS (gR ?_)); refine gLo isAgg23 4 ?_
      refine GoH.v (Vop.ldB rfl rfl rfl rfl isAgg80 9 rfl sizeOf80 rfl) ?_
      refine GoH.bsN (c := [_, _, _, _, _, _]) rfl rfl rfl rfl underlying23 sizeOf80 zeroValue80 rfl rfl (fun b59 => ?_)
      refine GoH.app 6 (xs := (nodesOf vs).flatMap NV.cells) (sp := sp2) (nx := (nodesOf vs).length) (q := q2) (news := NV.cells m) (spn := []) rfl rfl rfl rfl rfl underlying23 hiN hzN hszN rfl ho2.nil 6 rfl 0 rfl flatN ho2.cap rfl (by decide) (fun u hu => by
        simp only [NV.cells, List.mem_cons, List.not_mem_nil, or_false] at hu
        rcases hu with rfl | rfl | rfl | rfl | rfl | rfl <;> rfl) (by unfold maxLen; omega) (by rw [hbyN]; omega) (fun b' sp' cap' hlen => ?_)
      rw [e1] at hlen
      simp only [e1, e2]
      refine GoH.st rfl rfl rfl rfl sizeOf23 rfl 5 rfl rfl ?_
      refine gE (gR ?_); refine gLo isAgg130 4 ?_
      refine GoH.v (Vop.ldB rfl rfl rfl rfl isAgg80 10 rfl sizeOf80 rfl) ?_
      refine gMv ?_
      refine GoH.mapIns hKN rfl (.inl rfl) rfl rfl rfl (a := m) (v := (nodesOf vs).length) rfl rfl underlying130 8 rfl hnew ?_
      rw [← hzz]
      refine gE (gS (gR ?_)); refine gLo isAgg131 1 ?_
      iterate 2 refine gMv ?_
      refine GoH.mapIns hKI rfl (.inl rfl) rfl rfl rfl (a := (i : Int)) (v := (nodesOf vs).length) rfl rfl underlying131 7 rfl hno2 ?_
      refine gE (gS (gR ?_)); refine gMv ?_; refine gAs ?_; refine gE ?_
      refine gT func131 fun w' hS => ?_
      have hd3 := (hd2.mono hpre).ins (i := i) (by rw [← hv0]; exact hVis.mem)
      rw [hix, ← hnl] at hd3
      refine ⟨_, ⟨some b', cap', sp', L2 ++ [((i : Int), (nodesOf vs).length)], rfl, ?_, by rw [hv0]; exact hd3, fun j hj => by rw [mget_ins_ne (by omega)]; exact hkeep2 j (by omega), ?_⟩, ?_⟩
      · rw [hv0]
        exact ⟨(fun e => by cases e), hlen, hc2.snoc hk2, nodup_snoc hnd2 hnm, fun u hu => by
          rcases List.mem_append.1 hu with hu | hu
          · exact ho2.wf u hu
          · rw [List.mem_singleton.1 hu]; exact treeAt_wf f i⟩
      · rw [hv0, hix, ← hnl]; rfl
      · rw [hv0]
        exact hS.subH (.cons _ (List.sublist_append_left (compH bD bf bF bN bO mD mN a ca f.length (some b') cap' (vs ++ [treeAt f i]) sp' (L2 ++ [((i : Int), (nodesOf vs).length)])) _))
     ·
      have hm : treeAt f i ∈ vs := Classical.byContradiction (fun hnm => by
        rw [hm2, mget_new hc2 ho2.wf (treeAt_wf f i) hk2 hnm] at hc; simp at hc)
      have hv0 : visit (treeAt f i) ts = vs := by rw [← hput]; exact if_pos hm
      have hget : mget (fun a b : NV => a == b) (nodesOf vs).zipIdx m = some (vs.idxOf (treeAt f i)) := by rw [hm2]; exact mget_old hc2 hnd2 ho2.wf hm
      refine gK (gS (gR ?_)); refine gLo isAgg131 0 ?_
      iterate 2 refine gMv ?_
      refine GoH.mapIns hKI rfl (.inl rfl) rfl rfl rfl (a := (i : Int)) (v := vs.idxOf (treeAt f i)) rfl (by rw [hget]; rfl) underlying131 6 rfl hno2 ?_
      refine gE (gS (gR ?_)); refine gMv ?_; refine gAs ?_; refine gE ?_
      refine gT func131 fun w' hS => ?_
      refine ⟨_, ⟨q2, cap2, sp2, L2 ++ [((i : Int), vs.idxOf (treeAt f i))], rfl, by rw [hv0]; exact ho2, by rw [hv0]; exact hd2.ins hm, fun j hj => by rw [mget_ins_ne (by omega)]; exact hkeep2 j (by omega), ?_⟩, ?_⟩
      · rw [hv0, hget]; rfl
      · rw [hv0]
        exact hS.subH (List.sublist_append_left (compH bD bf bF bN bO mD mN a ca f.length q2 cap2 vs sp2 (L2 ++ [((i : Int), vs.idxOf (treeAt f i))])) _)
    · -- the first part
     refine gS (gR ?_); refine gFp underlying109 sizeOf4 1 ?_; refine gLo isAgg4 8 ?_; refine gE ?_
     refine gC (fun hc => ?_) fun hc => ?_
     ·
      have hY : usY f[i].op = true := hc
      have hyr := hok.y hY
      obtain ⟨y, hy⟩ : ∃ y : Nat, f[i].y = (y : Int) := ⟨f[i].y.toNat, by omega⟩
      have hyi : y < i := by omega
      have hn1y : n1.y = (y : Int) := by rw [hn1, ← hy]; rfl
      obtain ⟨e1, e2⟩ := withY hi hf ho.clo ho.nd hY
      rw [← hts1, ← hn1, hy, Int.toNat_natCast] at e2
      rw [← hts1, hy, Int.toNat_natCast] at e1
      rw [e1] at e2
      refine gR ?_; refine gLo isAgg65 2 ?_; refine gFp underlying80 sizeOf3 5 ?_; refine gLo isAgg3 9 ?_
      refine GoH.subH (h' := compH bD bf bF bN bO mD mN a ca f.length q1 cap1 ts1 sp1 L1 ++ [(some b11, .cells (usV f[i].op).cells 109 (0, 0)), (some b10, .cells (NV.cells n1).toArray 80 (0, 0))]) (List.Sublist.refl _) ?_
      refine GoH.callS (h := compH bD bf bF bN bO mD mN a ca f.length q1 cap1 ts1 sp1 L1) (hF := [(some b11, .cells (usV f[i].op).cells 109 (0, 0)), (some b10, .cells (NV.cells n1).toArray 80 (0, 0))]) (fs := []) (cs := [pt bD, pt bf, pt bF, pt bN, pt bO]) (fun _ v h' => CompPost f y bD bf bF bN bO mD mN a ca f.length ts1 L1 v h') rfl rfl rfl rfl rfl (fun _ _ => call131 _ _) (fun w1 Y' hS => ?_) (fun w1 v h1 hR => ?_)
      · have hS1 := hS.subH (List.sublist_append_left (compH bD bf bF bN bO mD mN a ca f.length q1 cap1 ts1 sp1 L1) _)
        have := IHi y hyi (by omega) w1 q1 cap1 ts1 sp1 L1 hS1.has ⟨(has.ex0 hS.ext).at_⟩ (sepOf ha (by omega) hsep hS1) ho1 hs1 hd1
        rw [← hn1y] at this
        exact this
      obtain ⟨q3, cap3, sp3, L3, rfl, ho3, hd3, hkeep3, rfl⟩ := hR
      rw [e1] at ho3 hd3 ⊢
      unfold compH
      refine gFp underlying80 sizeOf3 5 ?_
      refine GoH.st rfl rfl rfl rfl sizeOf3 rfl 9 rfl rfl ?_
      refine gE ?_
      exact K ⟨(vkids (treeAt f i) ts, { n1 with y := ((vkids (treeAt f i) ts).idxOf (treeAt f y) : Int) }, q3, cap3, sp3, L3), rfl, e2, ho3, hd3, fun j hj => by rw [← hkeep1 j hj]; exact hkeep3 j (by omega)⟩ _ _ (by repeat (first | exact SubF.nil | refine SubF.cons rfl ?_)) (fun _ _ hS => hS)
     ·
      have hY : usY f[i].op = false := hc
      obtain ⟨e1, e2⟩ := noY hi hf (ts := ts) hY
      rw [← hts1] at e1
      rw [← hn1] at e2
      refine gK ?_
      skip
      exact K ⟨(ts1, n1, q1, cap1, sp1, L1), e1, e2, ho1, hd1, hkeep1⟩ _ _ (by repeat (first | exact SubF.nil | refine SubF.cons rfl ?_)) (fun _ _ hS => hS)
   · -- the first part
    refine gS (gR ?_); refine gFp underlying109 sizeOf4 0 ?_; refine gLo isAgg4 8 ?_; refine gE ?_
    refine gC (fun hc => ?_) fun hc => ?_
    ·
     have hX : usX f[i].op = true := hc
     have hxr := hok.x hX
     obtain ⟨x, hx⟩ : ∃ x : Nat, f[i].x = (x : Int) := ⟨f[i].x.toNat, by omega⟩
     have hxi : x < i := by omega
     have e1 : visit (treeAt f x) ts = tsX f f[i] ts := by rw [tsX, if_pos hX, hx]; rfl
     have e2 : nvX f f[i] ts = { f[i] with x := ((tsX f f[i] ts).idxOf (treeAt f x) : Int) } := by rw [nvX, if_pos hX, hx]; rfl
     refine gR ?_; refine gLo isAgg65 2 ?_; refine gFp underlying80 sizeOf3 4 ?_; refine gLo isAgg3 9 ?_
     refine GoH.subH (h' := compH bD bf bF bN bO mD mN a ca f.length q cap ts sp L ++ [(some b11, .cells (usV f[i].op).cells 109 (0, 0)), (some b10, .cells (NV.cells f[i]).toArray 80 (0, 0))]) (List.Sublist.refl _) ?_
     refine GoH.callS (h := compH bD bf bF bN bO mD mN a ca f.length q cap ts sp L) (hF := [(some b11, .cells (usV f[i].op).cells 109 (0, 0)), (some b10, .cells (NV.cells f[i]).toArray 80 (0, 0))]) (fs := []) (cs := [pt bD, pt bf, pt bF, pt bN, pt bO]) (fun _ v h' => CompPost f x bD bf bF bN bO mD mN a ca f.length ts L v h') rfl rfl rfl rfl rfl (fun _ _ => call131 _ _) (fun w1 Y' hS => ?_) (fun w1 v h1 hR => ?_)
     · have hS1 := hS.subH (List.sublist_append_left (compH bD bf bF bN bO mD mN a ca f.length q cap ts sp L) _)
       have := IHi x hxi (by omega) w1 q cap ts sp L hS1.has ⟨(has.ex0 hS.ext).at_⟩ (has.ex0 hS.ext).sep ho hts hd
       rw [← hx] at this
       exact this
     obtain ⟨q3, cap3, sp3, L3, rfl, ho3, hd3, hkeep3, rfl⟩ := hR
     rw [e1] at ho3 hd3 ⊢
     unfold compH
     refine gFp underlying80 sizeOf3 4 ?_
     refine GoH.st rfl rfl rfl rfl sizeOf3 rfl 9 rfl rfl ?_
     refine gE ?_
     exact K ⟨(tsX f f[i] ts, { f[i] with x := ((tsX f f[i] ts).idxOf (treeAt f x) : Int) }, q3, cap3, sp3, L3), rfl, e2.symm, ho3, hd3, fun j hj => hkeep3 j (by omega)⟩ _ _ (by repeat (first | exact SubF.nil | refine SubF.cons rfl ?_)) (fun _ _ hS => hS)
    ·
     have hX : usX f[i].op = false := hc
     have e1 : ts = tsX f f[i] ts := by rw [tsX, if_neg (by rw [hX]; simp)]
     have e2 : f[i] = nvX f f[i] ts := by rw [nvX, if_neg (by rw [hX]; simp)]
     refine gK ?_
     skip
     exact K ⟨(ts, f[i], q, cap, sp, L), e1, e2, ho, hd, fun j hj => rfl⟩ _ _ (by repeat (first | exact SubF.nil | refine SubF.cons rfl ?_)) (fun _ _ hS => hS)
end Go.Proofs.YtlihcmknfdckdaaDoor
namespace Go.Proofs.YtlihcmknfdckdaaDoor
open Go.RowKit Go.Proofs.Wit Tryd
/-! the program's compact, Sub and Compact -/
set_option maxRecDepth 8000 in
theorem fcomp_c (a : Option Addr) (ca : Nat) (f : List NV) (i : Nat) (w : World) (ha : FA w a f) (hf : NodesOk f) (hfl : f.length ≤ 10000) (hi : i < f.length) :
  Cn Tryd.prog 108 [.slice a f.length ca, .int .i64 i] w (fun v w' => OwnN 80 w w' v (canT (treeAt f i))) := by
 refine Cn.of func108 rfl rfl ?_
 refine gS (gR ?_)
 refine GoH.bx rfl rfl rfl rfl (fun b2 => ?_)
 refine gAs ?_; refine gE (gS (gR ?_))
 refine GoH.alc rfl rfl rfl (fun _ => zeroValue23 _) (fun b5 => ?_)
 refine gE (gS (gR ?_))
 refine GoH.mkMap NV.v evM rfl rfl rfl (fun b9 => ?_)
 refine GoH.alc rfl rfl rfl (fun _ => zeroValue130 _) (fun b6 => ?_)
 refine GoH.st rfl rfl rfl rfl sizeOf130 rfl 0 rfl rfl ?_
 refine gE (gS (gR ?_))
 refine GoH.mkMap (Value.int .i64) evM rfl rfl rfl (fun b10 => ?_)
 refine GoH.alc rfl rfl rfl (fun _ => zeroValue131 _) (fun b7 => ?_)
 refine GoH.st rfl rfl rfl rfl sizeOf131 rfl 0 rfl rfl ?_
 refine gE (gS (gR ?_))
 refine GoH.alc rfl rfl rfl (fun _ => zeroValue65 _) (fun b8 => ?_)
 refine gE (gS (gR ?_))
 refine GoH.v (Vop.mkFunc rfl rfl rfl rfl rfl) ?_
 refine GoH.st rfl rfl rfl rfl sizeOf65 rfl 0 rfl rfl ?_
 refine gE (gS (gR ?_)); refine gLo isAgg65 0 ?_; refine gMv ?_
 refine GoH.addNone (obN 80 (nodesOf []) []) ?_
 refine GoH.pick (pre := [_, _, _, _, _, _, _, _]) (pre' := compH b7 b2 b8 b6 b5 b10 b9 a ca f.length none 0 [] [] [] ++ []) [2, 7, 1, 4, 6, 0, 3, 5] (by decide) rfl ?_
 refine GoH.callS (h := compH b7 b2 b8 b6 b5 b10 b9 a ca f.length none 0 [] [] []) (hF := []) (fs := []) (cs := [pt b7, pt b2, pt b8, pt b6, pt b5]) (fun _ v h' => CompPost f i b7 b2 b8 b6 b5 b10 b9 a ca f.length [] [] v h') rfl rfl rfl rfl rfl (fun _ _ => call131 _ _) (fun w1 Y' hS => ?_) (fun w1 v h1 hR => ?_)
 ·have hS1 := hS.subH (List.sublist_append_left (compH b7 b2 b8 b6 b5 b10 b9 a ca f.length none 0 [] [] []) _)
  exact comp1_c f a ca hf hfl b7 b2 b8 b6 b5 b10 b9 i hi w1 none 0 [] [] [] hS1.has (ha.ex0 hS.ext) (sepOf (h := []) ha (by omega) (by simp [blks]) hS1) ⟨fun _ => ⟨rfl, rfl⟩, rfl, Clo.nil, List.nodup_nil, fun u hu => by cases hu⟩ (List.nil_subset _) DoneM.nil
 obtain ⟨q1, cap1, sp1, L1, rfl, ho1, hd1, _, rfl⟩ := hR
 unfold compH
 refine gE (gS (gR ?_)); refine gLo isAgg23 4 ?_; refine gAs ?_; refine gE ?_
 refine gT func108 fun w' hS => ?_
 exact ⟨hS.ext, OwnN.mk hS 5 rfl rfl ho1.nil ho1.cap⟩
set_option maxRecDepth 4000 in
theorem fsub_c (a : Option Addr) (ca : Nat) (f : List NV) (i : Int) (w : World) (ha : FA w a f) (hl : f.length ≤ maxLen) : Cn Tryd.prog 78 [.slice a f.length ca, .int .i64 i] w (fun v w' => OwnN 80 w w' v (subF f i)) := by
  refine Cn.of func78 rfl rfl ?_
  refine gS (gR ?_); refine gAs ?_; refine gE (gS (gS (gR ?_))); refine gMv ?_
  refine gP rfl rfl rfl rfl rfl call75 (fun w _ hS => (by exact fcheck_c a ca f w (ha.ex0 hS.ext) hl)) ?_
  refine gBi bNe ?_; refine gMv ?_
  refine gCs 8 (fun hc => ?_) fun hc => ?_
  ·
   have h1 : chkF f ≠ 0 := by simpa using hc
   iterate 2 refine gNo ?_
   refine gPt ?_; refine gMv ?_
   iterate 4 refine gNo ?_
   refine gPt ?_; refine gE (GoH.condT rfl (gS (gR ?_))); refine gAs ?_; refine gE ?_
   refine gT func78 fun w' hS => ?_
   exact ⟨hS.ext, by rw [subF, if_pos (.inl h1)]; exact OwnN.nil0⟩
  ·
   have h1 : chkF f = 0 := by simpa using hc
   refine gMv ?_; refine gBi bLt ?_; refine gPf ?_; refine gMv ?_
   refine gCs 12 (fun hc => ?_) fun hc => ?_
   ·
    have h2 : i < 0 := by simpa using hc
    iterate 4 refine gNo ?_
    refine gPt ?_; refine gE (GoH.condT rfl (gS (gR ?_))); refine gAs ?_; refine gE ?_
    refine gT func78 fun w' hS => ?_
    exact ⟨hS.ext, by rw [subF, if_pos (.inr (.inl h2))]; exact OwnN.nil0⟩
   ·
    have h2 : ¬ i < 0 := by simpa using hc
    iterate 2 refine gMv ?_
    refine gBl underlying23 ?_; refine gBi bGe ?_; refine gPf ?_; refine gE ?_
    refine gC (fun hc => ?_) fun hc => ?_
    ·
     have h3 : (f.length : Int) ≤ i := by simpa using hc
     refine gS (gR ?_); refine gAs ?_; refine gE ?_
     refine gT func78 fun w' hS => ?_
     exact ⟨hS.ext, by rw [subF, if_pos (.inr (.inr h3))]; exact OwnN.nil0⟩
    ·
     have h3 : ¬ (f.length : Int) ≤ i := by simpa using hc
     have hok := chkF_zero.1 h1
     have hnl := hok.len
     have hnp := hok.pos
     obtain ⟨i, rfl⟩ : ∃ I : Nat, i = I := ⟨i.toNat, by omega⟩
     have hi2 : i < f.length := by omega
     have he : subF f i = canT (treeAt f i) := by rw [subF, if_neg (by simp [h1]; omega)]; rfl
     refine gK (gS (gR ?_))
     iterate 2 refine gMv ?_
     refine gM rfl rfl rfl rfl rfl call108 (fun w _ hS => fcomp_c a ca f i w (ha.ex0 hS.ext) hok.nodes (by omega) hi2) ?_
     rintro v w1 w2 Y' hS he2 ho
     obtain ⟨q, cap, sp, rfl, hq, hcap, hS'⟩ := gainN hS he2 ho
     refine ⟨_, hS', ?_⟩
     refine gAs ?_; refine gE ?_
     refine gT func78 fun w' hS => ?_
     exact ⟨hS.ext, by rw [he]; exact OwnN.mk hS 0 rfl rfl hq hcap⟩
theorem fcompact_c (a : Option Addr) (ca : Nat) (f : List NV) (w : World) (ha : FA w a f) (hl : f.length ≤ maxLen) : Cn Tryd.prog 44 [.slice a f.length ca] w (fun v w' => OwnN 80 w w' v (subF f ((f.length : Int) - 1))) := by
 unfold maxLen at hl
 refine Cn.of func44 rfl rfl ?_
 refine gS (gR ?_); refine gAs ?_; refine gE (gS (gR ?_))
 iterate 2 refine gMv ?_
 refine gBl underlying23 ?_; refine gBx rfl rfl rfl rfl (bSub (by omega)) ?_
 refine gM rfl rfl rfl rfl rfl call78 (fun w _ hS => fsub_c a ca f ((f.length : Int) - 1) w (ha.ex0 hS.ext) hl) ?_
 rintro v w1 w2 Y' hS he ho
 obtain ⟨q, cap, sp, rfl, hq, hcap, hS'⟩ := gainN hS he ho
 refine ⟨_, hS', ?_⟩
 refine gAs ?_; refine gE ?_
 refine gT func44 fun w' hS => ?_
 exact ⟨hS.ext, OwnN.mk hS 0 rfl rfl hq hcap⟩
end Go.Proofs.YtlihcmknfdckdaaDoor
