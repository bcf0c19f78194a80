/- Contracts of functions of the program: what each call returns and that nothing else of memory is turned, under the conditions that each theorem states. -/
import Derived.Test.YticlcpkcohdpfaaDoorF19
namespace Go.Proofs.YticlcpkcohdpfaaDoor
open Go.RowKit Go.Proofs.Wit
/-! the laws of chapter 15, 9 -/
theorem rClosureR_c (r : Row) (l : Int) (w : World) (ha : r.At w) (hv : Val r.xs) : Cn Tryd.prog 40 [r.v, .int .i64 l] w (fun v w' => ∃ c, Least (closP (propsL l)) r.xs c ∧ Own w w' v (serU (propsL l) c)) := rClosure_c r.a r.cap r.xs l w ha.at_ hv ha.cap
/-- a copy of a model, its lists known -/
def CopyIs (w w' : World) (v : Value) (m : MV) : Prop :=
  ∃ (qR : Option Nat) (capR : Nat) (rows : List Row) (spR : List Value) (qV : Option Nat) (capV : Nat) (spV : List Value) (HR : Hl), v = .agg #[.int .i64 m.n, osv qV m.val.length capV, osv qR rows.length capR] ∧
    NewH w w' ([(qR, ob Row.v 22 rows spR), (qV, ob U 41 m.val spV)] ++ HR) ∧ (qR = none → rows.length = 0 ∧ capR = 0) ∧ (rows.map Row.v ++ spR).length = capR ∧ (qV = none → m.val.length = 0 ∧ capV = 0) ∧ (m.val.map U ++ spV).length = capV ∧
    (∀ r ∈ rows, InS U HR r.a r.xs ∧ r.xs.length ≤ maxLen ∧ r.xs.length ≤ r.cap) ∧ rows.map Row.xs = m.rel
set_option maxRecDepth 8000 in
theorem copy_c (m : MV) (w : World) (hm : m.At w) (hV : ValM m.n m.val m.rel) : Cn Tryd.prog 39 [m.v] w (fun v w' => CopyIs w w' v m) := by
  obtain ⟨i0, hi, hz, hsz, hby⟩ := info_parts infoU
  obtain ⟨i1, hi1, hz1, hsz1, hby1⟩ := info_parts infoS
  have hfa := hV.facts
  have hag := hV.agents
  have hn64 := hV.n64
  have hagl : m.rel.length = m.rows.length := by simp [MV.rel]
  refine Cn.of Tryd.func39 rfl rfl ?_
  refine GoH.seq ?_
  refine GoH.region ?_
  refine GoH.bx rfl rfl rfl rfl (fun b1 => ?_)
  refine GoH.alc rfl rfl rfl (fun _ => Tryd.zeroValue25 _) (fun b2 => ?_)
  refine GoH.regionEnd ?_
  refine GoH.seq ?_
  refine GoH.region ?_
  refine GoH.v (Vop.fldP rfl rfl rfl rfl Tryd.underlying25 rfl Tryd.sizeOf3 0 rfl) ?_
  refine GoH.v (Vop.ldo (v := .int .i64 m.n) rfl rfl rfl rfl Tryd.isAgg3 1 rfl rfl) ?_
  refine GoH.v (Vop.bld rfl rfl rfl rfl (bld (c := [_, _, _]) Tryd.underlying25 (Szs.cons Tryd.sizeOf3 (Szs.cons Tryd.sizeOf22 (Szs.cons Tryd.sizeOf23 Szs.nil))) Tryd.zeroValue25 rfl)) ?_
  refine GoH.alc rfl rfl rfl (fun _ => Tryd.zeroValue25 _) (fun b3 => ?_)
  refine GoH.stB rfl rfl rfl rfl Tryd.sizeOf25 0 rfl rfl rfl rfl ?_
  refine GoH.regionEnd ?_
  refine GoH.seq ?_
  refine GoH.seq ?_
  refine GoH.region ?_
  refine GoH.v (Vop.asg rfl rfl rfl rfl) ?_
  refine GoH.regionEnd ?_
  refine GoH.block ?_
  refine GoH.addNone (ob U 41 [] []) ?_
  refine GoH.loop (σ := Nat × Option Nat × Nat × List Value) (fun z => [(1, .pointer (some ⟨b1, 0, none⟩)), (2, .pointer (some ⟨b2, 0, none⟩)), (3, .pointer (some ⟨b3, 0, none⟩)), (4, .int .i64 z.1)])
    (fun z => [(z.2.1, ob U 41 (m.val.take z.1) z.2.2.2), (some b3, .cells #[.int .i64 m.n, osv z.2.1 (m.val.take z.1).length z.2.2.1, .slice none 0 0] 25 (0, 0)), (some b2, .cells #[.int .i64 0, .slice none 0 0, .slice none 0 0] 25 (0, 0)), (some b1, .cells m.cs 25 (0, 0))])
    (fun z => z.1 ≤ m.val.length ∧ (z.2.1 = none → (m.val.take z.1).length = 0 ∧ z.2.2.1 = 0) ∧ ((m.val.take z.1).map U ++ z.2.2.2).length = z.2.2.1) (fun z => m.val.length - z.1) (0, none, 0, []) ⟨Nat.zero_le _, fun _ => ⟨rfl, rfl⟩, rfl⟩ ⟨rfl, rfl, rfl, rfl, trivial⟩ (List.Sublist.refl _) (fun z hI IH => ?_)
  obtain ⟨k, qV, capV, spV⟩ := z
  obtain ⟨hk, hqV, hcapV⟩ := hI
  dsimp only at hk hqV hcapV IH ⊢
  -- heap: qV b3 b2 b1
  -- ptr: 1=b1 2=b2 3=b3
  refine GoH.seq ?_
  refine GoH.seq ?_
  refine GoH.region ?_
  refine GoH.v (Vop.mv rfl rfl rfl rfl) ?_
  refine GoH.v (Vop.fldP rfl rfl rfl rfl Tryd.underlying25 rfl Tryd.sizeOf22 1 rfl) ?_
  refine GoH.v (Vop.ldo (v := .slice m.va m.val.length m.vc) rfl rfl rfl rfl Tryd.isAgg22 3 rfl rfl) ?_
  refine GoH.v (Vop.blt rfl rfl rfl (blt_len_slice Tryd.underlying22) rfl) ?_
  refine GoH.v (Vop.bin rfl rfl rfl rfl bLt rfl) ?_
  refine GoH.regionEnd ?_
  refine GoH.cond rfl (fun hc => ?_) (fun hc => ?_)
  · -- yes
    have hlt : k < m.val.length := by simpa using hc
    have htl : (m.val.take k).length = k := by simp; omega
    have htk : m.val.take k ++ [m.val.getD k 0#64] = m.val.take (k + 1) := by rw [List.take_succ_eq_append_getElem hlt]; simp [List.getD_eq_getElem?_getD, hlt]
    refine GoH.skip ?_
    refine GoH.seq ?_
    refine GoH.block ?_
    refine GoH.drawT 7 12 mixed rfl ?_
    refine RdT.v (Vop.fldP rfl rfl rfl rfl Tryd.underlying25 rfl Tryd.sizeOf22 1 rfl) ?_
    refine RdT.v (Vop.ldo rfl rfl rfl rfl Tryd.isAgg22 1 rfl rfl) ?_
    refine RdT.v (Vop.fldP rfl rfl rfl rfl Tryd.underlying25 rfl Tryd.sizeOf22 1 rfl) ?_
    refine RdT.v (Vop.ldo (v := .slice m.va m.val.length m.vc) rfl rfl rfl rfl Tryd.isAgg22 3 rfl rfl) ?_
    refine RdT.v (Vop.mv rfl rfl rfl rfl) ?_
    refine RdT.v (Vop.idx rfl rfl rfl rfl rfl Tryd.underlying22 Tryd.sizeOf41 ⟨_, hm.val⟩ (by simp) (k) ⟨rfl, by simpa using hlt⟩) ?_
    refine RdT.v (Vop.ld rfl rfl rfl rfl Tryd.isAgg41 (fun w _ hS => (SlU.ex0 hm.val hS.ext).at (k) hlt)) ?_
    refine RdT.nil ?_
    refine Tl.one (d := 25) rfl ?_
    refine Mop.bsN (c := [_]) rfl rfl rfl rfl Tryd.underlying22 Tryd.sizeOf41 Tryd.zeroValue41 rfl rfl (fun b25 => ⟨by repeat (first | exact List.Sublist.refl _ | refine List.Sublist.cons _ ?_), ?_⟩)
    refine Tl.sw [8, 9, 10] rfl rfl ?_
    refine GoH.appE U (news := [m.val.getD k 0#64]) (spn := []) (xs := m.val.take k) (sp := spV) (q := qV) rfl rfl rfl rfl rfl Tryd.underlying22 hi hz hsz rfl hqV 1 rfl 0 rfl hcapV rfl (by decide) (fun _ => rfl) (by simp [maxLen]; omega) (by simp [hby]; omega) (fun b' sp' cap' hlen => ?_)
    rw [htk] at hlen ⊢
    -- heap: b25 b' b3 b2 b1
    refine GoH.v (Vop.fldP rfl rfl rfl rfl Tryd.underlying25 rfl Tryd.sizeOf22 1 rfl) ?_
    refine GoH.st rfl rfl rfl rfl Tryd.sizeOf22 rfl 2 rfl rfl ?_
    refine GoH.regionEnd ?_
    refine GoH.inBlock ?_
    refine GoH.region ?_
    refine GoH.v (Vop.mv rfl rfl rfl rfl) ?_
    refine GoH.v (Vop.bin rfl rfl rfl rfl (bAdd (by omega)) rfl) ?_
    refine GoH.v (Vop.asg rfl rfl rfl rfl) ?_
    refine GoH.regionEnd ?_
    exact IH (k + 1, some b', cap', sp') _ _ ⟨hlt, (fun e => by cases e), hlen⟩ (by dsimp only; omega) ⟨rfl, rfl, rfl, rfl, trivial⟩ (.cons _ (List.Sublist.refl _))
  · -- no
    have hge : ¬ k < m.val.length := by simpa using hc
    obtain rfl : k = m.val.length := by omega
    rw [List.take_length] at hqV hcapV ⊢
    refine GoH.exit rfl ?_
    refine GoH.seq ?_
    refine GoH.seq ?_
    refine GoH.region ?_
    refine GoH.v (Vop.asg rfl rfl rfl rfl) ?_
    refine GoH.regionEnd ?_
    refine GoH.block ?_
    refine GoH.addNone (ob Row.v 22 [] []) ?_
    refine GoH.pick (pre' := [(none, ob Row.v 22 [] []), (some b3, .cells #[.int .i64 m.n, osv qV m.val.length capV, .slice none 0 0] 25 (0, 0)), (qV, ob U 41 m.val spV), (some b2, .cells #[.int .i64 0, .slice none 0 0, .slice none 0 0] 25 (0, 0)), (some b1, .cells m.cs 25 (0, 0))]) [0, 2, 1, 3, 4] (by decide) rfl ?_
    refine GoH.loop (σ := Nat × List Row × Option Nat × Nat × List Value × Hl) (fun z => [(1, .pointer (some ⟨b1, 0, none⟩)), (2, .pointer (some ⟨b2, 0, none⟩)), (3, .pointer (some ⟨b3, 0, none⟩)), (5, .int .i64 z.1)])
      (fun z => [(z.2.2.1, ob Row.v 22 z.2.1 z.2.2.2.2.1), (some b3, .cells #[.int .i64 m.n, osv qV m.val.length capV, osv z.2.2.1 z.2.1.length z.2.2.2.1] 25 (0, 0)), (qV, ob U 41 m.val spV), (some b2, .cells #[.int .i64 0, .slice none 0 0, .slice none 0 0] 25 (0, 0)), (some b1, .cells m.cs 25 (0, 0))] ++ z.2.2.2.2.2)
      (fun z => z.1 ≤ m.rows.length ∧ z.2.1.length = z.1 ∧ (z.2.2.1 = none → z.2.1.length = 0 ∧ z.2.2.2.1 = 0) ∧ (z.2.1.map Row.v ++ z.2.2.2.2.1).length = z.2.2.2.1 ∧ (∀ r ∈ z.2.1, InS U z.2.2.2.2.2 r.a r.xs ∧ r.xs.length ≤ maxLen ∧ r.xs.length ≤ r.cap) ∧ z.2.1.map Row.xs = (m.rows.take z.1).map Row.xs)
      (fun z => m.rows.length - z.1) (0, [], none, 0, [], []) ⟨Nat.zero_le _, rfl, fun _ => ⟨rfl, rfl⟩, rfl, by simp, rfl⟩ ⟨rfl, rfl, rfl, rfl, trivial⟩ (List.Sublist.refl _) (fun z hI IH => ?_)
    obtain ⟨k, rows, qR, capR, spR, HR⟩ := z
    obtain ⟨hk, hrl, hqR, hcapR, hrows, hxs⟩ := hI
    dsimp only at hk hrl hqR hcapR hrows hxs IH ⊢
    -- heap: qR b3 qV b2 b1
    -- ptr: 1=b1 2=b2 3=b3
    refine GoH.seq ?_
    refine GoH.seq ?_
    refine GoH.region ?_
    refine GoH.v (Vop.mv rfl rfl rfl rfl) ?_
    refine GoH.v (Vop.fldP rfl rfl rfl rfl Tryd.underlying25 rfl Tryd.sizeOf23 2 rfl) ?_
    refine GoH.v (Vop.ldo (v := .slice m.ra m.rows.length m.rc) rfl rfl rfl rfl Tryd.isAgg23 4 rfl rfl) ?_
    refine GoH.v (Vop.blt rfl rfl rfl (blt_len_slice Tryd.underlying23) rfl) ?_
    refine GoH.v (Vop.bin rfl rfl rfl rfl bLt rfl) ?_
    refine GoH.regionEnd ?_
    refine GoH.cond rfl (fun hc => ?_) (fun hc => ?_)
    · -- yes
      have hlt : k < m.rows.length := by simpa using hc
      have hrow := hm.row m.rows[k] (List.getElem_mem hlt)
      have hrlen : (m.rows[k].xs.length : Int) = m.n := hV.len _ (List.mem_map.2 ⟨_, List.getElem_mem hlt, rfl⟩)
      refine GoH.skip ?_
      refine GoH.seq ?_
      refine GoH.block ?_
      refine GoH.seq ?_
      refine GoH.region ?_
      refine GoH.v (Vop.asg rfl rfl rfl rfl) ?_
      refine GoH.regionEnd ?_
      refine GoH.seq ?_
      refine GoH.seq ?_
      refine GoH.region ?_
      refine GoH.v (Vop.asg rfl rfl rfl rfl) ?_
      refine GoH.regionEnd ?_
      refine GoH.block ?_
      refine GoH.addNone (ob U 41 [] []) ?_
      refine GoH.loop (σ := Nat × Option Nat × Nat × List Value) (fun z => [(1, .pointer (some ⟨b1, 0, none⟩)), (2, .pointer (some ⟨b2, 0, none⟩)), (3, .pointer (some ⟨b3, 0, none⟩)), (5, .int .i64 k), (6, osv z.2.1 (m.rows[k].xs.take z.1).length z.2.2.1), (7, .int .i64 z.1)])
        (fun z => [(z.2.1, ob U 41 (m.rows[k].xs.take z.1) z.2.2.2), (qR, ob Row.v 22 rows spR), (some b3, .cells #[.int .i64 m.n, osv qV m.val.length capV, osv qR rows.length capR] 25 (0, 0)), (qV, ob U 41 m.val spV), (some b2, .cells #[.int .i64 0, .slice none 0 0, .slice none 0 0] 25 (0, 0)), (some b1, .cells m.cs 25 (0, 0))] ++ HR)
        (fun z => z.1 ≤ m.rows[k].xs.length ∧ (z.2.1 = none → (m.rows[k].xs.take z.1).length = 0 ∧ z.2.2.1 = 0) ∧ ((m.rows[k].xs.take z.1).map U ++ z.2.2.2).length = z.2.2.1) (fun z => m.rows[k].xs.length - z.1) (0, none, 0, []) ⟨Nat.zero_le _, fun _ => ⟨rfl, rfl⟩, rfl⟩ ⟨rfl, rfl, rfl, rfl, rfl, rfl, trivial⟩ (List.Sublist.refl _) (fun z hI IH2 => ?_)
      obtain ⟨j, q6, cap6, sp6⟩ := z
      obtain ⟨hj, hq6, hcap6⟩ := hI
      dsimp only at hj hq6 hcap6 IH2 ⊢
      -- heap: q6 qR b3 qV b2 b1
      -- ptr: 1=b1 2=b2 3=b3
      refine GoH.seq ?_
      refine GoH.seq ?_
      refine GoH.region ?_
      refine GoH.v (Vop.mv rfl rfl rfl rfl) ?_
      refine GoH.v (Vop.fldP rfl rfl rfl rfl Tryd.underlying25 rfl Tryd.sizeOf23 2 rfl) ?_
      refine GoH.v (Vop.ldo (v := .slice m.ra m.rows.length m.rc) rfl rfl rfl rfl Tryd.isAgg23 5 rfl rfl) ?_
      refine GoH.v (Vop.mv rfl rfl rfl rfl) ?_
      refine GoH.v (Vop.idx rfl rfl rfl rfl rfl Tryd.underlying23 Tryd.sizeOf22 ⟨_, hm.rel⟩ (by simp) (k) ⟨rfl, by simpa using hlt⟩) ?_
      refine GoH.v (Vop.ld rfl rfl rfl rfl Tryd.isAgg22 (fun w _ hS => (SlR.ex0 hm.rel hS.ext).at (k) hlt)) ?_
      refine GoH.v (Vop.blt rfl rfl rfl (blt_len_slice Tryd.underlying22) rfl) ?_
      refine GoH.v (Vop.bin rfl rfl rfl rfl bLt rfl) ?_
      refine GoH.regionEnd ?_
      refine GoH.cond rfl (fun hc => ?_) (fun hc => ?_)
      · -- yes
        have hjl : j < m.rows[k].xs.length := by simpa using hc
        have htl : (m.rows[k].xs.take j).length = j := by simp; omega
        have htk : m.rows[k].xs.take j ++ [m.rows[k].xs.getD j 0#64] = m.rows[k].xs.take (j + 1) := by rw [List.take_succ_eq_append_getElem hjl]; simp [List.getD_eq_getElem?_getD, hjl]
        refine GoH.skip ?_
        refine GoH.seq ?_
        refine GoH.block ?_
        refine GoH.region ?_
        refine GoH.v (Vop.mv rfl rfl rfl rfl) ?_
        refine GoH.v (Vop.fldP rfl rfl rfl rfl Tryd.underlying25 rfl Tryd.sizeOf23 2 rfl) ?_
        refine GoH.v (Vop.ldo (v := .slice m.ra m.rows.length m.rc) rfl rfl rfl rfl Tryd.isAgg23 5 rfl rfl) ?_
        refine GoH.v (Vop.mv rfl rfl rfl rfl) ?_
        refine GoH.v (Vop.idx rfl rfl rfl rfl rfl Tryd.underlying23 Tryd.sizeOf22 ⟨_, hm.rel⟩ (by simp) (k) ⟨rfl, by simpa using hlt⟩) ?_
        refine GoH.v (Vop.ld rfl rfl rfl rfl Tryd.isAgg22 (fun w _ hS => (SlR.ex0 hm.rel hS.ext).at (k) hlt)) ?_
        refine GoH.v (Vop.mv rfl rfl rfl rfl) ?_
        refine GoH.v (Vop.idx rfl rfl rfl rfl rfl Tryd.underlying22 Tryd.sizeOf41 ⟨_, hrow.at_⟩ (by simp) (j) ⟨rfl, by simpa using hjl⟩) ?_
        refine GoH.v (Vop.ld rfl rfl rfl rfl Tryd.isAgg41 (fun w _ hS => (SlU.ex0 hrow.at_ hS.ext).at (j) hjl)) ?_
        refine GoH.bsN (c := [_]) rfl rfl rfl rfl Tryd.underlying22 Tryd.sizeOf41 Tryd.zeroValue41 rfl rfl (fun b54 => ?_)
        refine GoH.appE U (news := [m.rows[k].xs.getD j 0#64]) (spn := []) (xs := m.rows[k].xs.take j) (sp := sp6) (q := q6) rfl rfl rfl rfl rfl Tryd.underlying22 hi hz hsz rfl hq6 1 rfl 0 rfl hcap6 rfl (by decide) (fun _ => rfl) (by simp [maxLen]; omega) (by simp [hby]; omega) (fun b' sp' cap' hlen => ?_)
        rw [htk] at hlen ⊢
        -- heap: b54 b' qR b3 qV b2 b1
        refine GoH.v (Vop.asg rfl rfl rfl rfl) ?_
        refine GoH.regionEnd ?_
        refine GoH.inBlock ?_
        refine GoH.region ?_
        refine GoH.v (Vop.mv rfl rfl rfl rfl) ?_
        refine GoH.v (Vop.bin rfl rfl rfl rfl (bAdd (by omega)) rfl) ?_
        refine GoH.v (Vop.asg rfl rfl rfl rfl) ?_
        refine GoH.regionEnd ?_
        exact IH2 (j + 1, some b', cap', sp') _ _ ⟨hjl, (fun e => by cases e), hlen⟩ (by dsimp only; omega) ⟨rfl, rfl, rfl, rfl, rfl, rfl, trivial⟩ (.cons _ (List.Sublist.refl _))
      · -- no
        have hge : ¬ j < m.rows[k].xs.length := by simpa using hc
        obtain rfl : j = m.rows[k].xs.length := by omega
        rw [List.take_length] at hq6 hcap6 ⊢
        refine GoH.exit rfl ?_
        refine GoH.region ?_
        refine GoH.v (Vop.fldP rfl rfl rfl rfl Tryd.underlying25 rfl Tryd.sizeOf23 2 rfl) ?_
        refine GoH.v (Vop.ldo rfl rfl rfl rfl Tryd.isAgg23 2 rfl rfl) ?_
        refine GoH.v (Vop.mv rfl rfl rfl rfl) ?_
        refine GoH.bsN (c := [_]) rfl rfl rfl rfl Tryd.underlying23 Tryd.sizeOf22 Tryd.zeroValue22 rfl rfl (fun b59 => ?_)
        refine GoH.appE Row.v (news := [⟨q6.map (fun b => ⟨b, 0, none⟩), cap6, m.rows[k].xs⟩]) (spn := []) (xs := rows) (sp := spR) (q := qR) rfl rfl rfl rfl rfl Tryd.underlying23 hi1 hz1 hsz1 rfl hqR 2 rfl 0 rfl hcapR rfl (by decide) (fun _ => rfl) (by simp [maxLen]; omega) (by simp [hby1]; omega) (fun b' sp' cap' hlen => ?_)
        -- heap: b59 q6 b' b3 qV b2 b1
        refine GoH.v (Vop.fldP rfl rfl rfl rfl Tryd.underlying25 rfl Tryd.sizeOf23 2 rfl) ?_
        refine GoH.st rfl rfl rfl rfl Tryd.sizeOf23 rfl 3 rfl rfl ?_
        refine GoH.regionEnd ?_
        refine GoH.inBlock ?_
        refine GoH.region ?_
        refine GoH.v (Vop.mv rfl rfl rfl rfl) ?_
        refine GoH.v (Vop.bin rfl rfl rfl rfl (bAdd (by omega)) rfl) ?_
        refine GoH.v (Vop.asg rfl rfl rfl rfl) ?_
        refine GoH.regionEnd ?_
        refine GoH.pickT (pre := [_, _, _, _, _, _, _]) (pre' := [_, _, _, _, _, _]) HR [2, 3, 4, 5, 6, 1] (by decide) rfl ?_
        exact IH (k + 1, rows ++ [⟨q6.map (fun b => ⟨b, 0, none⟩), cap6, m.rows[k].xs⟩], some b', cap', sp', (q6, ob U 41 m.rows[k].xs sp6) :: HR) _ _ ⟨hlt, by simp [hrl], (fun e => by cases e), hlen, fun r hr => by
          rcases List.mem_append.1 hr with hr | hr
          · obtain ⟨a1, a2⟩ := hrows r hr
            exact ⟨a1.mono (List.subset_cons_self _ _), a2⟩
          · obtain rfl := List.mem_singleton.1 hr
            exact ⟨InS.at (fun e => (hq6 e).1) (List.mem_cons_self ..), hrow.len, by rw [← hcap6]; simp⟩, by rw [List.map_append, hxs, List.take_succ_eq_append_getElem hlt, List.map_append]; rfl⟩ (by dsimp only; omega) ⟨rfl, rfl, rfl, rfl, trivial⟩ (List.Sublist.refl _)
    · -- no
      have hge : ¬ k < m.rows.length := by simpa using hc
      obtain rfl : k = m.rows.length := by omega
      rw [List.take_length] at hxs
      refine GoH.exit rfl ?_
      refine GoH.seq ?_
      refine GoH.region ?_
      refine GoH.v (Vop.ldB rfl rfl rfl rfl Tryd.isAgg25 1 rfl Tryd.sizeOf25 rfl) ?_
      refine GoH.stB rfl rfl rfl rfl Tryd.sizeOf25 3 rfl rfl rfl rfl ?_
      refine GoH.regionEnd ?_
      refine GoH.retH Tryd.f39 Tryd.func39 _ (resH.cell rfl Tryd.isAgg25 Tryd.sizeOf25 (j := 3) rfl rfl resH.nil) (fun w' hS => ?_)
      refine ⟨hS.ext, qR, capR, rows, spR, qV, capV, spV, HR, rfl, (NewH.of hS).sub ?_, hqR, hcapR, hqV, hcapV, hrows, hxs⟩
      exact .cons_cons _ (.cons _ (.cons_cons _ (.cons _ (.cons _ (List.Sublist.refl _)))))
set_option maxRecDepth 8000 in
theorem rClose_c (m : MV) (l : Int) (w : World) (hm : m.At w) : Cn Tryd.prog 13 [m.v, .int .i64 l] w (fun v w' => ClosedIs w w' v m l) := by
  refine Cn.of Tryd.func13 rfl rfl ?_
  refine GoH.seq ?_
  refine GoH.region ?_
  refine GoH.bx rfl rfl rfl rfl (fun b2 => ?_)
  refine GoH.alc rfl rfl rfl (fun _ => Tryd.zeroValue25 _) (fun b4 => ?_)
  refine GoH.v (Vop.asg rfl rfl rfl rfl) ?_
  refine GoH.regionEnd ?_
  refine GoH.seq ?_
  refine GoH.seq ?_
  refine GoH.region ?_
  refine GoH.v (Vop.ldB rfl rfl rfl rfl Tryd.isAgg25 1 rfl Tryd.sizeOf25 rfl) ?_
  refine GoH.v (Vop.mv rfl rfl rfl rfl) ?_
  refine GoH.callP rfl rfl rfl rfl rfl (fun _ _ => Tryd.call38 _ _) (fun w _ hS => (by exact request_c m l w (hm.ex0 hS.ext))) ?_
  refine GoH.v (Vop.asg rfl rfl rfl rfl) ?_
  refine GoH.regionEnd ?_
  refine GoH.seq ?_
  refine GoH.region ?_
  refine GoH.v (Vop.mv rfl rfl rfl rfl) ?_
  refine GoH.v (Vop.bin rfl rfl rfl rfl bNe rfl) ?_
  refine GoH.regionEnd ?_
  refine GoH.cond rfl (fun hc => ?_) (fun hc => ?_)
  · -- yes
    have h1 : errE m.n m.val m.rel l ≠ 0 := by simpa using hc
    refine GoH.seq ?_
    refine GoH.region ?_
    refine GoH.v (Vop.bld rfl rfl rfl rfl (bld (c := [_, _, _]) Tryd.underlying25 (Szs.cons Tryd.sizeOf3 (Szs.cons Tryd.sizeOf22 (Szs.cons Tryd.sizeOf23 Szs.nil))) Tryd.zeroValue25 rfl)) ?_
    refine GoH.v (Vop.mv rfl rfl rfl rfl) ?_
    refine GoH.stB rfl rfl rfl rfl Tryd.sizeOf25 0 rfl rfl rfl rfl ?_
    refine GoH.v (Vop.asg rfl rfl rfl rfl) ?_
    refine GoH.regionEnd ?_
    refine GoH.retH Tryd.f13 Tryd.func13 _ (resH.cell rfl Tryd.isAgg25 Tryd.sizeOf25 (j := 0) rfl rfl (resH.tmp rfl resH.nil)) (fun w' hS => ?_)
    exact ⟨hS.ext, mdl0, [], rfl, ⟨by simp, .nil⟩, mdl0_in _, by rw [ClosedM, if_pos h1]; exact ⟨rfl, rfl, rfl⟩⟩
  · -- no
    have h1 : errE m.n m.val m.rel l = 0 := by simpa using hc
    obtain ⟨hV, hE, _⟩ := errE_zero h1
    have hag := hV.agents
    have hn64 := hV.n64
    have hagl : m.rel.length = m.rows.length := by simp [MV.rel]
    refine GoH.skip ?_
    refine GoH.seq ?_
    refine GoH.region ?_
    refine GoH.v (Vop.ldB rfl rfl rfl rfl Tryd.isAgg25 1 rfl Tryd.sizeOf25 rfl) ?_
    refine GoH.callM _ rfl rfl rfl rfl rfl (fun _ _ => Tryd.call39 _ _) (fun w _ hS => (by exact copy_c m w (hm.ex0 hS.ext) hV)) ?_
    rintro v w1 w2 Y' hS he ⟨qR, capR, rows0, spR, qV, capV, spV, HR0, rfl, hN, hqR, hcapR, hqV, hcapV, hrows0, hxs0⟩
    have hr0 : rows0.length = m.rows.length := by have := congrArg List.length hxs0; simpa [MV.rel] using this
    refine ⟨_, hS.gainM he hN, ?_⟩
    -- heap: qR qV b4 b2
    refine GoH.alc rfl rfl rfl (fun _ => Tryd.zeroValue25 _) (fun b7 => ?_)
    refine GoH.stB rfl rfl rfl rfl Tryd.sizeOf25 0 rfl rfl rfl rfl ?_
    refine GoH.regionEnd ?_
    refine GoH.seq ?_
    refine GoH.seq ?_
    refine GoH.region ?_
    refine GoH.v (Vop.asg rfl rfl rfl rfl) ?_
    refine GoH.regionEnd ?_
    refine GoH.block ?_
    refine GoH.pickT (pre := [_, _, _, _, _]) (pre' := [(qR, ob Row.v 22 rows0 spR), (some b7, .cells #[.int .i64 m.n, osv qV m.val.length capV, osv qR rows0.length capR] 25 (0, 0)), (qV, ob U 41 m.val spV), (some b4, .cells #[.int .i64 0, .slice none 0 0, .slice none 0 0] 25 (0, 0)), (some b2, .cells m.cs 25 (0, 0))]) HR0 [1, 0, 2, 3, 4] (by decide) rfl ?_
    refine GoH.loop (σ := Nat × List Row × Hl) (fun z => [(1, .int .i64 l), (2, .pointer (some ⟨b2, 0, none⟩)), (4, .pointer (some ⟨b4, 0, none⟩)), (7, .pointer (some ⟨b7, 0, none⟩)), (8, .int .i64 z.1)])
      (fun z => [(qR, ob Row.v 22 z.2.1 spR), (some b7, .cells #[.int .i64 m.n, osv qV m.val.length capV, osv qR m.rows.length capR] 25 (0, 0)), (qV, ob U 41 m.val spV), (some b4, .cells #[.int .i64 0, .slice none 0 0, .slice none 0 0] 25 (0, 0)), (some b2, .cells m.cs 25 (0, 0))] ++ z.2.2)
      (fun z => z.1 ≤ m.rows.length ∧ z.2.1.length = m.rows.length ∧ (∀ r ∈ z.2.1, InS U z.2.2 r.a r.xs ∧ r.xs.length ≤ maxLen ∧ r.xs.length ≤ r.cap) ∧ ∀ (i : Nat) (r : Row), i < z.1 → m.rows[i]? = some r → ∃ c, Least (closP (propsL l)) r.xs c ∧ (z.2.1.map Row.xs)[i]? = some (serU (propsL l) c))
      (fun z => m.rows.length - z.1) (0, rows0, HR0) ⟨Nat.zero_le _, hr0, hrows0, fun i r hi => by omega⟩ ⟨rfl, rfl, rfl, rfl, rfl, trivial⟩ (by rw [hr0]; exact List.Sublist.refl _) (fun z hI IH => ?_)
    obtain ⟨k, rows, HR⟩ := z
    obtain ⟨hk, hrl, hrows, hcl⟩ := hI
    dsimp only at hk hrl hrows hcl IH ⊢
    -- heap: qR b7 qV b4 b2
    -- ptr: 2=b2 4=b4 7=b7
    refine GoH.seq ?_
    refine GoH.seq ?_
    refine GoH.region ?_
    refine GoH.v (Vop.mv rfl rfl rfl rfl) ?_
    refine GoH.v (Vop.fldP rfl rfl rfl rfl Tryd.underlying25 rfl Tryd.sizeOf23 2 rfl) ?_
    refine GoH.v (Vop.ldo (v := .slice m.ra m.rows.length m.rc) rfl rfl rfl rfl Tryd.isAgg23 4 rfl rfl) ?_
    refine GoH.v (Vop.blt rfl rfl rfl (blt_len_slice Tryd.underlying23) rfl) ?_
    refine GoH.v (Vop.bin rfl rfl rfl rfl bLt rfl) ?_
    refine GoH.regionEnd ?_
    refine GoH.cond rfl (fun hc => ?_) (fun hc => ?_)
    · -- yes
      have hlt : k < m.rows.length := by simpa using hc
      have hkr : k < rows.length := by omega
      have hrow := hm.row m.rows[k] (List.getElem_mem hlt)
      have hrv := hV.rels m.rows[k].xs (List.mem_map.2 ⟨_, List.getElem_mem hlt, rfl⟩)
      obtain ⟨bR, rfl⟩ : ∃ bR, qR = some bR := by
        cases qR with
        | none => have := (hqR rfl).1; omega
        | some bR => exact ⟨bR, rfl⟩
      have fin : ∀ (c : List W64) (q34 : Option Nat) (cap34 : Nat) (sp34 : List Value), Least (closP (propsL l)) m.rows[k].xs c → (q34 = none → (serU (propsL l) c).length = 0 ∧ cap34 = 0) → ((serU (propsL l) c).map U ++ sp34).length = cap34 →
          (rows.set k ⟨q34.map (fun b => ⟨b, 0, none⟩), cap34, serU (propsL l) c⟩).length = m.rows.length ∧ (∀ r ∈ rows.set k ⟨q34.map (fun b => ⟨b, 0, none⟩), cap34, serU (propsL l) c⟩, InS U ((q34, ob U 41 (serU (propsL l) c) sp34) :: HR) r.a r.xs ∧ r.xs.length ≤ maxLen ∧ r.xs.length ≤ r.cap) ∧
          ∀ (i : Nat) (r : Row), i < k + 1 → m.rows[i]? = some r → ∃ c', Least (closP (propsL l)) r.xs c' ∧ ((rows.set k ⟨q34.map (fun b => ⟨b, 0, none⟩), cap34, serU (propsL l) c⟩).map Row.xs)[i]? = some (serU (propsL l) c') := by
        intro c q34 cap34 sp34 hL hq34 hcap34
        refine ⟨by simp [hrl], fun r hr => ?_, fun i r hi hr => ?_⟩
        · rcases List.mem_or_eq_of_mem_set hr with hr | rfl
          · obtain ⟨a1, a2⟩ := hrows r hr
            exact ⟨a1.mono (List.subset_cons_self _ _), a2⟩
          · have h64 := hL.val.len
            exact ⟨InS.at (fun e => (hq34 e).1) (List.mem_cons_self ..), by show (serU _ _).length ≤ _; rw [serU_length]; unfold maxLen; omega, by rw [← hcap34]; simp⟩
        · by_cases e : i = k
          · subst e
            rw [List.getElem?_eq_getElem hlt] at hr; cases hr
            exact ⟨c, hL, by simp [hkr]⟩
          · obtain ⟨c', b1, b2⟩ := hcl i r (by omega) hr
            refine ⟨c', b1, ?_⟩
            rw [List.getElem?_map] at b2 ⊢
            rw [List.getElem?_set_ne (Ne.symm e)]; exact b2
      refine GoH.skip ?_
      refine GoH.seq ?_
      refine GoH.block ?_
      refine GoH.drawT 9 13 mixed rfl ?_
      refine RdT.v (Vop.fldP rfl rfl rfl rfl Tryd.underlying25 rfl Tryd.sizeOf23 2 rfl) ?_
      refine RdT.v (Vop.ldo rfl rfl rfl rfl Tryd.isAgg23 1 rfl rfl) ?_
      refine RdT.v (Vop.mv rfl rfl rfl rfl) ?_
      refine RdT.v (Vop.fldP rfl rfl rfl rfl Tryd.underlying25 rfl Tryd.sizeOf23 2 rfl) ?_
      refine RdT.v (Vop.ldo (v := .slice m.ra m.rows.length m.rc) rfl rfl rfl rfl Tryd.isAgg23 4 rfl rfl) ?_
      refine RdT.v (Vop.mv rfl rfl rfl rfl) ?_
      refine RdT.v (Vop.idx rfl rfl rfl rfl rfl Tryd.underlying23 Tryd.sizeOf22 ⟨_, hm.rel⟩ (by simp) (k) ⟨rfl, by simpa using hlt⟩) ?_
      refine RdT.v (Vop.ld rfl rfl rfl rfl Tryd.isAgg22 (fun w _ hS => (SlR.ex0 hm.rel hS.ext).at (k) hlt)) ?_
      refine RdT.v (Vop.mv rfl rfl rfl rfl) ?_
      refine RdT.nil ?_
      refine Tl.one (d := 34) rfl ?_
      refine Mop.call _ rfl rfl rfl rfl rfl (fun _ _ => Tryd.call40 _ _) (fun w _ hS => (by exact rClosureR_c m.rows[k] l w (hrow.ex0 hS.ext) hrv)) ?_
      rintro v w1 w2 Y' hS he ⟨c, hL, ho⟩
      obtain ⟨q34, cap34, sp34, rfl, hq34, hcap34, hS'⟩ := gainO hS he ho
      refine ⟨_, hS', by repeat (first | exact List.Sublist.refl _ | refine List.Sublist.cons _ ?_), ?_⟩
      -- heap: q34 qR b7 qV b4 b2
      refine Tl.sw [10, 11] rfl rfl ?_
      refine GoH.v (Vop.idxS rfl rfl rfl rfl rfl Tryd.underlying23 Tryd.sizeOf22 (k) ⟨rfl, hlt⟩) ?_
      refine GoH.stE Row.v ⟨q34.map (fun b => ⟨b, 0, none⟩), cap34, serU (propsL l) c⟩ rfl rfl rfl rfl Tryd.sizeOf22 rfl 1 rfl hkr ?_
      refine GoH.regionEnd ?_
      refine GoH.inBlock ?_
      refine GoH.region ?_
      refine GoH.v (Vop.mv rfl rfl rfl rfl) ?_
      refine GoH.v (Vop.bin rfl rfl rfl rfl (bAdd (by omega)) rfl) ?_
      refine GoH.v (Vop.asg rfl rfl rfl rfl) ?_
      refine GoH.regionEnd ?_
      obtain ⟨f1, f2, f3⟩ := fin c q34 cap34 sp34 hL hq34 hcap34
      refine GoH.pickT (pre := [_, _, _, _, _, _]) (pre' := [_, _, _, _, _, _]) HR [1, 2, 3, 4, 5, 0] (by decide) rfl ?_
      exact IH (k + 1, rows.set k ⟨q34.map (fun b => ⟨b, 0, none⟩), cap34, serU (propsL l) c⟩, (q34, ob U 41 (serU (propsL l) c) sp34) :: HR) _ _ ⟨hlt, f1, f2, f3⟩ (by dsimp only; omega) ⟨rfl, rfl, rfl, rfl, rfl, trivial⟩ (List.Sublist.refl _)
    · -- no
      have hge : ¬ k < m.rows.length := by simpa using hc
      obtain rfl : k = m.rows.length := by omega
      refine GoH.exit rfl ?_
      refine GoH.seq ?_
      refine GoH.region ?_
      refine GoH.v (Vop.ldB rfl rfl rfl rfl Tryd.isAgg25 1 rfl Tryd.sizeOf25 rfl) ?_
      refine GoH.stB rfl rfl rfl rfl Tryd.sizeOf25 3 rfl rfl rfl rfl ?_
      refine GoH.v (Vop.asg rfl rfl rfl rfl) ?_
      refine GoH.regionEnd ?_
      refine GoH.retH Tryd.f13 Tryd.func13 _ (resH.cell rfl Tryd.isAgg25 Tryd.sizeOf25 (j := 3) rfl rfl (resH.tmp rfl resH.nil)) (fun w' hS => ?_)
      have hcapR' : rows.length ≤ capR := by rw [← hcapR]; simp; omega
      refine ⟨hS.ext, ⟨m.n, qR.map (fun b => ⟨b, 0, none⟩), capR, rows, qV.map (fun b => ⟨b, 0, none⟩), capV, m.val⟩, _, by rw [h1, ← hrl]; rfl, NewH.of hS, ⟨InS.at (fun e => by have := (hqR e).1; show rows.length = 0; omega) (List.mem_of_getElem? (i := 0) rfl), fun r hr => ?_, InS.at (fun e => (hqV e).1) (List.mem_of_getElem? (i := 2) rfl), by show rows.length ≤ _; unfold maxLen; omega, hm.lv, hcapR', by rw [← hcapV]; simp⟩, ?_⟩
      · obtain ⟨a1, a2⟩ := hrows r hr
        exact ⟨a1.mono (fun x hx => List.mem_append_right [_, _, _, _, _] hx), a2⟩
      · rw [ClosedM, if_neg (by rw [h1]; simp)]
        refine ⟨rfl, rfl, by simp [MV.rel, hrl], fun i r hr => ?_⟩
        rw [MV.rel, List.getElem?_map] at hr
        obtain ⟨y, hy, rfl⟩ := Option.map_eq_some_iff.1 hr
        exact hcl i y (List.getElem?_eq_some_iff.1 hy).1 hy
set_option maxRecDepth 4000 in
theorem closes15_c (m : MV) (l : Int) (w : World) (hT : Tab w) (hm : m.At w) : Cn Tryd.prog 3 [m.v, .int .i64 l] w (fun v _ => v = .bool true) := by
  refine Cn.of Tryd.func3 rfl rfl ?_
  refine GoH.seq ?_
  refine GoH.region ?_
  refine GoH.bx rfl rfl rfl rfl (fun b2 => ?_)
  refine GoH.v (Vop.asg rfl rfl rfl rfl) ?_
  refine GoH.regionEnd ?_
  refine GoH.seq ?_
  refine GoH.seq ?_
  refine GoH.region ?_
  refine GoH.v (Vop.ldB rfl rfl rfl rfl Tryd.isAgg25 0 rfl Tryd.sizeOf25 rfl) ?_
  refine GoH.callM _ rfl rfl rfl rfl rfl (fun _ _ => Tryd.call10 _ _) (fun w _ hS => few_c m 12 w (hm.ex0 hS.ext)) ?_
  rintro v w1 w2 Y' hS he ⟨b, rfl⟩
  refine ⟨_, hS.later he, ?_⟩
  refine GoH.v (Vop.un rfl rfl rfl uNot rfl) ?_
  refine GoH.regionEnd ?_
  refine GoH.cond rfl (fun hc => ?_) (fun hc => ?_)
  · -- yes
    refine GoH.seq ?_
    refine GoH.region ?_
    refine GoH.callP rfl rfl rfl rfl rfl (fun _ _ => Tryd.call11 _ _) (fun w _ hS => awake15_c w (hT.ex hS.ext)) ?_
    refine GoH.v (Vop.asg rfl rfl rfl rfl) ?_
    refine GoH.regionEnd ?_
    refine GoH.ret Tryd.f3 Tryd.func3 rfl (fun w' hS => ?_)
    exact ⟨hS.ext, rfl⟩
  · -- no
    refine GoH.skip ?_
    refine GoH.seq ?_
    refine GoH.region ?_
    refine GoH.v (Vop.ldB rfl rfl rfl rfl Tryd.isAgg25 0 rfl Tryd.sizeOf25 rfl) ?_
    refine GoH.v (Vop.mv rfl rfl rfl rfl) ?_
    refine GoH.callM _ rfl rfl rfl rfl rfl (fun _ _ => Tryd.call12 _ _) (fun w _ hS => (by exact close_c m l w (hT.ex hS.ext) (hm.ex0 hS.ext))) ?_
    rintro v w1 w2 Y' hS he ⟨A, H1, rfl, hN1, hI1, hcA⟩
    refine ⟨_, hS.gainR he hN1, ?_⟩
    -- heap: b2
    refine GoH.v (Vop.mv rfl rfl rfl rfl) ?_
    refine GoH.v (Vop.ext rfl rfl rfl rfl rfl) ?_
    refine GoH.v (Vop.ext rfl rfl rfl rfl rfl) ?_
    refine GoH.alc rfl rfl rfl (fun _ => Tryd.zeroValue25 _) (fun b5 => ?_)
    refine GoH.stB rfl rfl rfl rfl Tryd.sizeOf25 0 rfl rfl rfl rfl ?_
    refine GoH.v (Vop.asg rfl rfl rfl rfl) ?_
    refine GoH.regionEnd ?_
    refine GoH.seq ?_
    refine GoH.region ?_
    refine GoH.v (Vop.ldB rfl rfl rfl rfl Tryd.isAgg25 1 rfl Tryd.sizeOf25 rfl) ?_
    refine GoH.v (Vop.mv rfl rfl rfl rfl) ?_
    refine GoH.callM _ rfl rfl rfl rfl rfl (fun _ _ => Tryd.call13 _ _) (fun w _ hS => (by exact rClose_c m l w (hm.ex0 hS.ext))) ?_
    rintro v w1 w2 Y' hS he ⟨B, H2, rfl, hN2, hI2, hcB⟩
    refine ⟨_, hS.gainR he hN2, ?_⟩
    -- heap: b5 b2
    refine GoH.v (Vop.mv rfl rfl rfl rfl) ?_
    refine GoH.v (Vop.ext rfl rfl rfl rfl rfl) ?_
    refine GoH.v (Vop.ext rfl rfl rfl rfl rfl) ?_
    refine GoH.alc rfl rfl rfl (fun _ => Tryd.zeroValue25 _) (fun b7 => ?_)
    refine GoH.stB rfl rfl rfl rfl Tryd.sizeOf25 0 rfl rfl rfl rfl ?_
    refine GoH.v (Vop.asg rfl rfl rfl rfl) ?_
    refine GoH.regionEnd ?_
    refine GoH.seq ?_
    refine GoH.region ?_
    refine GoH.v (Vop.mv rfl rfl rfl rfl) ?_
    refine GoH.v (Vop.mv rfl rfl rfl rfl) ?_
    refine GoH.v (Vop.bin rfl rfl rfl rfl (bEqV (v := true) (beq_self_eq_true _)) rfl) ?_
    refine GoH.v (Vop.mv rfl rfl rfl rfl) ?_
    refine GoH.v (Vop.ldB rfl rfl rfl rfl Tryd.isAgg25 1 rfl Tryd.sizeOf25 rfl) ?_
    refine GoH.v (Vop.ldB rfl rfl rfl rfl Tryd.isAgg25 0 rfl Tryd.sizeOf25 rfl) ?_
    refine GoH.callP rfl rfl rfl rfl rfl (fun _ _ => Tryd.call14 _ _) (fun w _ hS => (by exact sameM_t A B w ((hI1.mono (fun x hx => by simp [hx])).at hS) ((hI2.mono (fun x hx => by simp [hx])).at hS) (hcA.uniq hcB))) ?_
    refine GoH.v (Vop.pickT rfl rfl rfl rfl rfl) ?_
    refine GoH.v (Vop.mv rfl rfl rfl rfl) ?_
    refine GoH.callP rfl rfl rfl rfl rfl (fun _ _ => Tryd.call11 _ _) (fun w _ hS => awake15_c w (hT.ex hS.ext)) ?_
    refine GoH.v (Vop.pickT rfl rfl rfl rfl rfl) ?_
    refine GoH.v (Vop.asg rfl rfl rfl rfl) ?_
    refine GoH.regionEnd ?_
    refine GoH.ret Tryd.f3 Tryd.func3 rfl (fun w' hS => ?_)
    exact ⟨hS.ext, rfl⟩
end Go.Proofs.YticlcpkcohdpfaaDoor
