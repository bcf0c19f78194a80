/- Contracts of functions of the program: what each call returns and that nothing else of memory is turned, under the conditions that each theorem states. -/
import Derived.Test.YticlcpkcohdpfaaDoorF3
namespace Go.Proofs.YticlcpkcohdpfaaDoor
open Go.RowKit Go.Proofs.Wit
/-! the reference on models and logics -/
theorem rmAll_c (n : Nat) (w : World) (h : n ≤ 64) : Cn Tryd.prog 79 [.int .i64 n] w (fun v _ => v = U (allW n)) := by
  refine Cn.of Tryd.func79 rfl rfl ?_
  refine GoH.seq ?_
  refine GoH.region ?_
  refine GoH.v (Vop.asg (v := U 0#64) rfl rfl rfl rfl) ?_
  refine GoH.regionEnd ?_
  refine GoH.seq ?_
  refine GoH.seq ?_
  refine GoH.region ?_
  refine GoH.v (Vop.mv rfl rfl rfl rfl) ?_
  refine GoH.v (Vop.bin rfl rfl rfl rfl bGe rfl) ?_
  refine GoH.regionEnd ?_
  refine GoH.cond rfl (fun hc => ?_) (fun hc => ?_)
  · -- yes
    have h2 : 64 ≤ n := by simp at hc; omega
    refine GoH.seq ?_
    refine GoH.region ?_
    refine GoH.v (Vop.asg (v := U 18446744073709551615#64) rfl rfl rfl rfl) ?_
    refine GoH.regionEnd ?_
    refine GoH.ret Tryd.f79 Tryd.func79 rfl (fun w' hS => ?_)
    exact ⟨hS.ext, by rw [allW, if_pos h2]; rfl⟩
  · -- no
    have h2 : ¬ 64 ≤ n := by simp at hc; omega
    refine GoH.skip ?_
    refine GoH.seq ?_
    refine GoH.region ?_
    refine GoH.v (Vop.mv rfl rfl rfl rfl) ?_
    refine GoH.v (Vop.bin (a := U 1#64) rfl rfl rfl rfl (bShl _ rfl) rfl) ?_
    refine GoH.v (Vop.bin (b := U 1#64) rfl rfl rfl rfl bSubU rfl) ?_
    refine GoH.v (Vop.asg rfl rfl rfl rfl) ?_
    refine GoH.regionEnd ?_
    refine GoH.ret Tryd.f79 Tryd.func79 rfl (fun w' hS => ?_)
    exact ⟨hS.ext, by rw [allW, if_neg h2]; rfl⟩
theorem beyond_c (a : Option Addr) (ca : Nat) (xs : List W64) (n : Int) (hn : 0 ≤ n ∧ n ≤ 64) (w : World) (ha : SlU w a xs) (hl : xs.length ≤ maxLen) :
    Cn Tryd.prog 51 [.slice a xs.length ca, .int .i64 n] w (fun v _ => v = .bool (outB n.toNat xs)) := by
  obtain ⟨N, rfl⟩ : ∃ N : Nat, n = N := ⟨n.toNat, by omega⟩
  unfold maxLen at hl
  refine Cn.of Tryd.func51 rfl rfl ?_
  refine GoH.seq ?_
  refine GoH.region ?_
  refine GoH.v (Vop.asg rfl rfl rfl rfl) ?_
  refine GoH.regionEnd ?_
  refine GoH.seq ?_
  refine GoH.seq ?_
  refine GoH.region ?_
  refine GoH.v (Vop.asg rfl rfl rfl rfl) ?_
  refine GoH.regionEnd ?_
  refine GoH.block ?_
  refine GoH.loop (σ := Nat) (fun k => [(0, .slice a xs.length ca), (1, .int .i64 N), (5, .int .i64 k)]) (fun _ => []) (fun k => k ≤ xs.length ∧ ∀ i, i < k → xs.getD i 0#64 &&& ~~~ allW N = 0#64) (fun k => xs.length - k) 0 ⟨Nat.zero_le _, fun i hi => by omega⟩ ⟨rfl, rfl, rfl, trivial⟩ .slnil (fun k hI IH => ?_)
  obtain ⟨hk, hall⟩ := hI
  refine GoH.seq ?_
  refine GoH.seq ?_
  refine GoH.region ?_
  refine GoH.v (Vop.mv rfl rfl rfl rfl) ?_
  refine GoH.v (Vop.mv rfl rfl rfl rfl) ?_
  refine GoH.v (Vop.blt rfl rfl rfl (blt_len_slice Tryd.underlying22) rfl) ?_
  refine GoH.v (Vop.bin rfl rfl rfl rfl bLt rfl) ?_
  refine GoH.regionEnd ?_
  refine GoH.cond rfl (fun hc => ?_) (fun hc => ?_)
  · -- yes
    have hlt : k < xs.length := by simpa using hc
    refine GoH.skip ?_
    refine GoH.seq ?_
    refine GoH.block ?_
    refine GoH.seq ?_
    refine GoH.draw 8 mixed rfl ?_
    refine RdGo.v (Vop.mv rfl rfl rfl rfl) ?_
    refine RdGo.v (Vop.mv rfl rfl rfl rfl) ?_
    refine RdGo.v (Vop.idx rfl rfl rfl rfl rfl Tryd.underlying22 Tryd.sizeOf41 ⟨_, ha⟩ (by simp) (k) ⟨rfl, by simpa using hlt⟩) ?_
    refine RdGo.v (Vop.ld rfl rfl rfl rfl Tryd.isAgg41 (fun w _ hS => (SlU.ex0 ha hS.ext).at (k) hlt)) ?_
    refine RdGo.v (Vop.mv rfl rfl rfl rfl) ?_
    refine RdGo.callP rfl rfl rfl rfl rfl (fun _ _ => Tryd.call79 _ _) (fun w _ hS => rmAll_c N w (by omega)) ?_
    refine RdGo.v (Vop.bin rfl rfl rfl rfl bAndNot rfl) ?_
    refine RdGo.v (Vop.bin (b := U 0#64) rfl rfl rfl rfl bNeU rfl) ?_
    refine RdGo.nil ?_
    refine GoH.regionEnd ?_
    refine GoH.cond rfl (fun hc => ?_) (fun hc => ?_)
    · -- yes
      refine GoH.seq ?_
      refine GoH.region ?_
      refine GoH.v (Vop.asg rfl rfl rfl rfl) ?_
      refine GoH.regionEnd ?_
      refine GoH.ret Tryd.f51 Tryd.func51 rfl (fun w' hS => ?_)
      exact ⟨hS.ext, by rw [Int.toNat_natCast, show outB N xs = true from by unfold outB; rw [List.any_eq_true]; exact ⟨_, by rw [List.getD_eq_getElem?_getD, List.getElem?_eq_getElem hlt]; exact List.getElem_mem hlt, hc⟩]; rfl⟩
    · -- no
      refine GoH.skip ?_
      refine GoH.inBlock ?_
      refine GoH.region ?_
      refine GoH.v (Vop.mv rfl rfl rfl rfl) ?_
      refine GoH.v (Vop.bin rfl rfl rfl rfl (bAdd (by omega)) rfl) ?_
      refine GoH.v (Vop.asg rfl rfl rfl rfl) ?_
      refine GoH.regionEnd ?_
      exact IH (k + 1) _ _ ⟨hlt, fun i hi => by
      by_cases e : i = k
      · subst e; simpa using hc
      · exact hall i (by omega)⟩ (by omega) ⟨rfl, rfl, rfl, trivial⟩ .slnil
  · -- no
    have hge : ¬ k < xs.length := by simpa using hc
    obtain rfl : k = xs.length := by omega
    refine GoH.exit rfl ?_
    refine GoH.seq ?_
    refine GoH.region ?_
    refine GoH.v (Vop.asg rfl rfl rfl rfl) ?_
    refine GoH.regionEnd ?_
    refine GoH.ret Tryd.f51 Tryd.func51 rfl (fun w' hS => ?_)
    exact ⟨hS.ext, by rw [Int.toNat_natCast, show outB N xs = false from outB_false.2 (fun s hs => by
    obtain ⟨i, hi, rfl⟩ := List.mem_iff_getElem.1 hs
    simpa [List.getD_eq_getElem?_getD, hi] using hall i hi)]; rfl⟩
theorem beyondR_c (r : Row) (n : Int) (hn : 0 ≤ n ∧ n ≤ 64) (w : World) (h : r.At w) : Cn Tryd.prog 51 [r.v, .int .i64 n] w (fun v _ => v = .bool (outB n.toNat r.xs)) := beyond_c r.a r.cap r.xs n hn w h.at_ h.len
set_option maxRecDepth 4000 in
theorem rmCheck_c (m : MV) (w : World) (hm : m.At w) : Cn Tryd.prog 26 [m.v] w (fun v _ => v = .int .i64 (checkM m.n m.val m.rel)) := by
  have hlr := hm.lr
  unfold maxLen at hlr
  have hrl : m.rel.length = m.rows.length := by simp [MV.rel]
  refine Cn.of Tryd.func26 rfl rfl ?_
  refine GoH.seq ?_
  refine GoH.region ?_
  refine GoH.bx rfl rfl rfl rfl (fun b1 => ?_)
  refine GoH.v (Vop.asg rfl rfl rfl rfl) ?_
  refine GoH.regionEnd ?_
  refine GoH.seq ?_
  refine GoH.seq ?_
  refine GoH.region ?_
  refine GoH.v (Vop.fldP rfl rfl rfl rfl Tryd.underlying25 rfl Tryd.sizeOf3 0 rfl) ?_
  refine GoH.v (Vop.ldo (v := .int .i64 m.n) rfl rfl rfl rfl Tryd.isAgg3 0 rfl rfl) ?_
  refine GoH.v (Vop.bin rfl rfl rfl rfl bLt rfl) ?_
  refine GoH.v (Vop.mv rfl rfl rfl rfl) ?_
  -- guard on slot 8 (ref.go:29)
  refine GoH.cases (d := 8) rfl (fun hc => ?_) (fun hc => ?_)
  · -- yes
    have h1 : m.n < 1 := by simpa using hc
    refine GoH.no rfl rfl rfl rfl ?_
    refine GoH.no rfl rfl rfl rfl ?_
    refine GoH.no rfl rfl rfl rfl ?_
    refine GoH.v (Vop.pickT rfl rfl rfl rfl rfl) ?_
    refine GoH.regionEnd ?_
    refine GoH.condT rfl ?_
    refine GoH.seq ?_
    refine GoH.region ?_
    refine GoH.v (Vop.asg rfl rfl rfl rfl) ?_
    refine GoH.regionEnd ?_
    refine GoH.ret Tryd.f26 Tryd.func26 rfl (fun w' hS => ?_)
    exact ⟨hS.ext, by rw [checkM, if_pos (.inl h1)]; rfl⟩
  · -- no
    have h1 : ¬ m.n < 1 := by simpa using hc
    refine GoH.v (Vop.fldP rfl rfl rfl rfl Tryd.underlying25 rfl Tryd.sizeOf3 0 rfl) ?_
    refine GoH.v (Vop.ldo (v := .int .i64 m.n) rfl rfl rfl rfl Tryd.isAgg3 0 rfl rfl) ?_
    refine GoH.v (Vop.bin rfl rfl rfl rfl bGt rfl) ?_
    refine GoH.v (Vop.pickF rfl rfl rfl rfl rfl) ?_
    refine GoH.regionEnd ?_
    refine GoH.cond rfl (fun hc => ?_) (fun hc => ?_)
    · -- yes
      have h2 : 64 < m.n := by simpa using hc
      refine GoH.seq ?_
      refine GoH.region ?_
      refine GoH.v (Vop.asg rfl rfl rfl rfl) ?_
      refine GoH.regionEnd ?_
      refine GoH.ret Tryd.f26 Tryd.func26 rfl (fun w' hS => ?_)
      exact ⟨hS.ext, by rw [checkM, if_pos (.inr h2)]; rfl⟩
    · -- no
      have h2 : ¬ 64 < m.n := by simpa using hc
      have h3 : ¬ (m.n < 1 ∨ 64 < m.n) := by omega
      have hn : 0 ≤ m.n ∧ m.n ≤ 64 := by omega
      refine GoH.skip ?_
      refine GoH.seq ?_
      refine GoH.seq ?_
      refine GoH.region ?_
      refine GoH.v (Vop.fldP rfl rfl rfl rfl Tryd.underlying25 rfl Tryd.sizeOf23 2 rfl) ?_
      refine GoH.v (Vop.ldo (v := .slice m.ra m.rows.length m.rc) rfl rfl rfl rfl Tryd.isAgg23 0 rfl rfl) ?_
      refine GoH.v (Vop.blt rfl rfl rfl (blt_len_slice Tryd.underlying23) rfl) ?_
      refine GoH.v (Vop.bin rfl rfl rfl rfl bGt rfl) ?_
      refine GoH.v (Vop.mv rfl rfl rfl rfl) ?_
      -- guard on slot 17 (ref.go:32)
      refine GoH.cases (d := 17) rfl (fun hc => ?_) (fun hc => ?_)
      · -- yes
        have h4 : 4 < m.rel.length := by simp at hc; omega
        refine GoH.no rfl rfl rfl rfl ?_
        refine GoH.no rfl rfl rfl rfl ?_
        refine GoH.no rfl rfl rfl rfl ?_
        refine GoH.no rfl rfl rfl rfl ?_
        refine GoH.v (Vop.pickT rfl rfl rfl rfl rfl) ?_
        refine GoH.regionEnd ?_
        refine GoH.condT rfl ?_
        refine GoH.seq ?_
        refine GoH.region ?_
        refine GoH.v (Vop.asg rfl rfl rfl rfl) ?_
        refine GoH.regionEnd ?_
        refine GoH.ret Tryd.f26 Tryd.func26 rfl (fun w' hS => ?_)
        exact ⟨hS.ext, by rw [checkM, if_neg h3, if_pos (.inl h4)]; rfl⟩
      · -- no
        have h4 : ¬ 4 < m.rel.length := by simp at hc; omega
        refine GoH.v (Vop.fldP rfl rfl rfl rfl Tryd.underlying25 rfl Tryd.sizeOf22 1 rfl) ?_
        refine GoH.v (Vop.ldo (v := .slice m.va m.val.length m.vc) rfl rfl rfl rfl Tryd.isAgg22 0 rfl rfl) ?_
        refine GoH.v (Vop.blt rfl rfl rfl (blt_len_slice Tryd.underlying22) rfl) ?_
        refine GoH.v (Vop.bin rfl rfl rfl rfl bGt rfl) ?_
        refine GoH.v (Vop.pickF rfl rfl rfl rfl rfl) ?_
        refine GoH.regionEnd ?_
        refine GoH.cond rfl (fun hc => ?_) (fun hc => ?_)
        · -- yes
          have h5 : 8 < m.val.length := by simp at hc; omega
          refine GoH.seq ?_
          refine GoH.region ?_
          refine GoH.v (Vop.asg rfl rfl rfl rfl) ?_
          refine GoH.regionEnd ?_
          refine GoH.ret Tryd.f26 Tryd.func26 rfl (fun w' hS => ?_)
          exact ⟨hS.ext, by rw [checkM, if_neg h3, if_pos (.inr h5)]; rfl⟩
        · -- no
          have h5 : ¬ 8 < m.val.length := by simp at hc; omega
          have h6 : ¬ (4 < m.rel.length ∨ 8 < m.val.length) := by omega
          refine GoH.skip ?_
          refine GoH.seq ?_
          refine GoH.seq ?_
          refine GoH.region ?_
          refine GoH.v (Vop.asg rfl rfl rfl rfl) ?_
          refine GoH.regionEnd ?_
          refine GoH.block ?_
          refine GoH.loop (σ := Nat) (fun k => [(1, .pointer (some ⟨b1, 0, none⟩)), (3, .int .i64 k)]) (fun _ => [(some b1, .cells m.cs 25 (0, 0))])
            (fun k => k ≤ m.rows.length ∧ ∀ i y, i < k → m.rows[i]? = some y → (y.xs.length : Int) = m.n) (fun k => m.rows.length - k) 0 ⟨Nat.zero_le _, fun i y hi => by omega⟩ ⟨rfl, rfl, trivial⟩ (List.Sublist.refl _) (fun k hI IH => ?_)
          obtain ⟨hk, hall⟩ := hI
          -- heap: b1
          -- ptr: 1=b1
          refine GoH.seq ?_
          refine GoH.seq ?_
          refine GoH.region ?_
          refine GoH.v (Vop.mv rfl rfl rfl rfl) ?_
          refine GoH.v (Vop.fldP rfl rfl rfl rfl Tryd.underlying25 rfl Tryd.sizeOf23 2 rfl) ?_
          refine GoH.v (Vop.ldo (v := .slice m.ra m.rows.length m.rc) rfl rfl rfl rfl Tryd.isAgg23 0 rfl rfl) ?_
          refine GoH.v (Vop.blt rfl rfl rfl (blt_len_slice Tryd.underlying23) rfl) ?_
          refine GoH.v (Vop.bin rfl rfl rfl rfl bLt rfl) ?_
          refine GoH.regionEnd ?_
          refine GoH.cond rfl (fun hc => ?_) (fun hc => ?_)
          · -- yes
            have hlt : k < m.rows.length := by simpa using hc
            refine GoH.skip ?_
            refine GoH.seq ?_
            refine GoH.block ?_
            refine GoH.seq ?_
            refine GoH.draw 9 mixed rfl ?_
            refine RdGo.v (Vop.fldP rfl rfl rfl rfl Tryd.underlying25 rfl Tryd.sizeOf23 2 rfl) ?_
            refine RdGo.v (Vop.ldo (v := .slice m.ra m.rows.length m.rc) rfl rfl rfl rfl Tryd.isAgg23 0 rfl rfl) ?_
            refine RdGo.v (Vop.mv rfl rfl rfl rfl) ?_
            refine RdGo.v (Vop.idx rfl rfl rfl rfl rfl Tryd.underlying23 Tryd.sizeOf22 ⟨_, hm.rel⟩ (by simp) (k) ⟨rfl, by simpa using hlt⟩) ?_
            refine RdGo.v (Vop.ld rfl rfl rfl rfl Tryd.isAgg22 (fun w _ hS => (SlR.ex0 hm.rel hS.ext).at (k) hlt)) ?_
            refine RdGo.v (Vop.blt rfl rfl rfl (blt_len_slice Tryd.underlying22) rfl) ?_
            refine RdGo.v (Vop.fldP rfl rfl rfl rfl Tryd.underlying25 rfl Tryd.sizeOf3 0 rfl) ?_
            refine RdGo.v (Vop.ldo (v := .int .i64 m.n) rfl rfl rfl rfl Tryd.isAgg3 0 rfl rfl) ?_
            refine RdGo.v (Vop.bin rfl rfl rfl rfl bNe rfl) ?_
            refine RdGo.nil ?_
            refine GoH.regionEnd ?_
            refine GoH.cond rfl (fun hc => ?_) (fun hc => ?_)
            · -- yes
              have h7 : m.rel.any (fun r => (r.length : Int) != m.n) = true := by
                rw [List.any_eq_true]
                exact ⟨_, List.mem_map.2 ⟨m.rows[k], List.getElem_mem hlt, rfl⟩, hc⟩
              refine GoH.seq ?_
              refine GoH.region ?_
              refine GoH.v (Vop.asg rfl rfl rfl rfl) ?_
              refine GoH.regionEnd ?_
              refine GoH.ret Tryd.f26 Tryd.func26 rfl (fun w' hS => ?_)
              exact ⟨hS.ext, by rw [checkM, if_neg h3, if_neg h6, if_pos h7]; rfl⟩
            · -- no
              refine GoH.skip ?_
              refine GoH.inBlock ?_
              refine GoH.region ?_
              refine GoH.v (Vop.mv rfl rfl rfl rfl) ?_
              refine GoH.v (Vop.bin rfl rfl rfl rfl (bAdd (by omega)) rfl) ?_
              refine GoH.v (Vop.asg rfl rfl rfl rfl) ?_
              refine GoH.regionEnd ?_
              exact IH (k + 1) _ _ ⟨hlt, fun i y hi hy => by
              by_cases e : i = k
              · subst e; rw [List.getElem?_eq_getElem hlt] at hy; cases hy; simpa using hc
              · exact hall i y (by omega) hy⟩ (by omega) ⟨rfl, rfl, trivial⟩ (List.Sublist.refl _)
          · -- no
            have hge : ¬ k < m.rows.length := by simpa using hc
            obtain rfl : k = m.rows.length := by omega
            have h7 : ¬ m.rel.any (fun r => (r.length : Int) != m.n) = true := by
              rw [Bool.not_eq_true, List.any_eq_false]
              intro r hr
              obtain ⟨y, hy, rfl⟩ := List.mem_map.1 hr
              obtain ⟨i, hi, rfl⟩ := List.mem_iff_getElem.1 hy
              simpa using hall i _ hi (List.getElem?_eq_getElem hi)
            refine GoH.exit rfl ?_
            refine GoH.seq ?_
            refine GoH.seq ?_
            refine GoH.region ?_
            refine GoH.v (Vop.fldP rfl rfl rfl rfl Tryd.underlying25 rfl Tryd.sizeOf22 1 rfl) ?_
            refine GoH.v (Vop.ldo (v := .slice m.va m.val.length m.vc) rfl rfl rfl rfl Tryd.isAgg22 0 rfl rfl) ?_
            refine GoH.v (Vop.fldP rfl rfl rfl rfl Tryd.underlying25 rfl Tryd.sizeOf3 0 rfl) ?_
            refine GoH.v (Vop.ldo (v := .int .i64 m.n) rfl rfl rfl rfl Tryd.isAgg3 0 rfl rfl) ?_
            refine GoH.callP rfl rfl rfl rfl rfl (fun _ _ => Tryd.call51 _ _) (fun w _ hS => beyond_c m.va m.vc m.val m.n hn w (hm.val.ex0 hS.ext) hm.lv) ?_
            refine GoH.regionEnd ?_
            refine GoH.cond rfl (fun hc => ?_) (fun hc => ?_)
            · -- yes
              refine GoH.seq ?_
              refine GoH.region ?_
              refine GoH.v (Vop.asg rfl rfl rfl rfl) ?_
              refine GoH.regionEnd ?_
              refine GoH.ret Tryd.f26 Tryd.func26 rfl (fun w' hS => ?_)
              exact ⟨hS.ext, by rw [checkM, if_neg h3, if_neg h6, if_neg h7, if_pos (by rw [hc]; rfl)]; rfl⟩
            · -- no
              have h8 := hc
              refine GoH.skip ?_
              refine GoH.seq ?_
              refine GoH.seq ?_
              refine GoH.region ?_
              refine GoH.v (Vop.asg rfl rfl rfl rfl) ?_
              refine GoH.regionEnd ?_
              refine GoH.block ?_
              refine GoH.loop (σ := Nat) (fun k => [(1, .pointer (some ⟨b1, 0, none⟩)), (4, .int .i64 k)]) (fun _ => [(some b1, .cells m.cs 25 (0, 0))])
                (fun k => k ≤ m.rows.length ∧ ∀ i y, i < k → m.rows[i]? = some y → outB m.n.toNat y.xs = false) (fun k => m.rows.length - k) 0 ⟨Nat.zero_le _, fun i y hi => by omega⟩ ⟨rfl, rfl, trivial⟩ (List.Sublist.refl _) (fun k hI IH => ?_)
              obtain ⟨hk, hout⟩ := hI
              -- heap: b1
              -- ptr: 1=b1
              refine GoH.seq ?_
              refine GoH.seq ?_
              refine GoH.region ?_
              refine GoH.v (Vop.mv rfl rfl rfl rfl) ?_
              refine GoH.v (Vop.fldP rfl rfl rfl rfl Tryd.underlying25 rfl Tryd.sizeOf23 2 rfl) ?_
              refine GoH.v (Vop.ldo (v := .slice m.ra m.rows.length m.rc) rfl rfl rfl rfl Tryd.isAgg23 0 rfl rfl) ?_
              refine GoH.v (Vop.blt rfl rfl rfl (blt_len_slice Tryd.underlying23) rfl) ?_
              refine GoH.v (Vop.bin rfl rfl rfl rfl bLt rfl) ?_
              refine GoH.regionEnd ?_
              refine GoH.cond rfl (fun hc => ?_) (fun hc => ?_)
              · -- yes
                have hlt : k < m.rows.length := by simpa using hc
                have hrow := hm.row m.rows[k] (List.getElem_mem hlt)
                refine GoH.skip ?_
                refine GoH.seq ?_
                refine GoH.block ?_
                refine GoH.seq ?_
                refine GoH.draw 8 mixed rfl ?_
                refine RdGo.v (Vop.fldP rfl rfl rfl rfl Tryd.underlying25 rfl Tryd.sizeOf23 2 rfl) ?_
                refine RdGo.v (Vop.ldo (v := .slice m.ra m.rows.length m.rc) rfl rfl rfl rfl Tryd.isAgg23 0 rfl rfl) ?_
                refine RdGo.v (Vop.mv rfl rfl rfl rfl) ?_
                refine RdGo.v (Vop.idx rfl rfl rfl rfl rfl Tryd.underlying23 Tryd.sizeOf22 ⟨_, hm.rel⟩ (by simp) (k) ⟨rfl, by simpa using hlt⟩) ?_
                refine RdGo.v (Vop.ld rfl rfl rfl rfl Tryd.isAgg22 (fun w _ hS => (SlR.ex0 hm.rel hS.ext).at (k) hlt)) ?_
                refine RdGo.v (Vop.fldP rfl rfl rfl rfl Tryd.underlying25 rfl Tryd.sizeOf3 0 rfl) ?_
                refine RdGo.v (Vop.ldo (v := .int .i64 m.n) rfl rfl rfl rfl Tryd.isAgg3 0 rfl rfl) ?_
                refine RdGo.callP rfl rfl rfl rfl rfl (fun _ _ => Tryd.call51 _ _) (fun w _ hS => beyondR_c m.rows[k] m.n hn w (hrow.ex0 hS.ext)) ?_
                refine RdGo.nil ?_
                refine GoH.regionEnd ?_
                refine GoH.cond rfl (fun hc => ?_) (fun hc => ?_)
                · -- yes
                  refine GoH.seq ?_
                  refine GoH.region ?_
                  refine GoH.v (Vop.asg rfl rfl rfl rfl) ?_
                  refine GoH.regionEnd ?_
                  refine GoH.ret Tryd.f26 Tryd.func26 rfl (fun w' hS => ?_)
                  exact ⟨hS.ext, by rw [checkM, if_neg h3, if_neg h6, if_neg h7, if_pos (by rw [Bool.or_eq_true, List.any_eq_true]; exact .inr ⟨_, List.mem_map.2 ⟨m.rows[k], List.getElem_mem hlt, rfl⟩, hc⟩)]; rfl⟩
                · -- no
                  refine GoH.skip ?_
                  refine GoH.inBlock ?_
                  refine GoH.region ?_
                  refine GoH.v (Vop.mv rfl rfl rfl rfl) ?_
                  refine GoH.v (Vop.bin rfl rfl rfl rfl (bAdd (by omega)) rfl) ?_
                  refine GoH.v (Vop.asg rfl rfl rfl rfl) ?_
                  refine GoH.regionEnd ?_
                  exact IH (k + 1) _ _ ⟨hlt, fun i y hi hy => by
                  by_cases e : i = k
                  · subst e; rw [List.getElem?_eq_getElem hlt] at hy; cases hy; exact hc
                  · exact hout i y (by omega) hy⟩ (by omega) ⟨rfl, rfl, trivial⟩ (List.Sublist.refl _)
              · -- no
                have hge : ¬ k < m.rows.length := by simpa using hc
                obtain rfl : k = m.rows.length := by omega
                have h9 : m.rel.any (outB m.n.toNat) = false := by
                  rw [List.any_eq_false]
                  intro r hr
                  obtain ⟨y, hy, rfl⟩ := List.mem_map.1 hr
                  obtain ⟨i, hi, rfl⟩ := List.mem_iff_getElem.1 hy
                  rw [hout i _ hi (List.getElem?_eq_getElem hi)]; simp
                refine GoH.exit rfl ?_
                refine GoH.seq ?_
                refine GoH.region ?_
                refine GoH.v (Vop.asg rfl rfl rfl rfl) ?_
                refine GoH.regionEnd ?_
                refine GoH.ret Tryd.f26 Tryd.func26 rfl (fun w' hS => ?_)
                exact ⟨hS.ext, by rw [checkM, if_neg h3, if_neg h6, if_neg h7, if_neg (by rw [h8, h9]; simp)]; rfl⟩
theorem sets_c (a : Option Addr) (ca : Nat) (xs : List W64) (b : Option Addr) (cb : Nat) (ys : List W64) (w : World) (ha : SlU w a xs) (hb : SlU w b ys) (hl : xs.length ≤ maxLen) :
    Cn Tryd.prog 41 [.slice a xs.length ca, .slice b ys.length cb] w (fun v _ => v = .bool (xs == ys)) := by
  unfold maxLen at hl
  refine Cn.of Tryd.func41 rfl rfl ?_
  refine GoH.seq ?_
  refine GoH.region ?_
  refine GoH.v (Vop.asg rfl rfl rfl rfl) ?_
  refine GoH.regionEnd ?_
  refine GoH.seq ?_
  refine GoH.seq ?_
  refine GoH.region ?_
  refine GoH.v (Vop.mv rfl rfl rfl rfl) ?_
  refine GoH.v (Vop.blt rfl rfl rfl (blt_len_slice Tryd.underlying22) rfl) ?_
  refine GoH.v (Vop.mv rfl rfl rfl rfl) ?_
  refine GoH.v (Vop.blt rfl rfl rfl (blt_len_slice Tryd.underlying22) rfl) ?_
  refine GoH.v (Vop.bin rfl rfl rfl rfl bNe rfl) ?_
  refine GoH.regionEnd ?_
  refine GoH.cond rfl (fun hc => ?_) (fun hc => ?_)
  · -- yes
    have h1 : xs.length ≠ ys.length := by simp at hc; omega
    refine GoH.seq ?_
    refine GoH.region ?_
    refine GoH.v (Vop.asg rfl rfl rfl rfl) ?_
    refine GoH.regionEnd ?_
    refine GoH.ret Tryd.f41 Tryd.func41 rfl (fun w' hS => ?_)
    exact ⟨hS.ext, by rw [show (xs == ys) = false from by rw [beq_eq_false_iff_ne]; rintro rfl; exact h1 rfl]; rfl⟩
  · -- no
    have h1 : xs.length = ys.length := by simp at hc; omega
    refine GoH.skip ?_
    refine GoH.seq ?_
    refine GoH.seq ?_
    refine GoH.region ?_
    refine GoH.v (Vop.asg rfl rfl rfl rfl) ?_
    refine GoH.regionEnd ?_
    refine GoH.block ?_
    refine GoH.loop (σ := Nat) (fun k => [(0, .slice a xs.length ca), (1, .slice b ys.length cb), (5, .int .i64 k)]) (fun _ => []) (fun k => k ≤ xs.length ∧ anyTo (fun k => xs.getD k 0#64 != ys.getD k 0#64) k = false) (fun k => xs.length - k) 0 ⟨Nat.zero_le _, rfl⟩ ⟨rfl, rfl, rfl, trivial⟩ .slnil (fun k hI IH => ?_)
    obtain ⟨hk, hany⟩ := hI
    refine GoH.seq ?_
    refine GoH.seq ?_
    refine GoH.region ?_
    refine GoH.v (Vop.mv rfl rfl rfl rfl) ?_
    refine GoH.v (Vop.mv rfl rfl rfl rfl) ?_
    refine GoH.v (Vop.blt rfl rfl rfl (blt_len_slice Tryd.underlying22) rfl) ?_
    refine GoH.v (Vop.bin rfl rfl rfl rfl bLt rfl) ?_
    refine GoH.regionEnd ?_
    refine GoH.cond rfl (fun hc => ?_) (fun hc => ?_)
    · -- yes
      have hlt : k < xs.length := by simpa using hc
      refine GoH.skip ?_
      refine GoH.seq ?_
      refine GoH.block ?_
      refine GoH.seq ?_
      refine GoH.draw 9 mixed rfl ?_
      refine RdGo.v (Vop.mv rfl rfl rfl rfl) ?_
      refine RdGo.v (Vop.mv rfl rfl rfl rfl) ?_
      refine RdGo.v (Vop.idx rfl rfl rfl rfl rfl Tryd.underlying22 Tryd.sizeOf41 ⟨_, ha⟩ (by simp) (k) ⟨rfl, by simpa using hlt⟩) ?_
      refine RdGo.v (Vop.ld rfl rfl rfl rfl Tryd.isAgg41 (fun w _ hS => (SlU.ex0 ha hS.ext).at (k) hlt)) ?_
      refine RdGo.v (Vop.mv rfl rfl rfl rfl) ?_
      refine RdGo.v (Vop.mv rfl rfl rfl rfl) ?_
      refine RdGo.v (Vop.idx rfl rfl rfl rfl rfl Tryd.underlying22 Tryd.sizeOf41 ⟨_, hb⟩ (by simp) (k) ⟨rfl, by simpa using (h1 ▸ hlt)⟩) ?_
      refine RdGo.v (Vop.ld rfl rfl rfl rfl Tryd.isAgg41 (fun w _ hS => (SlU.ex0 hb hS.ext).at (k) (h1 ▸ hlt))) ?_
      refine RdGo.v (Vop.bin rfl rfl rfl rfl bNeU rfl) ?_
      refine RdGo.nil ?_
      refine GoH.regionEnd ?_
      refine GoH.cond rfl (fun hc => ?_) (fun hc => ?_)
      · -- yes
        refine GoH.seq ?_
        refine GoH.region ?_
        refine GoH.v (Vop.asg rfl rfl rfl rfl) ?_
        refine GoH.regionEnd ?_
        refine GoH.ret Tryd.f41 Tryd.func41 rfl (fun w' hS => ?_)
        exact ⟨hS.ext, by rw [beq_false_at hc]; rfl⟩
      · -- no
        refine GoH.skip ?_
        refine GoH.inBlock ?_
        refine GoH.region ?_
        refine GoH.v (Vop.mv rfl rfl rfl rfl) ?_
        refine GoH.v (Vop.bin rfl rfl rfl rfl (bAdd (by omega)) rfl) ?_
        refine GoH.v (Vop.asg rfl rfl rfl rfl) ?_
        refine GoH.regionEnd ?_
        exact IH (k + 1) _ _ ⟨hlt, anyTo_succ hany hc⟩ (by omega) ⟨rfl, rfl, rfl, trivial⟩ .slnil
    · -- no
      have hge : ¬ k < xs.length := by simpa using hc
      obtain rfl : k = xs.length := by omega
      refine GoH.exit rfl ?_
      refine GoH.seq ?_
      refine GoH.region ?_
      refine GoH.v (Vop.asg rfl rfl rfl rfl) ?_
      refine GoH.regionEnd ?_
      refine GoH.ret Tryd.f41 Tryd.func41 rfl (fun w' hS => ?_)
      exact ⟨hS.ext, by rw [beq_of_any h1 hany]; rfl⟩
theorem setsR_c (r r' : Row) (w : World) (h : r.At w) (h' : r'.At w) : Cn Tryd.prog 41 [r.v, r'.v] w (fun v _ => v = .bool (r.xs == r'.xs)) := sets_c r.a r.cap r.xs r'.a r'.cap r'.xs w h.at_ h'.at_ h.len
set_option maxRecDepth 4000 in
theorem sameM_c (m m' : MV) (w : World) (hm : m.At w) (hm' : m'.At w) : Cn Tryd.prog 14 [m.v, m'.v] w (fun v _ => v = .bool (sameM m.n m'.n m.val m'.val m.rel m'.rel)) := by
  have hlr := hm.lr
  unfold maxLen at hlr
  refine Cn.of Tryd.func14 rfl rfl ?_
  refine GoH.seq ?_
  refine GoH.region ?_
  refine GoH.bx rfl rfl rfl rfl (fun b2 => ?_)
  refine GoH.bx rfl rfl rfl rfl (fun b3 => ?_)
  refine GoH.v (Vop.asg rfl rfl rfl rfl) ?_
  refine GoH.regionEnd ?_
  refine GoH.seq ?_
  refine GoH.seq ?_
  refine GoH.region ?_
  refine GoH.v (Vop.fldP rfl rfl rfl rfl Tryd.underlying25 rfl Tryd.sizeOf3 0 rfl) ?_
  refine GoH.v (Vop.ldo (v := .int .i64 m.n) rfl rfl rfl rfl Tryd.isAgg3 1 rfl rfl) ?_
  refine GoH.v (Vop.fldP rfl rfl rfl rfl Tryd.underlying25 rfl Tryd.sizeOf3 0 rfl) ?_
  refine GoH.v (Vop.ldo (v := .int .i64 m'.n) rfl rfl rfl rfl Tryd.isAgg3 0 rfl rfl) ?_
  refine GoH.v (Vop.bin rfl rfl rfl rfl bNe rfl) ?_
  refine GoH.v (Vop.mv rfl rfl rfl rfl) ?_
  -- guard on slot 11 (ref.go:66)
  refine GoH.cases (d := 11) rfl (fun hc => ?_) (fun hc => ?_)
  · -- yes
    have h1 : m.n ≠ m'.n := by simpa using hc
    refine GoH.no rfl rfl rfl rfl ?_
    refine GoH.no rfl rfl rfl rfl ?_
    refine GoH.no rfl rfl rfl rfl ?_
    refine GoH.no rfl rfl rfl rfl ?_
    refine GoH.no rfl rfl rfl rfl ?_
    refine GoH.no rfl rfl rfl rfl ?_
    refine GoH.v (Vop.pickT rfl rfl rfl rfl rfl) ?_
    refine GoH.v (Vop.mv rfl rfl rfl rfl) ?_
    refine GoH.no rfl rfl rfl rfl ?_
    refine GoH.no rfl rfl rfl rfl ?_
    refine GoH.no rfl rfl rfl rfl ?_
    refine GoH.no rfl rfl rfl rfl ?_
    refine GoH.no rfl rfl rfl rfl ?_
    refine GoH.no rfl rfl rfl rfl ?_
    refine GoH.no rfl rfl rfl rfl ?_
    refine GoH.v (Vop.pickT rfl rfl rfl rfl rfl) ?_
    refine GoH.regionEnd ?_
    refine GoH.condT rfl ?_
    refine GoH.seq ?_
    refine GoH.region ?_
    refine GoH.v (Vop.asg rfl rfl rfl rfl) ?_
    refine GoH.regionEnd ?_
    refine GoH.ret Tryd.f14 Tryd.func14 rfl (fun w' hS => ?_)
    exact ⟨hS.ext, by rw [sameM, beq_false_of_ne h1]; rfl⟩
  · -- no
    have h1 : m.n = m'.n := by simpa using hc
    refine GoH.v (Vop.fldP rfl rfl rfl rfl Tryd.underlying25 rfl Tryd.sizeOf22 1 rfl) ?_
    refine GoH.v (Vop.ldo (v := .slice m.va m.val.length m.vc) rfl rfl rfl rfl Tryd.isAgg22 1 rfl rfl) ?_
    refine GoH.v (Vop.fldP rfl rfl rfl rfl Tryd.underlying25 rfl Tryd.sizeOf22 1 rfl) ?_
    refine GoH.v (Vop.ldo (v := .slice m'.va m'.val.length m'.vc) rfl rfl rfl rfl Tryd.isAgg22 0 rfl rfl) ?_
    refine GoH.callP rfl rfl rfl rfl rfl (fun _ _ => Tryd.call41 _ _) (fun w _ hS => sets_c m.va m.vc m.val m'.va m'.vc m'.val w (hm.val.ex0 hS.ext) (hm'.val.ex0 hS.ext) hm.lv) ?_
    refine GoH.v (Vop.un rfl rfl rfl uNot rfl) ?_
    refine GoH.v (Vop.pickF rfl rfl rfl rfl rfl) ?_
    refine GoH.v (Vop.mv rfl rfl rfl rfl) ?_
    -- guard on slot 19 (ref.go:66)
    refine GoH.cases (d := 19) rfl (fun hc => ?_) (fun hc => ?_)
    · -- yes
      have h2 : (m.val == m'.val) = false := by simpa using hc
      refine GoH.no rfl rfl rfl rfl ?_
      refine GoH.no rfl rfl rfl rfl ?_
      refine GoH.no rfl rfl rfl rfl ?_
      refine GoH.no rfl rfl rfl rfl ?_
      refine GoH.no rfl rfl rfl rfl ?_
      refine GoH.no rfl rfl rfl rfl ?_
      refine GoH.no rfl rfl rfl rfl ?_
      refine GoH.v (Vop.pickT rfl rfl rfl rfl rfl) ?_
      refine GoH.regionEnd ?_
      refine GoH.condT rfl ?_
      refine GoH.seq ?_
      refine GoH.region ?_
      refine GoH.v (Vop.asg rfl rfl rfl rfl) ?_
      refine GoH.regionEnd ?_
      refine GoH.ret Tryd.f14 Tryd.func14 rfl (fun w' hS => ?_)
      exact ⟨hS.ext, by rw [sameM, h2, Bool.and_false]; rfl⟩
    · -- no
      have h2 : (m.val == m'.val) = true := by simpa using hc
      refine GoH.v (Vop.fldP rfl rfl rfl rfl Tryd.underlying25 rfl Tryd.sizeOf23 2 rfl) ?_
      refine GoH.v (Vop.ldo (v := .slice m.ra m.rows.length m.rc) rfl rfl rfl rfl Tryd.isAgg23 1 rfl rfl) ?_
      refine GoH.v (Vop.blt rfl rfl rfl (blt_len_slice Tryd.underlying23) rfl) ?_
      refine GoH.v (Vop.fldP rfl rfl rfl rfl Tryd.underlying25 rfl Tryd.sizeOf23 2 rfl) ?_
      refine GoH.v (Vop.ldo (v := .slice m'.ra m'.rows.length m'.rc) rfl rfl rfl rfl Tryd.isAgg23 0 rfl rfl) ?_
      refine GoH.v (Vop.blt rfl rfl rfl (blt_len_slice Tryd.underlying23) rfl) ?_
      refine GoH.v (Vop.bin rfl rfl rfl rfl bNe rfl) ?_
      refine GoH.v (Vop.pickF rfl rfl rfl rfl rfl) ?_
      refine GoH.regionEnd ?_
      refine GoH.cond rfl (fun hc => ?_) (fun hc => ?_)
      · -- yes
        have h3 : m.rows.length ≠ m'.rows.length := by simp at hc; omega
        refine GoH.seq ?_
        refine GoH.region ?_
        refine GoH.v (Vop.asg rfl rfl rfl rfl) ?_
        refine GoH.regionEnd ?_
        refine GoH.ret Tryd.f14 Tryd.func14 rfl (fun w' hS => ?_)
        exact ⟨hS.ext, by rw [sameM, show (m.rel == m'.rel) = false from beq_false_of_ne (fun e => h3 (by have := congrArg List.length e; simpa [MV.rel] using this)), Bool.and_false]; rfl⟩
      · -- no
        have h3 : m.rows.length = m'.rows.length := by simp at hc; omega
        refine GoH.skip ?_
        refine GoH.seq ?_
        refine GoH.seq ?_
        refine GoH.region ?_
        refine GoH.v (Vop.asg rfl rfl rfl rfl) ?_
        refine GoH.regionEnd ?_
        refine GoH.block ?_
        refine GoH.loop (σ := Nat) (fun k => [(2, .pointer (some ⟨b2, 0, none⟩)), (3, .pointer (some ⟨b3, 0, none⟩)), (5, .int .i64 k)]) (fun _ => [(some b3, .cells m'.cs 25 (0, 0)), (some b2, .cells m.cs 25 (0, 0))])
          (fun k => k ≤ m.rows.length ∧ ∀ (i : Nat) (x y : Row), i < k → m.rows[i]? = some x → m'.rows[i]? = some y → x.xs = y.xs) (fun k => m.rows.length - k) 0 ⟨Nat.zero_le _, fun i x y hi => by omega⟩ ⟨rfl, rfl, rfl, trivial⟩ (List.Sublist.refl _) (fun k hI IH => ?_)
        obtain ⟨hk, hall⟩ := hI
        -- heap: b3 b2
        -- ptr: 2=b2 3=b3
        refine GoH.seq ?_
        refine GoH.seq ?_
        refine GoH.region ?_
        refine GoH.v (Vop.mv rfl rfl rfl rfl) ?_
        refine GoH.v (Vop.fldP rfl rfl rfl rfl Tryd.underlying25 rfl Tryd.sizeOf23 2 rfl) ?_
        refine GoH.v (Vop.ldo (v := .slice m.ra m.rows.length m.rc) rfl rfl rfl rfl Tryd.isAgg23 1 rfl rfl) ?_
        refine GoH.v (Vop.blt rfl rfl rfl (blt_len_slice Tryd.underlying23) rfl) ?_
        refine GoH.v (Vop.bin rfl rfl rfl rfl bLt rfl) ?_
        refine GoH.regionEnd ?_
        refine GoH.cond rfl (fun hc => ?_) (fun hc => ?_)
        · -- yes
          have hlt : k < m.rows.length := by simpa using hc
          have hlt' : k < m'.rows.length := by omega
          have hrow := hm.row m.rows[k] (List.getElem_mem hlt)
          have hrow' := hm'.row m'.rows[k] (List.getElem_mem hlt')
          refine GoH.skip ?_
          refine GoH.seq ?_
          refine GoH.block ?_
          refine GoH.seq ?_
          refine GoH.draw 12 mixed rfl ?_
          refine RdGo.v (Vop.fldP rfl rfl rfl rfl Tryd.underlying25 rfl Tryd.sizeOf23 2 rfl) ?_
          refine RdGo.v (Vop.ldo (v := .slice m.ra m.rows.length m.rc) rfl rfl rfl rfl Tryd.isAgg23 1 rfl rfl) ?_
          refine RdGo.v (Vop.mv rfl rfl rfl rfl) ?_
          refine RdGo.v (Vop.idx rfl rfl rfl rfl rfl Tryd.underlying23 Tryd.sizeOf22 ⟨_, hm.rel⟩ (by simp) (k) ⟨rfl, by simpa using hlt⟩) ?_
          refine RdGo.v (Vop.ld rfl rfl rfl rfl Tryd.isAgg22 (fun w _ hS => (SlR.ex0 hm.rel hS.ext).at (k) hlt)) ?_
          refine RdGo.v (Vop.fldP rfl rfl rfl rfl Tryd.underlying25 rfl Tryd.sizeOf23 2 rfl) ?_
          refine RdGo.v (Vop.ldo (v := .slice m'.ra m'.rows.length m'.rc) rfl rfl rfl rfl Tryd.isAgg23 0 rfl rfl) ?_
          refine RdGo.v (Vop.mv rfl rfl rfl rfl) ?_
          refine RdGo.v (Vop.idx rfl rfl rfl rfl rfl Tryd.underlying23 Tryd.sizeOf22 ⟨_, hm'.rel⟩ (by simp) (k) ⟨rfl, by simpa using hlt'⟩) ?_
          refine RdGo.v (Vop.ld rfl rfl rfl rfl Tryd.isAgg22 (fun w _ hS => (SlR.ex0 hm'.rel hS.ext).at (k) hlt')) ?_
          refine RdGo.callP rfl rfl rfl rfl rfl (fun _ _ => Tryd.call41 _ _) (fun w _ hS => setsR_c m.rows[k] m'.rows[k] w (hrow.ex0 hS.ext) (hrow'.ex0 hS.ext)) ?_
          refine RdGo.v (Vop.un rfl rfl rfl uNot rfl) ?_
          refine RdGo.nil ?_
          refine GoH.regionEnd ?_
          refine GoH.cond rfl (fun hc => ?_) (fun hc => ?_)
          · -- yes
            have h4 : (m.rows[k].xs == m'.rows[k].xs) = false := by simpa using hc
            refine GoH.seq ?_
            refine GoH.region ?_
            refine GoH.v (Vop.asg rfl rfl rfl rfl) ?_
            refine GoH.regionEnd ?_
            refine GoH.ret Tryd.f14 Tryd.func14 rfl (fun w' hS => ?_)
            exact ⟨hS.ext, by rw [sameM, show (m.rel == m'.rel) = false from beq_false_of_ne (fun e => (beq_eq_false_iff_ne.1 h4) (by have := congrArg (fun l => l[k]?) e; simpa [MV.rel, hlt, hlt'] using this)), Bool.and_false]; rfl⟩
          · -- no
            have h4 : m.rows[k].xs = m'.rows[k].xs := by simpa using hc
            refine GoH.skip ?_
            refine GoH.inBlock ?_
            refine GoH.region ?_
            refine GoH.v (Vop.mv rfl rfl rfl rfl) ?_
            refine GoH.v (Vop.bin rfl rfl rfl rfl (bAdd (by omega)) rfl) ?_
            refine GoH.v (Vop.asg rfl rfl rfl rfl) ?_
            refine GoH.regionEnd ?_
            exact IH (k + 1) _ _ ⟨hlt, fun i x y hi hx hy => by
            by_cases e : i = k
            · subst e
              rw [List.getElem?_eq_getElem hlt] at hx; rw [List.getElem?_eq_getElem hlt'] at hy
              cases hx; cases hy; exact h4
            · exact hall i x y (by omega) hx hy⟩ (by omega) ⟨rfl, rfl, rfl, trivial⟩ (List.Sublist.refl _)
        · -- no
          have hge : ¬ k < m.rows.length := by simpa using hc
          obtain rfl : k = m.rows.length := by omega
          have h5 : (m.rel == m'.rel) = true := rows_ext h3 (fun i x y hx hy => hall i x y (List.getElem?_eq_some_iff.1 hx).1 hx hy)
          refine GoH.exit rfl ?_
          refine GoH.seq ?_
          refine GoH.region ?_
          refine GoH.v (Vop.asg rfl rfl rfl rfl) ?_
          refine GoH.regionEnd ?_
          refine GoH.ret Tryd.f14 Tryd.func14 rfl (fun w' hS => ?_)
          exact ⟨hS.ext, by rw [sameM, h1, h2, h5]; simp [retV]⟩
end Go.Proofs.YticlcpkcohdpfaaDoor
