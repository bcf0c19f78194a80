/- Contracts of functions of the program: what each call returns and that nothing else of memory is turned, under the conditions that each theorem states. -/
import Derived.Test.YticlcpkcohdpfaaDoorT6
namespace Go.Proofs.YticlcpkcohdpfaaDoor
open Go.RowKit Go.Proofs.Wit

def boxR (r : List W64) (s : W64) : W64 := if checkR r.length r ≠ 0 then 0#64 else upTo (fun w out => if r.getD w 0#64 &&& ~~~s == 0#64 then out ||| 1#64 <<< w else out) 0#64 r.length
theorem box_c (a : Option Addr) (ca : Nat) (r : List W64) (s : W64) (w : World) (ha : SlU w a r) (hl : r.length ≤ maxLen) :
    Cn Tryd.prog 58 [.slice a r.length ca, U s] w (fun v _ => v = U (boxR r s)) := by
  have hl' := hl
  unfold maxLen at hl'
  refine Cn.of Tryd.func58 rfl rfl ?_
  refine GoH.seq ?_
  refine GoH.region ?_
  refine GoH.v (Vop.asg (v := U 0#64) rfl rfl rfl rfl) ?_
  refine GoH.regionEnd ?_
  refine GoH.seq ?_
  refine GoH.seq ?_
  refine GoH.region ?_
  refine GoH.v (Vop.mv rfl rfl rfl rfl) ?_
  refine GoH.v (Vop.blt rfl rfl rfl (blt_len_slice Tryd.underlying22) rfl) ?_
  refine GoH.v (Vop.mv rfl rfl rfl rfl) ?_
  refine GoH.callP rfl rfl rfl rfl rfl (fun _ _ => Tryd.call27 _ _) (fun w _ hS => check_c _ a ca r w (ha.ex0 hS.ext) hl) ?_
  refine GoH.v (Vop.bin rfl rfl rfl rfl bNe rfl) ?_
  refine GoH.regionEnd ?_
  refine GoH.cond rfl (fun hc => ?_) (fun hc => ?_)
  · -- yes
    have h1 : checkR r.length r ≠ 0 := by simpa using hc
    refine GoH.seq ?_
    refine GoH.region ?_
    refine GoH.v (Vop.asg (v := U 0#64) rfl rfl rfl rfl) ?_
    refine GoH.regionEnd ?_
    refine GoH.ret Tryd.f58 Tryd.func58 rfl (fun w' hS => ?_)
    exact ⟨hS.ext, by rw [boxR, if_pos h1]; rfl⟩
  · -- no
    have h1 : ¬ checkR r.length r ≠ 0 := by simpa using hc
    refine GoH.skip ?_
    refine GoH.seq ?_
    refine GoH.region ?_
    refine GoH.v (Vop.asg (v := U 0#64) rfl rfl rfl rfl) ?_
    refine GoH.regionEnd ?_
    refine GoH.seq ?_
    refine GoH.seq ?_
    refine GoH.region ?_
    refine GoH.v (Vop.mv rfl rfl rfl rfl) ?_
    refine GoH.v (Vop.blt rfl rfl rfl (blt_len_slice Tryd.underlying22) rfl) ?_
    refine GoH.v (Vop.mv rfl rfl rfl rfl) ?_
    refine GoH.regionEnd ?_
    refine GoH.block ?_
    refine GoH.loop (σ := Nat) (fun k => [(0, .slice a r.length ca), (1, U s), (5, U (upTo (fun w out => if r.getD w 0#64 &&& ~~~s == 0#64 then out ||| 1#64 <<< w else out) 0#64 k)), (13, .int .i64 r.length), (14, .int .i64 k)]) (fun _ => [])
      (fun k => k ≤ r.length) (fun k => r.length - k) 0 (Nat.zero_le _) ⟨rfl, rfl, rfl, rfl, rfl, trivial⟩ .slnil (fun k hk IH => ?_)
    refine GoH.seq ?_
    refine GoH.region ?_
    refine GoH.v (Vop.bin rfl rfl rfl rfl bLt rfl) ?_
    refine GoH.regionEnd ?_
    refine GoH.seq ?_
    refine GoH.cond rfl (fun hc => ?_) (fun hc => ?_)
    · -- yes
      have hlt : k < r.length := by simpa using hc
      refine GoH.skip ?_
      refine GoH.seq ?_
      refine GoH.block ?_
      refine GoH.seq ?_
      refine GoH.region ?_
      refine GoH.v (Vop.mv rfl rfl rfl rfl) ?_
      refine GoH.v (Vop.asg rfl rfl rfl rfl) ?_
      refine GoH.regionEnd ?_
      refine GoH.seq ?_
      refine GoH.region ?_
      refine GoH.v (Vop.mv rfl rfl rfl rfl) ?_
      refine GoH.v (Vop.mv rfl rfl rfl rfl) ?_
      refine GoH.v (Vop.idx rfl rfl rfl rfl rfl Tryd.underlying22 Tryd.sizeOf41 ⟨_, ha⟩ (by simp) (k) ⟨rfl, by simpa using hlt⟩) ?_
      refine GoH.v (Vop.ld rfl rfl rfl rfl Tryd.isAgg41 (fun w _ hS => (SlU.ex0 ha hS.ext).at (k) hlt)) ?_
      refine GoH.v (Vop.mv rfl rfl rfl rfl) ?_
      refine GoH.v (Vop.bin rfl rfl rfl rfl bAndNot rfl) ?_
      refine GoH.v (Vop.bin (b := U 0#64) rfl rfl rfl rfl bEqU rfl) ?_
      refine GoH.regionEnd ?_
      refine GoH.cond rfl (fun hc => ?_) (fun hc => ?_)
      · -- yes
        refine GoH.region ?_
        refine GoH.v (Vop.mv rfl rfl rfl rfl) ?_
        refine GoH.v (Vop.mv rfl rfl rfl rfl) ?_
        refine GoH.v (Vop.bin (a := U 1#64) rfl rfl rfl rfl (bShl _ rfl) rfl) ?_
        refine GoH.v (Vop.bin rfl rfl rfl rfl bOr rfl) ?_
        refine GoH.v (Vop.asg rfl rfl rfl rfl) ?_
        refine GoH.regionEnd ?_
        refine GoH.inBlock ?_
        refine GoH.region ?_
        refine GoH.v (Vop.bin rfl rfl rfl rfl (bAdd (by omega)) rfl) ?_
        refine GoH.v (Vop.mv rfl rfl rfl rfl) ?_
        refine GoH.regionEnd ?_
        exact IH (k + 1) _ _ hlt (by omega) ⟨rfl, rfl, by rw [upTo, if_pos hc]; rfl, rfl, rfl, trivial⟩ .slnil
      · -- no
        refine GoH.skip ?_
        refine GoH.inBlock ?_
        refine GoH.region ?_
        refine GoH.v (Vop.bin rfl rfl rfl rfl (bAdd (by omega)) rfl) ?_
        refine GoH.v (Vop.mv rfl rfl rfl rfl) ?_
        refine GoH.regionEnd ?_
        exact IH (k + 1) _ _ hlt (by omega) ⟨rfl, rfl, by rw [upTo, if_neg (by rw [hc]; exact Bool.false_ne_true)]; rfl, rfl, rfl, trivial⟩ .slnil
    · -- no
      have hge : ¬ k < r.length := by simpa using hc
      obtain rfl : k = r.length := by omega
      refine GoH.exit rfl ?_
      refine GoH.seq ?_
      refine GoH.region ?_
      refine GoH.v (Vop.mv rfl rfl rfl rfl) ?_
      refine GoH.v (Vop.asg rfl rfl rfl rfl) ?_
      refine GoH.regionEnd ?_
      refine GoH.ret Tryd.f58 Tryd.func58 rfl (fun w' hS => ?_)
      exact ⟨hS.ext, by rw [boxR, if_neg h1]; rfl⟩

def diaR (r : List W64) (s : W64) : W64 := if checkR r.length r ≠ 0 then 0#64 else allW r.length &&& ~~~ (boxR r (~~~s))
theorem diamond_c (a : Option Addr) (ca : Nat) (r : List W64) (s : W64) (w : World) (ha : SlU w a r) (hl : r.length ≤ maxLen) :
    Cn Tryd.prog 59 [.slice a r.length ca, U s] w (fun v _ => v = U (diaR r s)) := by
  refine Cn.of Tryd.func59 rfl rfl ?_
  refine GoH.seq ?_
  refine GoH.region ?_
  refine GoH.v (Vop.asg (v := U 0#64) rfl rfl rfl rfl) ?_
  refine GoH.regionEnd ?_
  refine GoH.seq ?_
  refine GoH.seq ?_
  refine GoH.region ?_
  refine GoH.v (Vop.mv rfl rfl rfl rfl) ?_
  refine GoH.v (Vop.blt rfl rfl rfl (blt_len_slice Tryd.underlying22) rfl) ?_
  refine GoH.v (Vop.mv rfl rfl rfl rfl) ?_
  refine GoH.callP rfl rfl rfl rfl rfl (fun _ _ => Tryd.call27 _ _) (fun w _ hS => check_c _ a ca r w (ha.ex0 hS.ext) hl) ?_
  refine GoH.v (Vop.bin rfl rfl rfl rfl bNe rfl) ?_
  refine GoH.regionEnd ?_
  refine GoH.cond rfl (fun hc => ?_) (fun hc => ?_)
  · -- yes
    have h1 : checkR r.length r ≠ 0 := by simpa using hc
    refine GoH.seq ?_
    refine GoH.region ?_
    refine GoH.v (Vop.asg (v := U 0#64) rfl rfl rfl rfl) ?_
    refine GoH.regionEnd ?_
    refine GoH.ret Tryd.f59 Tryd.func59 rfl (fun w' hS => ?_)
    exact ⟨hS.ext, by rw [diaR, if_pos h1]; rfl⟩
  · -- no
    have h1 : ¬ checkR r.length r ≠ 0 := by simpa using hc
    refine GoH.skip ?_
    refine GoH.seq ?_
    refine GoH.region ?_
    refine GoH.v (Vop.mv rfl rfl rfl rfl) ?_
    refine GoH.v (Vop.blt rfl rfl rfl (blt_len_slice Tryd.underlying22) rfl) ?_
    refine GoH.callP rfl rfl rfl rfl rfl (fun _ _ => Tryd.call52 _ _) (fun w _ hS => all_c _ w (check_zero.1 (by simpa using h1)).len) ?_
    refine GoH.v (Vop.mv rfl rfl rfl rfl) ?_
    refine GoH.v (Vop.mv rfl rfl rfl rfl) ?_
    refine GoH.v (Vop.un rfl rfl rfl uXorU rfl) ?_
    refine GoH.callP rfl rfl rfl rfl rfl (fun _ _ => Tryd.call58 _ _) (fun w _ hS => box_c a ca r _ w (ha.ex0 hS.ext) hl) ?_
    refine GoH.v (Vop.bin rfl rfl rfl rfl bAndNot rfl) ?_
    refine GoH.v (Vop.asg rfl rfl rfl rfl) ?_
    refine GoH.regionEnd ?_
    refine GoH.ret Tryd.f59 Tryd.func59 rfl (fun w' hS => ?_)
    exact ⟨hS.ext, by rw [diaR, if_neg h1]; rfl⟩

/-- o is the least set that contains what a step leads to from s0, and what a step leads to from it -/
structure LeastReach (r : List W64) (s0 o : W64) : Prop where
  base : mapR r s0 &&& ~~~o = 0#64
  step : mapR r o &&& ~~~o = 0#64
  least : ∀ c, mapR r s0 &&& ~~~c = 0#64 → mapR r c &&& ~~~c = 0#64 → o &&& ~~~c = 0#64
/-- what Reach gives -/
def ReachIs (r : List W64) (s o : W64) : Prop := if checkR r.length r ≠ 0 then o = 0#64 else LeastReach r (s &&& allW r.length) o
theorem index_c (a : Option Addr) (ca : Nat) (r : List W64) (s : W64) (w : World) (ha : SlU w a r) (hl : r.length ≤ maxLen) :
    Cn Tryd.prog 80 [.slice a r.length ca, U s] w (fun v _ => ∃ j : Int, v = .int .i64 j ∧ (0 ≤ j ↔ s ∈ r)) := by
  have hl' := hl
  unfold maxLen at hl'
  refine Cn.of Tryd.func80 rfl rfl ?_
  refine GoH.seq ?_
  refine GoH.region ?_
  refine GoH.v (Vop.asg rfl rfl rfl rfl) ?_
  refine GoH.regionEnd ?_
  refine GoH.seq ?_
  refine GoH.seq ?_
  refine GoH.region ?_
  refine GoH.v (Vop.mv rfl rfl rfl rfl) ?_
  refine GoH.v (Vop.blt rfl rfl rfl (blt_len_slice Tryd.underlying22) rfl) ?_
  refine GoH.v (Vop.mv rfl rfl rfl rfl) ?_
  refine GoH.regionEnd ?_
  refine GoH.block ?_
  refine GoH.loop (σ := Nat) (fun k => [(0, .slice a r.length ca), (1, U s), (7, .int .i64 r.length), (8, .int .i64 k)]) (fun _ => [])
    (fun k => k ≤ r.length ∧ ∀ j, j < k → r.getD j 0#64 ≠ s) (fun k => r.length - k) 0 ⟨Nat.zero_le _, fun j hj => by omega⟩ ⟨rfl, rfl, rfl, rfl, trivial⟩ .slnil (fun k hI IH => ?_)
  obtain ⟨hk, hno⟩ := hI
  refine GoH.seq ?_
  refine GoH.region ?_
  refine GoH.v (Vop.bin rfl rfl rfl rfl bLt rfl) ?_
  refine GoH.regionEnd ?_
  refine GoH.seq ?_
  refine GoH.cond rfl (fun hc => ?_) (fun hc => ?_)
  · -- yes
    have hlt : k < r.length := by simpa using hc
    refine GoH.skip ?_
    refine GoH.seq ?_
    refine GoH.block ?_
    refine GoH.seq ?_
    refine GoH.region ?_
    refine GoH.v (Vop.mv rfl rfl rfl rfl) ?_
    refine GoH.v (Vop.asg rfl rfl rfl rfl) ?_
    refine GoH.regionEnd ?_
    refine GoH.seq ?_
    refine GoH.region ?_
    refine GoH.v (Vop.mv rfl rfl rfl rfl) ?_
    refine GoH.v (Vop.mv rfl rfl rfl rfl) ?_
    refine GoH.v (Vop.mv rfl rfl rfl rfl) ?_
    refine GoH.v (Vop.idx rfl rfl rfl rfl rfl Tryd.underlying22 Tryd.sizeOf41 ⟨_, ha⟩ (by simp) (k) ⟨rfl, by simpa using hlt⟩) ?_
    refine GoH.v (Vop.ld rfl rfl rfl rfl Tryd.isAgg41 (fun w _ hS => (SlU.ex0 ha hS.ext).at (k) hlt)) ?_
    refine GoH.v (Vop.bin rfl rfl rfl rfl bEqU rfl) ?_
    refine GoH.regionEnd ?_
    refine GoH.cond rfl (fun hc => ?_) (fun hc => ?_)
    · -- yes
      have h1 : s = r.getD k 0#64 := by simpa using hc
      refine GoH.seq ?_
      refine GoH.region ?_
      refine GoH.v (Vop.mv rfl rfl rfl rfl) ?_
      refine GoH.v (Vop.asg rfl rfl rfl rfl) ?_
      refine GoH.regionEnd ?_
      refine GoH.ret Tryd.f80 Tryd.func80 rfl (fun w' hS => ?_)
      exact ⟨hS.ext, _, rfl, ⟨fun _ => by rw [h1]; simp [List.getD_eq_getElem?_getD, hlt], fun _ => by omega⟩⟩
    · -- no
      have h1 : s ≠ r.getD k 0#64 := by simpa using hc
      refine GoH.skip ?_
      refine GoH.inBlock ?_
      refine GoH.region ?_
      refine GoH.v (Vop.bin rfl rfl rfl rfl (bAdd (by omega)) rfl) ?_
      refine GoH.v (Vop.mv rfl rfl rfl rfl) ?_
      refine GoH.regionEnd ?_
      exact IH (k + 1) _ _ ⟨hlt, fun j hj => by
      by_cases e : j = k
      · subst e; exact Ne.symm h1
      · exact hno j (by omega)⟩ (by omega) ⟨rfl, rfl, rfl, rfl, trivial⟩ .slnil
  · -- no
    have hge : ¬ k < r.length := by simpa using hc
    obtain rfl : k = r.length := by omega
    refine GoH.exit rfl ?_
    refine GoH.seq ?_
    refine GoH.region ?_
    refine GoH.v (Vop.asg rfl rfl rfl rfl) ?_
    refine GoH.regionEnd ?_
    refine GoH.ret Tryd.f80 Tryd.func80 rfl (fun w' hS => ?_)
    exact ⟨hS.ext, _, rfl, ⟨fun h => by omega, fun h => by
    obtain ⟨j, hj, e⟩ := List.mem_iff_getElem.1 h
    exact absurd (by simp [List.getD_eq_getElem?_getD, hj, e]) (hno j hj)⟩⟩

theorem contains_c (a : Option Addr) (ca : Nat) (r : List W64) (s : W64) (w : World) (ha : SlU w a r) (hl : r.length ≤ maxLen) :
    Cn Tryd.prog 53 [.slice a r.length ca, U s] w (fun v _ => v = .bool (decide (s ∈ r))) := by
  refine Cn.of Tryd.func53 rfl rfl ?_
  refine GoH.seq ?_
  refine GoH.region ?_
  refine GoH.v (Vop.asg rfl rfl rfl rfl) ?_
  refine GoH.regionEnd ?_
  refine GoH.seq ?_
  refine GoH.region ?_
  refine GoH.v (Vop.mv rfl rfl rfl rfl) ?_
  refine GoH.v (Vop.mv rfl rfl rfl rfl) ?_
  refine GoH.callM _ rfl rfl rfl rfl rfl (fun _ _ => Tryd.call80 _ _) (fun w _ hS => index_c a ca r s w (ha.ex0 hS.ext) hl) ?_
  rintro v w1 w2 Y' hS he ⟨j, rfl, hj⟩
  refine ⟨_, hS.later he, ?_⟩
  refine GoH.v (Vop.bin rfl rfl rfl rfl bGe rfl) ?_
  refine GoH.v (Vop.asg rfl rfl rfl rfl) ?_
  refine GoH.regionEnd ?_
  refine GoH.ret Tryd.f53 Tryd.func53 rfl (fun w' hS => ?_)
  exact ⟨hS.ext, by show Value.bool (decide (j ≥ 0)) = _; congr 1; rw [decide_eq_decide]; exact hj⟩
end Go.Proofs.YticlcpkcohdpfaaDoor
