/- Contracts of functions of the program: what each call returns and that nothing else of memory is turned, under the conditions that each theorem states. -/
import Derived.Test.YtbjopkllkoomkaaDoorT6
namespace Go.Proofs.YtbjopkllkoomkaaDoor
open Go.RowKit Go.Proofs.Wit

def boxR (r : List W64) (s : W64) : W64 := if checkR r.length r ≠ 0 then 0#64 else upTo (fun w out => if r.getD w 0#64 &&& ~~~s == 0#64 then out ||| 1#64 <<< w else out) 0#64 r.length
def diaR (r : List W64) (s : W64) : W64 := if checkR r.length r ≠ 0 then 0#64 else allW r.length &&& ~~~ (boxR r (~~~s))
/-- o is the least set that contains what a step leads to from s0, and what a step leads to from it -/
structure LeastReach (r : List W64) (s0 o : W64) : Prop where
  base : mapR r s0 &&& ~~~o = 0#64
  step : mapR r o &&& ~~~o = 0#64
  least : ∀ c, mapR r s0 &&& ~~~c = 0#64 → mapR r c &&& ~~~c = 0#64 → o &&& ~~~c = 0#64
/-- what Reach gives -/
def ReachIs (r : List W64) (s o : W64) : Prop := if checkR r.length r ≠ 0 then o = 0#64 else LeastReach r (s &&& allW r.length) o
theorem index_c (a : Option Addr) (ca : Nat) (r : List W64) (s : W64) (w : World) (ha : SlU w a r) (hl : r.length ≤ maxLen) :
    Cn Tryd.prog 69 [.slice a r.length ca, U s] w (fun v _ => ∃ j : Int, v = .int .i64 j ∧ (0 ≤ j ↔ s ∈ r)) := by
  have hl' := hl
  unfold maxLen at hl'
  refine Cn.of Tryd.func69 rfl rfl ?_
  refine GoH.seq ?_
  refine GoH.region ?_
  refine GoH.v (Vop.asg rfl rfl rfl rfl) ?_
  refine GoH.regionEnd ?_
  refine GoH.seq ?_
  refine GoH.seq ?_
  refine GoH.region ?_
  refine GoH.v (Vop.mv rfl rfl rfl rfl) ?_
  refine GoH.v (Vop.blt rfl rfl rfl (blt_len_slice Tryd.underlying22) rfl) ?_
  refine GoH.v (Vop.mv rfl rfl rfl rfl) ?_
  refine GoH.regionEnd ?_
  refine GoH.block ?_
  refine GoH.loop (σ := Nat) (fun k => [(0, .slice a r.length ca), (1, U s), (7, .int .i64 r.length), (8, .int .i64 k)]) (fun _ => [])
    (fun k => k ≤ r.length ∧ ∀ j, j < k → r.getD j 0#64 ≠ s) (fun k => r.length - k) 0 ⟨Nat.zero_le _, fun j hj => by omega⟩ ⟨rfl, rfl, rfl, rfl, trivial⟩ .slnil (fun k hI IH => ?_)
  obtain ⟨hk, hno⟩ := hI
  refine GoH.seq ?_
  refine GoH.region ?_
  refine GoH.v (Vop.bin rfl rfl rfl rfl bLt rfl) ?_
  refine GoH.regionEnd ?_
  refine GoH.seq ?_
  refine GoH.cond rfl (fun hc => ?_) (fun hc => ?_)
  · -- yes
    have hlt : k < r.length := by simpa using hc
    refine GoH.skip ?_
    refine GoH.seq ?_
    refine GoH.block ?_
    refine GoH.seq ?_
    refine GoH.region ?_
    refine GoH.v (Vop.mv rfl rfl rfl rfl) ?_
    refine GoH.v (Vop.asg rfl rfl rfl rfl) ?_
    refine GoH.regionEnd ?_
    refine GoH.seq ?_
    refine GoH.region ?_
    refine GoH.v (Vop.mv rfl rfl rfl rfl) ?_
    refine GoH.v (Vop.mv rfl rfl rfl rfl) ?_
    refine GoH.v (Vop.mv rfl rfl rfl rfl) ?_
    refine GoH.v (Vop.idx rfl rfl rfl rfl rfl Tryd.underlying22 Tryd.sizeOf28 ⟨_, ha⟩ (by simp) (k) ⟨rfl, by simpa using hlt⟩) ?_
    refine GoH.v (Vop.ld rfl rfl rfl rfl Tryd.isAgg28 (fun w _ hS => (SlU.ex0 ha hS.ext).at (k) hlt)) ?_
    refine GoH.v (Vop.bin rfl rfl rfl rfl bEqU rfl) ?_
    refine GoH.regionEnd ?_
    refine GoH.cond rfl (fun hc => ?_) (fun hc => ?_)
    · -- yes
      have h1 : s = r.getD k 0#64 := by simpa using hc
      refine GoH.seq ?_
      refine GoH.region ?_
      refine GoH.v (Vop.mv rfl rfl rfl rfl) ?_
      refine GoH.v (Vop.asg rfl rfl rfl rfl) ?_
      refine GoH.regionEnd ?_
      refine GoH.ret Tryd.f69 Tryd.func69 rfl (fun w' hS => ?_)
      exact ⟨hS.ext, _, rfl, ⟨fun _ => by rw [h1]; simp [List.getD_eq_getElem?_getD, hlt], fun _ => by omega⟩⟩
    · -- no
      have h1 : s ≠ r.getD k 0#64 := by simpa using hc
      refine GoH.skip ?_
      refine GoH.inBlock ?_
      refine GoH.region ?_
      refine GoH.v (Vop.bin rfl rfl rfl rfl (bAdd (by omega)) rfl) ?_
      refine GoH.v (Vop.mv rfl rfl rfl rfl) ?_
      refine GoH.regionEnd ?_
      exact IH (k + 1) _ _ ⟨hlt, fun j hj => by
      by_cases e : j = k
      · subst e; exact Ne.symm h1
      · exact hno j (by omega)⟩ (by omega) ⟨rfl, rfl, rfl, rfl, trivial⟩ .slnil
  · -- no
    have hge : ¬ k < r.length := by simpa using hc
    obtain rfl : k = r.length := by omega
    refine GoH.exit rfl ?_
    refine GoH.seq ?_
    refine GoH.region ?_
    refine GoH.v (Vop.asg rfl rfl rfl rfl) ?_
    refine GoH.regionEnd ?_
    refine GoH.ret Tryd.f69 Tryd.func69 rfl (fun w' hS => ?_)
    exact ⟨hS.ext, _, rfl, ⟨fun h => by omega, fun h => by
    obtain ⟨j, hj, e⟩ := List.mem_iff_getElem.1 h
    exact absurd (by simp [List.getD_eq_getElem?_getD, hj, e]) (hno j hj)⟩⟩

theorem contains_c (a : Option Addr) (ca : Nat) (r : List W64) (s : W64) (w : World) (ha : SlU w a r) (hl : r.length ≤ maxLen) :
    Cn Tryd.prog 42 [.slice a r.length ca, U s] w (fun v _ => v = .bool (decide (s ∈ r))) := by
  refine Cn.of Tryd.func42 rfl rfl ?_
  refine GoH.seq ?_
  refine GoH.region ?_
  refine GoH.v (Vop.asg rfl rfl rfl rfl) ?_
  refine GoH.regionEnd ?_
  refine GoH.seq ?_
  refine GoH.region ?_
  refine GoH.v (Vop.mv rfl rfl rfl rfl) ?_
  refine GoH.v (Vop.mv rfl rfl rfl rfl) ?_
  refine GoH.callM _ rfl rfl rfl rfl rfl (fun _ _ => Tryd.call69 _ _) (fun w _ hS => index_c a ca r s w (ha.ex0 hS.ext) hl) ?_
  rintro v w1 w2 Y' hS he ⟨j, rfl, hj⟩
  refine ⟨_, hS.later he, ?_⟩
  refine GoH.v (Vop.bin rfl rfl rfl rfl bGe rfl) ?_
  refine GoH.v (Vop.asg rfl rfl rfl rfl) ?_
  refine GoH.regionEnd ?_
  refine GoH.ret Tryd.f42 Tryd.func42 rfl (fun w' hS => ?_)
  exact ⟨hS.ext, by show Value.bool (decide (j ≥ 0)) = _; congr 1; rw [decide_eq_decide]; exact hj⟩
end Go.Proofs.YtbjopkllkoomkaaDoor
