/- Laws of a calculus of walks, proved for any program: no condition beyond those that each theorem states. -/
import Derived.Test.YtcljmlnnfdaljaaDoorS21
namespace Go.Proofs.Wit
/-! the examples of chapter 19 -/
abbrev exV : List W64 := [4#64]
abbrev exM : List (List W64) := [[2#64, 4#64, 4#64]]
abbrev exN : List (List W64) := [[1#64, 1#64, 4#64]]
theorem ex_chkM : checkM 3 exV exM = 0 := by decide +kernel
theorem ex_chkN : checkM 3 exV exN = 0 := by decide +kernel
theorem ex_r0 : rnds 3 exV exM 0 = [0, 0, 2] ∧ rndsE 3 exV exM 0 = 0 := by decide +kernel
theorem ex_r1 : rnds 3 exV exM 1 = [0, 1, 2] ∧ rndsE 3 exV exM 1 = 0 := by decide +kernel
theorem ex_d : dpt 3 exV exM = 1 := by decide +kernel
theorem ex_c : crs 3 exV exN = [0, 0, 2] := by decide +kernel
theorem ex_k : dpt 3 exV exN = 0 := by decide +kernel
theorem ex_e : bisE 3 exV exN 3 exV exN 0 1 = 0 := by decide +kernel
theorem ex_n : chkE 3 exV exN 3 exV exN [3#64, 3#64, 4#64] = 0 := by decide +kernel
theorem ex_m : chkE 3 exV exM 3 exV exM [3#64, 3#64, 4#64] = 13 := by decide +kernel
theorem ex_fm : ∀ v : Fin 3, ∀ w : Fin 3, fm exV v.val = fm exV w.val → ([3#64, 3#64, 4#64].getD v.val 0#64).getLsbD w.val = true := by decide +kernel
theorem ex_grt : BetZ 3 exV exN 3 exV exN [3#64, 3#64, 4#64] := by
  obtain ⟨h1, h2, h3, h4⟩ := chkE_zero.1 ex_n
  refine ⟨fun e => absurd h1 e, fun _ => ⟨⟨rfl, (outB_rng (by decide)).1 h3, fun z' e1 e2 e3 v w hr => ?_⟩, h4⟩⟩
  have hv : v < 3 := by have := hr.dom; rw [e1] at this; exact this
  exact ex_fm ⟨v, hv⟩ ⟨w, e2 v w hr⟩ (matB_iff.1 (e3 v w hr)).1
theorem ex_y {y : Bool} (h : BisY 3 exV exN 3 exV exN 0 1 y) : y = true := by rw [h.2 ex_e _ ex_grt]; decide
end Go.Proofs.Wit
