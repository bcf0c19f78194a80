/- Contracts of functions of the program: what each call returns and that nothing else of memory is turned, under the conditions that each theorem states. -/
import Derived.Test.YtbjopkllkoomkaaDoorF12
import Derived.Test.YtbjopkllkoomkaaDoorWD
namespace Go.Proofs.YtbjopkllkoomkaaDoor
open Go.RowKit Go.Proofs.Wit
/-! the laws of chapter 15, 2 -/
theorem boxR_v {r : List W64} {s : W64} (hv : Val r) : boxR r s = boxU r s r.length := by rw [boxR, if_neg (by simp [check_zero.2 hv])]; rfl
theorem diaR_v {r : List W64} {s : W64} (hv : Val r) : diaR r s = diaU r s r.length := by rw [diaR, if_neg (by simp [check_zero.2 hv]), boxR_v hv]; exact dia_eq hv
end Go.Proofs.YtbjopkllkoomkaaDoor
