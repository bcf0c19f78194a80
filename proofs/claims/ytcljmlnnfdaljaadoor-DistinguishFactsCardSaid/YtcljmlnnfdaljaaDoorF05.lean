/- What calls of the program return, under the conditions that each theorem states. -/
import Derived.Test.YtcljmlnnfdaljaaDoorF03
import Derived.Test.YtcljmlnnfdaljaaDoorF04
namespace Go.Proofs.YtcljmlnnfdaljaaDoor
open Go.RowKit Go.Proofs.Wit
/-- what grow gives: an owned list with the code of the relation, or the least relation that the step leaves -/
def Grown (F : List W64 → Prop) (r : List W64) (p : List W64 × Int) : Prop :=
  if checkR r.length r ≠ 0 then p = ([], checkR r.length r) else p.2 = 0 ∧ Least F r p.1
end Go.Proofs.YtcljmlnnfdaljaaDoor
