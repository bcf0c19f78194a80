/- What calls of the program return, under the conditions that each theorem states. -/
import Derived.Test.YthojdcaojjmoaaaDoorA11
import Derived.Test.YthojdcaojjmoaaaDoorA12
import Derived.Test.YthojdcaojjmoaaaDoorA04
namespace Go.Proofs.YthojdcaojjmoaaaDoor
open Go.RowKit Go.Proofs.Wit
theorem le_mx {n : Nat} (h : n ≤ 1000) : n ≤ maxLen := by unfold maxLen; omega
end Go.Proofs.YthojdcaojjmoaaaDoor
