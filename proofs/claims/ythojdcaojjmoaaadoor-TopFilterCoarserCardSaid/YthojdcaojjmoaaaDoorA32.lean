/- What calls of the program return, under the conditions that each theorem states. -/
import Derived.Test.YthojdcaojjmoaaaDoorA15
import Derived.Test.YthojdcaojjmoaaaDoorA04
import Derived.Test.YthojdcaojjmoaaaDoorA17
import Derived.Test.YthojdcaojjmoaaaDoorA16
import Derived.Test.YthojdcaojjmoaaaDoorA27
namespace Go.Proofs.YthojdcaojjmoaaaDoor
open Go.RowKit Go.Proofs.Wit
theorem compF_nodes (f : List NV) : NodesOk (compF f) := by
  by_cases h : chkF f = 0
  · exact (compF_ok h).nodes
  · rw [compF, if_pos h]; intro i hi; exact absurd hi (Nat.not_lt_zero _)
end Go.Proofs.YthojdcaojjmoaaaDoor
