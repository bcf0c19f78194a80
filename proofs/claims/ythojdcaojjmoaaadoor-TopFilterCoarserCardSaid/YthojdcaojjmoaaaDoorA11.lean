/- What calls of the program return, under the conditions that each theorem states. -/
import Derived.Test.YthojdcaojjmoaaaDoorA09
import Derived.Test.YthojdcaojjmoaaaDoorA10
import Derived.Test.YthojdcaojjmoaaaDoorA04
namespace Go.Proofs.YthojdcaojjmoaaaDoor
open Go.RowKit Go.Proofs.Wit
theorem relD {m : MV} {i : Nat} (h : i < m.rows.length) : m.rel.getD i [] = m.rows[i].xs := by simp [MV.rel, List.getD_eq_getElem?_getD, h]
end Go.Proofs.YthojdcaojjmoaaaDoor
