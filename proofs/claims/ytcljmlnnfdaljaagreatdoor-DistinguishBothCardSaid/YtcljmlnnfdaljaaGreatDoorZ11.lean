/- What calls of the program return, under the conditions that each theorem states. -/
import Derived.Test.YtcljmlnnfdaljaaGreatDoorZ09
import Derived.Test.YtcljmlnnfdaljaaGreatDoorZ10
import Derived.Test.YtcljmlnnfdaljaaGreatDoorZ04
namespace Go.Proofs.YtcljmlnnfdaljaaGreatDoor
open Go.RowKit Go.Proofs.Wit
theorem relD {m : MV} {i : Nat} (h : i < m.rows.length) : m.rel.getD i [] = m.rows[i].xs := by simp [MV.rel, List.getD_eq_getElem?_getD, h]
end Go.Proofs.YtcljmlnnfdaljaaGreatDoor
