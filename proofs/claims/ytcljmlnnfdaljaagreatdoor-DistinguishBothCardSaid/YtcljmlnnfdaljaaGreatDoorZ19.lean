/- What calls of the program return, under the conditions that each theorem states. -/
import Derived.Test.YtcljmlnnfdaljaaGreatDoorZ05
import Derived.Test.YtcljmlnnfdaljaaGreatDoorZ04
namespace Go.Proofs.YtcljmlnnfdaljaaGreatDoor
open Go.RowKit Go.Proofs.Wit
/-! closing a relation to a logic -/
/-- where the relation lies that is being closed: still where it came from, or in a block of one's own -/
structure CurAt (a : Option Addr) (ca : Nat) (r : List W64) (A : Option Addr) (cA : Nat) (cur : List W64) (q : Option Nat) (sp : List Value) : Prop where
  cap : cur.length ≤ cA
  at_ : (A = a ∧ cur = r) ∨ (A = q.map (fun b => ⟨b, 0, none⟩) ∧ (q = none → cur.length = 0))
end Go.Proofs.YtcljmlnnfdaljaaGreatDoor
