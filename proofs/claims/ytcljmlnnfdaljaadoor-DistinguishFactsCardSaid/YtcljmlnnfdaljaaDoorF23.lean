/- What calls of the program return, under the conditions that each theorem states. -/
import Derived.Test.YtcljmlnnfdaljaaDoorF09
namespace Go.Proofs.YtcljmlnnfdaljaaDoor
open Go.RowKit Go.Proofs.Wit
/-- where the relation lies that is being closed: still where it came from, or in a block of one's own -/
structure CurAt (a : Option Addr) (ca : Nat) (r : List W64) (A : Option Addr) (cA : Nat) (cur : List W64) (q : Option Nat) (sp : List Value) : Prop where
  cap : cur.length ≤ cA
  at_ : (A = a ∧ cur = r) ∨ (A = q.map (fun b => ⟨b, 0, none⟩) ∧ (q = none → cur.length = 0))
theorem Grown.least {F : List W64 → Prop} {r : List W64} {p : List W64 × Int} (h : Grown F r p) (hv : Val r) : p.2 = 0 ∧ Least F r p.1 := by
  rw [Grown, if_neg (by rw [check_zero.2 hv]; simp)] at h
  exact h
end Go.Proofs.YtcljmlnnfdaljaaDoor
