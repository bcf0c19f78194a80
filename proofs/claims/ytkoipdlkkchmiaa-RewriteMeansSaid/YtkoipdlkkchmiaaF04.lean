/- What calls of the program return, under the conditions that each theorem states. -/
import Derived.Test.YtkoipdlkkchmiaaF02
import Derived.Test.YtkoipdlkkchmiaaProg
import Derived.Test.YtkoipdlkkchmiaaF03
namespace Go.Proofs.Ytkoipdlkkchmiaa
open Go.RowKit Go.Proofs.Wit
theorem mixed : Try.prog.follows .mixedOrders = true := by kernel_rfl

theorem infoI : (Try.prog.info? 3).map (fun i => (i.zero, i.size, i.bytes)) = some (some (.int .i64 0), 1, 8) := by kernel_rfl
end Go.Proofs.Ytkoipdlkkchmiaa
namespace Go.Proofs.Ytkoipdlkkchmiaa
open Go.RowKit Go.Proofs.Wit
/-- o is the least set that contains what a step leads to from s0, and what a step leads to from it -/
structure LeastReach (r : List W64) (s0 o : W64) : Prop where
  base : mapR r s0 &&& ~~~o = 0#64
  step : mapR r o &&& ~~~o = 0#64
  least : ∀ c, mapR r s0 &&& ~~~c = 0#64 → mapR r c &&& ~~~c = 0#64 → o &&& ~~~c = 0#64
end Go.Proofs.Ytkoipdlkkchmiaa
namespace Go.Proofs.Ytkoipdlkkchmiaa
open Go.RowKit Go.Proofs.Wit
/-! the library's searches by a function -/
theorem any_of_ix {α : Type} {xs : List α} {p : α → Bool} {j : Int} (h : (j = -1 ∧ ∀ x ∈ xs, p x = false) ∨ ∃ (k : Nat) (x : α), j = k ∧ xs[k]? = some x ∧ p x = true ∧ ∀ i y, i < k → xs[i]? = some y → p y = false) : xs.any p = decide (j ≥ 0) := by
  rcases h with ⟨rfl, h⟩ | ⟨k, x, rfl, h1, h2, _⟩
  · rw [show decide ((-1 : Int) ≥ 0) = false from rfl, List.any_eq_false]; exact fun x hx => by rw [h x hx]; simp
  · rw [decide_eq_true (by omega), List.any_eq_true]; exact ⟨x, List.mem_of_getElem? h1, h2⟩

end Go.Proofs.Ytkoipdlkkchmiaa
namespace Go.Proofs.Ytkoipdlkkchmiaa
open Go.RowKit Go.Proofs.Wit
/-! closing a relation to a logic -/
/-- where the relation lies that is being closed: still where it came from, or in a block of one's own -/
structure CurAt (a : Option Addr) (ca : Nat) (r : List W64) (A : Option Addr) (cA : Nat) (cur : List W64) (q : Option Nat) (sp : List Value) : Prop where
  cap : cur.length ≤ cA
  at_ : (A = a ∧ cur = r) ∨ (A = q.map (fun b => ⟨b, 0, none⟩) ∧ (q = none → cur.length = 0))
end Go.Proofs.Ytkoipdlkkchmiaa
