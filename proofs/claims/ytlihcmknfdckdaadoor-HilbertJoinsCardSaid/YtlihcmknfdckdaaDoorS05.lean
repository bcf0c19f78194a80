/- What calls of the program return, under the conditions that each theorem states. -/
import Derived.Test.YtlihcmknfdckdaaDoorS02
import Derived.Test.YtlihcmknfdckdaaDoorProg
import Derived.Test.YtlihcmknfdckdaaDoorS04
import Derived.Test.YtlihcmknfdckdaaDoorS03
namespace Go.Proofs.YtlihcmknfdckdaaDoor
open Go.RowKit Go.Proofs.Wit Tryd
/-- the library's table of bit positions -/
abbrev gTab : Nat := 0
abbrev Tab := TabAt gTab
theorem mixed : Tryd.prog.follows .mixedOrders = true := by kernel_rfl
theorem infoI : (Tryd.prog.info? 3).map (fun i => (i.zero, i.size, i.bytes)) = some (some (.int .i64 0), 1, 8) := by kernel_rfl
end Go.Proofs.YtlihcmknfdckdaaDoor
namespace Go.Proofs.YtlihcmknfdckdaaDoor
open Go.RowKit Go.Proofs.Wit Tryd
/-- o is the least set that contains what a step leads to from s0, and what a step leads to from it -/
structure LeastReach (r : List W64) (s0 o : W64) : Prop where
  base : mapR r s0 &&& ~~~o = 0#64
  step : mapR r o &&& ~~~o = 0#64
  least : ∀ c, mapR r s0 &&& ~~~c = 0#64 → mapR r c &&& ~~~c = 0#64 → o &&& ~~~c = 0#64
end Go.Proofs.YtlihcmknfdckdaaDoor
namespace Go.Proofs.YtlihcmknfdckdaaDoor
open Go.RowKit Go.Proofs.Wit Tryd
/-- a step function turns the list that it is given, by g -/
def StepC (gf : FuncId) (g : List W64 → List W64) : Prop :=
 ∀ (q : Option Nat) (cap : Nat) (xs : List W64) (sp : List Value) (w : World), Tab w → (∀ b, q = some b → gTab ≠ b) → Val xs → (q = none → xs.length = 0 ∧ cap = 0) → (∀ b, q = some b → w.heap[b]? = some (ob U 37 xs sp)) →
  CnT Tryd.prog gf [osv q xs.length cap] w q (fun _ w' => ∀ b, q = some b → w'.heap[b]? = some (ob U 37 (g xs) sp))
end Go.Proofs.YtlihcmknfdckdaaDoor
namespace Go.Proofs.YtlihcmknfdckdaaDoor
open Go.RowKit Go.Proofs.Wit Tryd
/-! closing a relation to a logic -/
/-- where the relation lies that is being closed: still where it came from, or in a block of one's own -/
structure CurAt (a : Option Addr) (ca : Nat) (r : List W64) (A : Option Addr) (cA : Nat) (cur : List W64) (q : Option Nat) (sp : List Value) : Prop where
  cap : cur.length ≤ cA
  at_ : (A = a ∧ cur = r) ∨ (A = q.map (fun b => ⟨b, 0, none⟩) ∧ (q = none → cur.length = 0))
end Go.Proofs.YtlihcmknfdckdaaDoor
