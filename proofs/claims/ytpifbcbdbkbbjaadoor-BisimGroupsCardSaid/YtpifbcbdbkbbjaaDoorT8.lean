/- Contracts of functions of the program: what each call returns and that nothing else of memory is turned, under the conditions that each theorem states. -/
import Derived.Test.YtpifbcbdbkbbjaaDoorT7
import Derived.Test.YtpifbcbdbkbbjaaDoorWB
namespace Go.Proofs.YtpifbcbdbkbbjaaDoor
open Go.RowKit Go.Proofs.Wit

/-- a step function turns the list that it is given, by g -/
def StepC (gf : FuncId) (g : List W64 → List W64) : Prop :=
  ∀ (q : Option Nat) (cap : Nat) (xs : List W64) (sp : List Value) (w : World), Tab w → (∀ b, q = some b → gTab ≠ b) → Val xs → (q = none → xs.length = 0 ∧ cap = 0) → (∀ b, q = some b → w.heap[b]? = some (ob U 44 xs sp)) →
    CnT Tryd.prog gf [osv q xs.length cap] w q (fun _ w' => ∀ b, q = some b → w'.heap[b]? = some (ob U 44 (g xs) sp))

/-- what grow gives: an owned list with the code of the relation, or the least relation that the step leaves -/
def Grown (F : List W64 → Prop) (r : List W64) (p : List W64 × Int) : Prop :=
  if checkR r.length r ≠ 0 then p = ([], checkR r.length r) else p.2 = 0 ∧ Least F r p.1
end Go.Proofs.YtpifbcbdbkbbjaaDoor
