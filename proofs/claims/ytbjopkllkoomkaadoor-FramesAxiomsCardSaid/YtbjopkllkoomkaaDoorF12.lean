/- Contracts of functions of the program: what each call returns and that nothing else of memory is turned, under the conditions that each theorem states. -/
import Derived.Test.YtbjopkllkoomkaaDoorF11
import Derived.Test.YtbjopkllkoomkaaDoorWC
namespace Go.Proofs.YtbjopkllkoomkaaDoor
open Go.RowKit Go.Proofs.Wit
/-! the laws of chapter 15, 1 -/
end Go.Proofs.YtbjopkllkoomkaaDoor
