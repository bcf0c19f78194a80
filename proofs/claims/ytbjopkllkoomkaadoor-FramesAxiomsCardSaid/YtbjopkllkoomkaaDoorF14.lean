/- Contracts of functions of the program: what each call returns and that nothing else of memory is turned, under the conditions that each theorem states. -/
import Derived.Test.YtbjopkllkoomkaaDoorF13
import Derived.Test.YtbjopkllkoomkaaDoorWE
namespace Go.Proofs.YtbjopkllkoomkaaDoor
open Go.RowKit Go.Proofs.Wit
/-! the laws of chapter 15, 3 -/
end Go.Proofs.YtbjopkllkoomkaaDoor
