/- Contracts of functions of the program: what each call returns and that nothing else of memory is turned, under the conditions that each theorem states. -/
import Derived.Test.YtbjopkllkoomkaaDoorR1
import Derived.Test.YtbjopkllkoomkaaDoorWB
namespace Go.Proofs.YtbjopkllkoomkaaDoor
open Go.RowKit Go.Proofs.Wit
/-! the reference, 2 -/
end Go.Proofs.YtbjopkllkoomkaaDoor
