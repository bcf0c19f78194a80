/- Contracts of functions of the program: what each call returns and that nothing else of memory is turned, under the conditions that each theorem states. -/
import Derived.Test.YtpifbcbdbkbbjaaDoorT9
import Derived.Test.YtpifbcbdbkbbjaaDoorWB
namespace Go.Proofs.YtpifbcbdbkbbjaaDoor
open Go.RowKit Go.Proofs.Wit
/-! the reference, 1 -/
end Go.Proofs.YtpifbcbdbkbbjaaDoor
