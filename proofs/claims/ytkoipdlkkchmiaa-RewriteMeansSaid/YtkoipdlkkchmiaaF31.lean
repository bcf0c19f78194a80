/- What calls of the program return, under the conditions that each theorem states. -/
import Derived.Test.YtkoipdlkkchmiaaF29
import Derived.Test.YtkoipdlkkchmiaaF30
import Derived.Test.YtkoipdlkkchmiaaF10
import Derived.Test.YtkoipdlkkchmiaaRows
import Derived.Test.YtkoipdlkkchmiaaF03
namespace Go.Proofs.Ytkoipdlkkchmiaa
open Go Go.RowKit Go.ChangeShapes Go.WideShapes Go.ChangeAt Go.Proofs.Wit
/-! from the contracts to the rows -/
theorem ownK : ownKnob Try.prog.godebug = none := by kernel_rfl
theorem laidOk : laidOutB Try.prog = true := by kernel_rfl
end Go.Proofs.Ytkoipdlkkchmiaa
