/- Laws of walks, for any program, under the conditions that each theorem states. -/
import Derived.Test.YtcljmlnnfdaljaaGreatDoorZ12
namespace Go.Proofs.Wit
/-! the examples of chapter 19 -/
abbrev exV : List W64 := [4#64]
abbrev exM : List (List W64) := [[2#64, 4#64, 4#64]]
theorem ex_chkM : checkM 3 exV exM = 0 := by decide +kernel
end Go.Proofs.Wit
