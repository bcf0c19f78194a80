/- What calls of the program return, under the conditions that each theorem states. -/
import Derived.Test.YtkpknmgofmohbaaXC20
import Derived.Test.YtkpknmgofmohbaaXC21
import Derived.Test.YtkpknmgofmohbaaRows
import Derived.Test.YtkpknmgofmohbaaXC03
import Derived.Test.YtkpknmgofmohbaaXC05
namespace Go.Proofs.Ytkpknmgofmohbaa
open Go Go.RowKit Go.ChangeShapes Go.WideShapes Go.ChangeAt Go.Proofs.Wit
theorem ud:ownKnob Try.prog.godebug=none:=by kernel_rfl
theorem rh:laidOutB Try.prog=true:=by kernel_rfl
end Go.Proofs.Ytkpknmgofmohbaa
