/- What calls of the program return, under the conditions that each theorem states. -/
import Derived.Test.YtlihcmknfdckdaaDoorR22
import Derived.Test.YtlihcmknfdckdaaDoorR20
import Derived.Test.YtlihcmknfdckdaaDoorR17
import Derived.Test.YtlihcmknfdckdaaDoorR23
import Derived.Test.YtlihcmknfdckdaaDoorR16
import Derived.Test.YtlihcmknfdckdaaDoorR04
namespace Go.Proofs.YtlihcmknfdckdaaDoor
open Go.RowKit Go.Proofs.Wit
/-! conjunctions of the reference -/
def fldA (t : Tr) (ts : List Tr) : Tr := ts.foldl (fun a b => .bin 5 0 0 0 a b) t
end Go.Proofs.YtlihcmknfdckdaaDoor
