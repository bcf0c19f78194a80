/- What calls of the program return, under the conditions that each theorem states. -/
import Derived.Test.YtlihcmknfdckdaaDoorS05
import Derived.Test.YtlihcmknfdckdaaDoorS02
import Derived.Test.YtlihcmknfdckdaaDoorS03
import Derived.Test.YtlihcmknfdckdaaDoorS06
import Derived.Test.YtlihcmknfdckdaaDoorS14
import Derived.Test.YtlihcmknfdckdaaDoorS34
import Derived.Test.YtlihcmknfdckdaaDoorS04
import Derived.Test.YtlihcmknfdckdaaDoorS18
namespace Go.Proofs.YtlihcmknfdckdaaDoor
open Go.RowKit Go.Proofs.Wit Tryd
/-- the letters that lie in the array -/
structure Fmt (x u : W64) (L : List UInt8) (i : Nat) : Prop where
  len : L.length = 65
  lo : 50 ≤ i
  hi : i ≤ 65
  sm : u.toNat < 16 ^ (i - 49)
  txt : hexN x.toNat = hexN u.toNat ++ L.drop i
end Go.Proofs.YtlihcmknfdckdaaDoor
namespace Go.Proofs.YtlihcmknfdckdaaDoor
open Go.RowKit Go.Proofs.Wit Tryd
/-- relations of n worlds, as a list of lists in memory -/
structure RelAt (w : World) (n : Nat) (ra : Option Addr) (rows : List Row) : Prop where
  rel : SlR w ra rows
  row : ∀ r ∈ rows, r.At w ∧ Val r.xs ∧ r.xs.length = n
  len : rows.length ≤ 20
end Go.Proofs.YtlihcmknfdckdaaDoor
namespace Go.Proofs.YtlihcmknfdckdaaDoor
open Go.RowKit Go.Proofs.Wit Tryd
theorem compF_nodes (f : List NV) : NodesOk (compF f) := by
 by_cases h : chkF f = 0
 ·exact (compF_ok h).nodes
 ·rw [compF, if_pos h]; intro i hi; exact absurd hi (Nat.not_lt_zero _)
end Go.Proofs.YtlihcmknfdckdaaDoor
