/- What calls of the program return, under the conditions that each theorem states. -/
import Derived.Test.YtnfmegcknckahaaGreatDoorXO04
import Derived.Test.YtnfmegcknckahaaGreatDoorXO02
import Derived.Test.YtnfmegcknckahaaGreatDoorXO05
import Derived.Test.YtnfmegcknckahaaGreatDoorXO13
import Derived.Test.YtnfmegcknckahaaGreatDoorXO38
import Derived.Test.YtnfmegcknckahaaGreatDoorXO03
import Derived.Test.YtnfmegcknckahaaGreatDoorXO16
namespace Go.Proofs.YtnfmegcknckahaaGreatDoor
open Go.RowKit Go.Proofs.Wit Tryz
/-- the letters that lie in the array -/
structure I5 (x u:ax) (L:List UInt8) (i:Nat):Prop where
  len:L.length=65
  lo:50≤i
  hi:i≤65
  sm:u.toNat<16^(i - 49)
  IT:DH x.toNat=DH u.toNat++L.drop i
end Go.Proofs.YtnfmegcknckahaaGreatDoor
namespace Go.Proofs.YtnfmegcknckahaaGreatDoor
open Go.RowKit Go.Proofs.Wit Tryz
/-- relations of n worlds, as a list of lists in memory -/
structure HS (w:World) (n:Nat) (ra:Option Addr) (rows:List Row):Prop where
  rel:HP w ra rows
  row:∀r∈rows,r.At w∧xe r.xs∧r.xs.length=n
  len:rows.length≤20
end Go.Proofs.YtnfmegcknckahaaGreatDoor
namespace Go.Proofs.YtnfmegcknckahaaGreatDoor
open Go.RowKit Go.Proofs.Wit Tryz
theorem oA (f:List NV):bd (aj f):=by
 by_cases h:aV f=0
 ·exact (iy h).nodes
 rw [aj,if_pos h];intro i hi;exact absurd hi (Nat.not_lt_zero _)
end Go.Proofs.YtnfmegcknckahaaGreatDoor
