/- What calls of the program return, under the conditions that each theorem states. -/
import Derived.Test.YtnfmegcknckahaaGreatDoorXA04
import Derived.Test.YtnfmegcknckahaaGreatDoorXA02
import Derived.Test.YtnfmegcknckahaaGreatDoorXA05
import Derived.Test.YtnfmegcknckahaaGreatDoorXA13
import Derived.Test.YtnfmegcknckahaaGreatDoorXA38
import Derived.Test.YtnfmegcknckahaaGreatDoorXA03
import Derived.Test.YtnfmegcknckahaaGreatDoorXA16
namespace Go.Proofs.YtnfmegcknckahaaGreatDoor
open Go.RowKit Go.Proofs.Wit Tryz
/-- the letters that lie in the array -/
structure Je (x u:aB) (L:List UInt8) (i:Nat):Prop where
  len:L.length=65
  lo:50≤i
  hi:i≤65
  sm:u.toNat<16^(i - 49)
  I3:DU x.toNat=DU u.toNat++L.drop i
end Go.Proofs.YtnfmegcknckahaaGreatDoor
namespace Go.Proofs.YtnfmegcknckahaaGreatDoor
open Go.RowKit Go.Proofs.Wit Tryz
/-- relations of n worlds, as a list of lists in memory -/
structure H7 (w:World) (n:Nat) (ra:Option Addr) (rows:List Row):Prop where
  rel:H5 w ra rows
  row:∀r∈rows,r.At w∧xn r.xs∧r.xs.length=n
  len:rows.length≤20
end Go.Proofs.YtnfmegcknckahaaGreatDoor
namespace Go.Proofs.YtnfmegcknckahaaGreatDoor
open Go.RowKit Go.Proofs.Wit Tryz
theorem oD (f:List NV):aZ (aj f):=by
 by_cases h:aW f=0
 ·exact (iB h).nodes
 rw [aj,if_pos h];intro i hi;exact absurd hi (Nat.not_lt_zero _)
end Go.Proofs.YtnfmegcknckahaaGreatDoor
