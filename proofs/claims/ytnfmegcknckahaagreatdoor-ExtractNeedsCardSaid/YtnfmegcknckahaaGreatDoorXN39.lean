/- What calls of the program return, under the conditions that each theorem states. -/
import Derived.Test.YtnfmegcknckahaaGreatDoorXN04
import Derived.Test.YtnfmegcknckahaaGreatDoorXN02
import Derived.Test.YtnfmegcknckahaaGreatDoorXN05
import Derived.Test.YtnfmegcknckahaaGreatDoorXN13
import Derived.Test.YtnfmegcknckahaaGreatDoorXN38
import Derived.Test.YtnfmegcknckahaaGreatDoorXN03
import Derived.Test.YtnfmegcknckahaaGreatDoorXN16
namespace Go.Proofs.YtnfmegcknckahaaGreatDoor
open Go.RowKit Go.Proofs.Wit Tryz
/-- the letters that lie in the array -/
structure Ja (x u:ay) (L:List UInt8) (i:Nat):Prop where
  len:L.length=65
  lo:50≤i
  hi:i≤65
  sm:u.toNat<16^(i - 49)
  IZ:DP x.toNat=DP u.toNat++L.drop i
end Go.Proofs.YtnfmegcknckahaaGreatDoor
namespace Go.Proofs.YtnfmegcknckahaaGreatDoor
open Go.RowKit Go.Proofs.Wit Tryz
/-- relations of n worlds, as a list of lists in memory -/
structure H0 (w:World) (n:Nat) (ra:Option Addr) (rows:List Row):Prop where
  rel:HY w ra rows
  row:∀r∈rows,r.At w∧xj r.xs∧r.xs.length=n
  len:rows.length≤20
end Go.Proofs.YtnfmegcknckahaaGreatDoor
namespace Go.Proofs.YtnfmegcknckahaaGreatDoor
open Go.RowKit Go.Proofs.Wit Tryz
theorem ox (f:List NV):aZ (aj f):=by
 by_cases h:aV f=0
 ·exact (iy h).nodes
 rw [aj,if_pos h];intro i hi;exact absurd hi (Nat.not_lt_zero _)
end Go.Proofs.YtnfmegcknckahaaGreatDoor
