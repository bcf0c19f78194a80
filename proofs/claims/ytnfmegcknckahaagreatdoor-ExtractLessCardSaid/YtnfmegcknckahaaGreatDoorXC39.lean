/- What calls of the program return, under the conditions that each theorem states. -/
import Derived.Test.YtnfmegcknckahaaGreatDoorXC04
import Derived.Test.YtnfmegcknckahaaGreatDoorXC02
import Derived.Test.YtnfmegcknckahaaGreatDoorXC05
import Derived.Test.YtnfmegcknckahaaGreatDoorXC13
import Derived.Test.YtnfmegcknckahaaGreatDoorXC38
import Derived.Test.YtnfmegcknckahaaGreatDoorXC03
import Derived.Test.YtnfmegcknckahaaGreatDoorXC16
namespace Go.Proofs.YtnfmegcknckahaaGreatDoor
open Go.RowKit Go.Proofs.Wit Tryz
/-- the letters that lie in the array -/
structure Ji (x u:aB) (L:List UInt8) (i:Nat):Prop where
  len:L.length=65
  lo:50≤i
  hi:i≤65
  sm:u.toNat<16^(i - 49)
  I7:DZ x.toNat=DZ u.toNat++L.drop i
end Go.Proofs.YtnfmegcknckahaaGreatDoor
namespace Go.Proofs.YtnfmegcknckahaaGreatDoor
open Go.RowKit Go.Proofs.Wit Tryz
/-- relations of n worlds, as a list of lists in memory -/
structure Ib (w:World) (n:Nat) (ra:Option Addr) (rows:List Row):Prop where
  rel:H9 w ra rows
  row:∀r∈rows,r.At w∧xp r.xs∧r.xs.length=n
  len:rows.length≤20
end Go.Proofs.YtnfmegcknckahaaGreatDoor
namespace Go.Proofs.YtnfmegcknckahaaGreatDoor
open Go.RowKit Go.Proofs.Wit Tryz
theorem oA (f:List NV):aZ (aj f):=by
 by_cases h:aV f=0
 ·exact (iA h).nodes
 rw [aj,if_pos h];intro i hi;exact absurd hi (Nat.not_lt_zero _)
end Go.Proofs.YtnfmegcknckahaaGreatDoor
