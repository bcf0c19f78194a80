/- Laws of walks, for any program, under the conditions that each theorem states. -/
import Derived.Test.YtnfmegcknckahaaGreatDoorXO17
namespace Go.Proofs.Wit
open Go Go.RowKit
structure Tk (c:List NV) (r:Nat) (s:List Bool) (o st:List Nat):Prop where
  len:s.length=c.length
  nd:o.Nodup
  mem:∀j,j∈o↔sB s j=true
  lt:∀j∈st,j<c.length
  sub:∀j,j∈o∨j∈st→∀u∈kH (aa c j),u∈kH (aa c r)
  root:r∈o∨r∈st
  cl:∀j∈o,∀hj:j<c.length,lL c[j].op=false→(cF c[j].op=true→c[j].x.toNat∈o∨c[j].x.toNat∈st)∧(cm c[j].op=true→c[j].y.toNat∈o∨c[j].y.toNat∈st)
section
variable {c:List NV} {r i:Nat} {s:List Bool} {o st st':List Nat}
end
end Go.Proofs.Wit
