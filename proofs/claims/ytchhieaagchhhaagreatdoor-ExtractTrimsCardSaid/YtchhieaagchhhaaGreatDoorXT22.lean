/- Laws of walks, for any program, under the conditions that each theorem states. -/
import Derived.Test.YtchhieaagchhhaaGreatDoorXT20
set_option maxRecDepth 100000
set_option maxHeartbeats 4000000
namespace Go.Proofs.Wit
open Go Go.RowKit
structure Tk (c:List NV) (r:Nat) (s:List Bool) (o st:List Nat):Prop where
  len:s.length=c.length
  nd:o.Nodup
  mem:∀j,j∈o↔sB s j=true
  lt:∀j∈st,j<c.length
  sub:∀j,j∈o∨j∈st→∀u∈lX (aa c j),u∈lX (aa c r)
  root:r∈o∨r∈st
  cl:∀j∈o,∀hj:j<c.length,mV c[j].op=false→(dh c[j].op=true→c[j].x.toNat∈o∨c[j].x.toNat∈st)∧(cD c[j].op=true→c[j].y.toNat∈o∨c[j].y.toNat∈st)
section
variable {c:List NV} {r i:Nat} {s:List Bool} {o st st':List Nat}
end
end Go.Proofs.Wit
