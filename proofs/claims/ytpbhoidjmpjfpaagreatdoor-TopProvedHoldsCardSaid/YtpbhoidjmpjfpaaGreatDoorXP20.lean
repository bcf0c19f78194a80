/- Laws of walks, each under its own conditions. -/
import Derived.Test.YtpbhoidjmpjfpaaGreatDoorXP18
set_option maxRecDepth 100000
set_option maxHeartbeats 40000000
namespace Go.Proofs.Wit
open Go Go.RowKit
structure Tk (c:List NV) (r:Nat) (s:ao) (o st:aq):Prop where
  len:s.length=c.length
  nd:o.Nodup
  mem:∀j,j∈o↔sB s j=true
  lt:∀j∈st,j<c.length
  sub:∀j,j∈o\/j∈st->∀u∈rS (fe c j),u∈rS (fe c r)
  root:r∈o\/r∈st
  cl:∀j∈o,∀hj:j<c.length,pM c[j].op=false->(ji c[j].op=true->c[j].x.toNat∈o\/c[j].x.toNat∈st)/\(iM c[j].op=true->c[j].y.toNat∈o\/c[j].y.toNat∈st)
section
variable{c:List NV}{r i:Nat}{s:ao}{o st st':aq}
end
end Go.Proofs.Wit
