/- Laws of walks, for any program, under the conditions that each theorem states. -/
import Derived.Test.YtaamcaiglooemaaGreatDoorXF02
set_option maxRecDepth 100000
set_option maxHeartbeats 4000000
namespace Go.Proofs.Wit
open Go Go.RowKit
structure KO (r:List aE) (f t:aE) (p:List Nat):Prop where
  lt:∀i,i<p.length→p.getD i 0<r.length
  step:∀i,i+1<p.length→Rl r (p.getD i 0) (p.getD (i+1) 0)
  first:0<p.length→f.getLsbD (p.getD 0 0)=true
  last:0<p.length→t.getLsbD (p.getD (p.length - 1) 0)=true
end Go.Proofs.Wit
