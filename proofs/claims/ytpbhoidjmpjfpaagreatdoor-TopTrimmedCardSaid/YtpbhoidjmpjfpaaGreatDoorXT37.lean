/- Laws of walks, each under its own conditions. -/
import Derived.Test.YtpbhoidjmpjfpaaGreatDoorXT02
set_option maxRecDepth 100000
set_option maxHeartbeats 40000000
namespace Go.Proofs.Wit
open Go Go.RowKit
structure Pc (r:List eF) (f t:eF) (p:aq):Prop where
  lt:∀i,i<p.length->p.getD i 0<r.length
  step:∀i,i+1<p.length->Rl r (p.getD i 0) (p.getD (i+1) 0)
  first:0<p.length->f.getLsbD (p.getD 0 0)=true
  last:0<p.length->t.getLsbD (p.getD (p.length - 1) 0)=true
end Go.Proofs.Wit
