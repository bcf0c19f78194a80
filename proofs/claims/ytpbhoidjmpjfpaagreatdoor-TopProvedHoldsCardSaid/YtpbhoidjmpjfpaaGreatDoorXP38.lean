/- Laws of walks, each under its own conditions. -/
import Derived.Test.YtpbhoidjmpjfpaaGreatDoorXP02
set_option maxRecDepth 100000
set_option maxHeartbeats 40000000
namespace Go.Proofs.Wit
open Go Go.RowKit
structure Wn (r:List fi) (f t:fi) (p:aq):Prop where
  lt:∀i,i<p.length->p.getD i 0<r.length
  step:∀i,i+1<p.length->Rl r (p.getD i 0) (p.getD (i+1) 0)
  first:0<p.length->f.getLsbD (p.getD 0 0)=true
  last:0<p.length->t.getLsbD (p.getD (p.length - 1) 0)=true
theorem PK{P:av}{t:ax}{a b:Int}{v:Bool}{k:aw}(e:decide (a>=b)=v):oO P .geq t (.int k a) (.int k b) (.bool v):=e ▸ HV
end Go.Proofs.Wit
