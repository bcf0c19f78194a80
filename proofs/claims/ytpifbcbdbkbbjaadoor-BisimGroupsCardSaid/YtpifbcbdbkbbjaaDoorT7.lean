/- Contracts of functions of the program: what each call returns and that nothing else of memory is turned, under the conditions that each theorem states. -/
import Derived.Test.YtpifbcbdbkbbjaaDoorT6
namespace Go.Proofs.YtpifbcbdbkbbjaaDoor
open Go.RowKit Go.Proofs.Wit

def boxR (r : List W64) (s : W64) : W64 := if checkR r.length r ≠ 0 then 0#64 else upTo (fun w out => if r.getD w 0#64 &&& ~~~s == 0#64 then out ||| 1#64 <<< w else out) 0#64 r.length
def diaR (r : List W64) (s : W64) : W64 := if checkR r.length r ≠ 0 then 0#64 else allW r.length &&& ~~~ (boxR r (~~~s))
/-- o is the least set that contains what a step leads to from s0, and what a step leads to from it -/
structure LeastReach (r : List W64) (s0 o : W64) : Prop where
  base : mapR r s0 &&& ~~~o = 0#64
  step : mapR r o &&& ~~~o = 0#64
  least : ∀ c, mapR r s0 &&& ~~~c = 0#64 → mapR r c &&& ~~~c = 0#64 → o &&& ~~~c = 0#64
/-- what Reach gives -/
def ReachIs (r : List W64) (s o : W64) : Prop := if checkR r.length r ≠ 0 then o = 0#64 else LeastReach r (s &&& allW r.length) o
end Go.Proofs.YtpifbcbdbkbbjaaDoor
