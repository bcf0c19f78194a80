/- Laws of walks, for any program, under the conditions that each theorem states. -/
import Derived.Test.YtaamcaiglooemaaGreatDoorXF16
set_option maxRecDepth 100000
set_option maxHeartbeats 4000000
namespace Go.Proofs.Wit
open Go Go.RowKit
abbrev B8:=BitVec 8
def B (x:B8):Value:=.int .u8 (x.toNat:Int)
section
variable (t:TypeId) (x y:B8)
end
section
variable {P:Program} {t:TypeId} {x y:B8} {b:Int}
end
section
variable {P:Program} {r:Option Nat} {f:FuncId} {R:Value→World→Prop} {w0:World} {S:List Nat} {Y:List (Nat×Obj)} {n:Nat} {k:List Item} {l:Fl} {h:Hl}
variable {ops:Array Oper} {i d:Nat} {rest:List Nat} {ty:TypeId} {pos:String} {aft:Array Edge} {g:Option (Nat×Bool)}
end
def nt (x:B8):B8:=15#8 &&& ~~~x
def f4 (a b c d:Bool):B8:=((((if a then 1#8 else 0#8)|||(if b then 2#8 else 0#8))|||(if c then 4#8 else 0#8))|||(if d then 8#8 else 0#8))
section
variable {x y:B8}
end
end Go.Proofs.Wit
