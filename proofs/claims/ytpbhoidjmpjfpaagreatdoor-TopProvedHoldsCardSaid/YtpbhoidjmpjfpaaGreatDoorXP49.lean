/- Laws of walks, each under its own conditions. -/
import Derived.Test.YtpbhoidjmpjfpaaGreatDoorXP16
set_option maxRecDepth 100000
set_option maxHeartbeats 40000000
namespace Go.Proofs.Wit
open Go Go.RowKit
abbrev B8:=BitVec 8
def B(x:B8):aC:=.int .u8 (x.toNat:Int)
section
variable(t:ax)(x y:B8)
end
section
variable{P:av}{t:ax}{x y:B8}{b:Int}
end
section
variable{P:av}{r:ah}{f:ay}{R:aC->aB->Prop}{w0:aB}{S:aq}{Y:List (Nat×Obj)}{n:Nat}{k:al}{l:Fl}{h:Hl}
variable{ops:aj}{i d:Nat}{rest:aq}{ty:ax}{pos:aA}{aft:ak}{g:Option (Nat×Bool)}
end
def nt(x:B8):B8:=15#8 &&& ~~~x
def f4(a b c d:Bool):B8:=((((if a then 1#8 else 0#8)|||(if b then 2#8 else 0#8))|||(if c then 4#8 else 0#8))|||(if d then 8#8 else 0#8))
section
variable{x y:B8}
end
end Go.Proofs.Wit
