/- Laws of walks, each under its own conditions. -/
import Derived.Test.YtpbhoidjmpjfpaaGreatDoorXP40
set_option maxRecDepth 100000
set_option maxHeartbeats 40000000
namespace Go.Proofs.Wit
open Go Go.RowKit
section
variable{l:Int}{b:List NV}{L:List SD}{T:Tr->Prop}
end
structure SP.Rd (p:SP) (tn ts ti:ax) (hR:Hl):Prop where
  fa:∃q sp,(q,jR tn p.b sp)∈hR/\p.A=q.map aP/\(q=none->p.b.length=0)
  sa:∃q sp,(q,oY ts p.tl sp)∈hR/\p.B=q.map aP/\(q=none->p.tl.length=0)
  P5:∃q sp,(q,ob gu ti p.x.d.fr sp)∈hR/\p.x.fa=q.map aP/\(q=none->p.x.d.fr.length=0)
  S4:∃q sp,(q,ob gu ti (p.last.map (λj:Nat=>(j:Int))) sp)∈hR/\p.Z=q.map aP/\(q=none->p.last.length=0)
structure SP.Rs (p:SP) (S:aq) (w:aB):Prop where
  Ni:M7 S w p.A p.b
  Vz:U9 S w p.B (p.tl.flatMap SV.cells)
  P5:Ta S w p.x.fa p.x.d.fr
  S4:Ta S w p.Z (p.last.map (λj:Nat=>(j:Int)))
section
variable{P:av}{tn tw tl:ax}{er:aC}{bw:Nat}{Γ:List FV}{σ:Sg}{s:Ws}
variable{r:ah}{f:ay}{R:aC->aB->Prop}{w0:aB}{S:aq}{Y:List (Nat×Obj)}{n:Nat}{k:al}{l:Fl}{ops:aj}{i d:Nat}{rest:aq}{ty:ax}{pos:aA}{aft:ak}{g:Option (Nat×Bool)}
variable{az:aa}{ts:ab}{cal:au}{gf:ay}{vs:ai}{u:Tr}
end
end Go.Proofs.Wit
