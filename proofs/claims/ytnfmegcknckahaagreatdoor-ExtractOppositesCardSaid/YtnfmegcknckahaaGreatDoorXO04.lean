/- What calls of the program return, under the conditions that each theorem states. -/
import Derived.Test.YtnfmegcknckahaaGreatDoorProg
import Derived.Test.YtnfmegcknckahaaGreatDoorXO03
import Derived.Test.YtnfmegcknckahaaGreatDoorXO02
import Derived.Test.YtnfmegcknckahaaGreatDoorXO01
namespace Go.Proofs.YtnfmegcknckahaaGreatDoor
open Go Go.RowKit Go.Proofs.Wit
theorem bd122 {ps:List (Nat×Value)} {c:List Value}:type_of%(eM (P:=Tryz.prog) (c:=c) (ps:=ps) Tryz.underlying122 (Cs.cons Tryz.sizeOf4 (Cs.cons Tryz.sizeOf4 (Cs.cons Tryz.sizeOf4 (Cs.cons Tryz.sizeOf4 (Cs.cons Tryz.sizeOf4 (Cs.cons Tryz.sizeOf4 (Cs.cons Tryz.sizeOf3 Cs.nil))))))) Tryz.zeroValue122):=eM (P:=Tryz.prog) (c:=c) (ps:=ps) Tryz.underlying122 (Cs.cons Tryz.sizeOf4 (Cs.cons Tryz.sizeOf4 (Cs.cons Tryz.sizeOf4 (Cs.cons Tryz.sizeOf4 (Cs.cons Tryz.sizeOf4 (Cs.cons Tryz.sizeOf4 (Cs.cons Tryz.sizeOf3 Cs.nil))))))) Tryz.zeroValue122
theorem bd66 {ps:List (Nat×Value)} {c:List Value}:type_of%(eM (P:=Tryz.prog) (c:=c) (ps:=ps) Tryz.underlying66 (Cs.cons Tryz.sizeOf3 (Cs.cons Tryz.sizeOf3 (Cs.cons Tryz.sizeOf3 (Cs.cons Tryz.sizeOf3 (Cs.cons Tryz.sizeOf3 (Cs.cons Tryz.sizeOf3 Cs.nil)))))) Tryz.zeroValue66):=eM (P:=Tryz.prog) (c:=c) (ps:=ps) Tryz.underlying66 (Cs.cons Tryz.sizeOf3 (Cs.cons Tryz.sizeOf3 (Cs.cons Tryz.sizeOf3 (Cs.cons Tryz.sizeOf3 (Cs.cons Tryz.sizeOf3 (Cs.cons Tryz.sizeOf3 Cs.nil)))))) Tryz.zeroValue66
theorem bd95 {ps:List (Nat×Value)} {c:List Value}:type_of%(eM (P:=Tryz.prog) (c:=c) (ps:=ps) Tryz.underlying95 (Cs.cons Tryz.sizeOf3 (Cs.cons Tryz.sizeOf31 Cs.nil)) Tryz.zeroValue95):=eM (P:=Tryz.prog) (c:=c) (ps:=ps) Tryz.underlying95 (Cs.cons Tryz.sizeOf3 (Cs.cons Tryz.sizeOf31 Cs.nil)) Tryz.zeroValue95
theorem bd89 {ps:List (Nat×Value)} {c:List Value}:type_of%(eM (P:=Tryz.prog) (c:=c) (ps:=ps) Tryz.underlying89 (Cs.cons Tryz.sizeOf22 (Cs.cons Tryz.sizeOf87 Cs.nil)) Tryz.zeroValue89):=eM (P:=Tryz.prog) (c:=c) (ps:=ps) Tryz.underlying89 (Cs.cons Tryz.sizeOf22 (Cs.cons Tryz.sizeOf87 Cs.nil)) Tryz.zeroValue89
theorem bd116 {ps:List (Nat×Value)} {c:List Value}:type_of%(eM (P:=Tryz.prog) (c:=c) (ps:=ps) Tryz.underlying116 (Cs.cons Tryz.sizeOf25 (Cs.cons Tryz.sizeOf39 Cs.nil)) Tryz.zeroValue116):=eM (P:=Tryz.prog) (c:=c) (ps:=ps) Tryz.underlying116 (Cs.cons Tryz.sizeOf25 (Cs.cons Tryz.sizeOf39 Cs.nil)) Tryz.zeroValue116
theorem bd25 {ps:List (Nat×Value)} {c:List Value}:type_of%(eM (P:=Tryz.prog) (c:=c) (ps:=ps) Tryz.underlying25 (Cs.cons Tryz.sizeOf3 (Cs.cons Tryz.sizeOf22 (Cs.cons Tryz.sizeOf23 Cs.nil))) Tryz.zeroValue25):=eM (P:=Tryz.prog) (c:=c) (ps:=ps) Tryz.underlying25 (Cs.cons Tryz.sizeOf3 (Cs.cons Tryz.sizeOf22 (Cs.cons Tryz.sizeOf23 Cs.nil))) Tryz.zeroValue25
theorem bd41 {ps:List (Nat×Value)} {c:List Value}:type_of%(eM (P:=Tryz.prog) (c:=c) (ps:=ps) Tryz.underlying41 (Cs.cons Tryz.sizeOf38 (Cs.cons Tryz.sizeOf3 (Cs.cons Tryz.sizeOf3 (Cs.cons Tryz.sizeOf3 (Cs.cons Tryz.sizeOf39 Cs.nil))))) Tryz.zeroValue41):=eM (P:=Tryz.prog) (c:=c) (ps:=ps) Tryz.underlying41 (Cs.cons Tryz.sizeOf38 (Cs.cons Tryz.sizeOf3 (Cs.cons Tryz.sizeOf3 (Cs.cons Tryz.sizeOf3 (Cs.cons Tryz.sizeOf39 Cs.nil))))) Tryz.zeroValue41
theorem bd48 {ps:List (Nat×Value)} {c:List Value}:type_of%(eM (P:=Tryz.prog) (c:=c) (ps:=ps) Tryz.underlying48 (Cs.cons Tryz.sizeOf22 (Cs.cons Tryz.sizeOf3 (Cs.cons Tryz.sizeOf3 (Cs.cons Tryz.sizeOf3 (Cs.cons Tryz.sizeOf3 Cs.nil))))) Tryz.zeroValue48):=eM (P:=Tryz.prog) (c:=c) (ps:=ps) Tryz.underlying48 (Cs.cons Tryz.sizeOf22 (Cs.cons Tryz.sizeOf3 (Cs.cons Tryz.sizeOf3 (Cs.cons Tryz.sizeOf3 (Cs.cons Tryz.sizeOf3 Cs.nil))))) Tryz.zeroValue48
theorem bd73 {ps:List (Nat×Value)} {c:List Value}:type_of%(eM (P:=Tryz.prog) (c:=c) (ps:=ps) Tryz.underlying73 (Cs.cons Tryz.sizeOf31 (Cs.cons Tryz.sizeOf3 Cs.nil)) Tryz.zeroValue73):=eM (P:=Tryz.prog) (c:=c) (ps:=ps) Tryz.underlying73 (Cs.cons Tryz.sizeOf31 (Cs.cons Tryz.sizeOf3 Cs.nil)) Tryz.zeroValue73
theorem bd76 {ps:List (Nat×Value)} {c:List Value}:type_of%(eM (P:=Tryz.prog) (c:=c) (ps:=ps) Tryz.underlying76 (Cs.cons Tryz.sizeOf70 (Cs.cons Tryz.sizeOf25 (Cs.cons Tryz.sizeOf41 (Cs.cons Tryz.sizeOf38 (Cs.cons Tryz.sizeOf39 Cs.nil))))) Tryz.zeroValue76):=eM (P:=Tryz.prog) (c:=c) (ps:=ps) Tryz.underlying76 (Cs.cons Tryz.sizeOf70 (Cs.cons Tryz.sizeOf25 (Cs.cons Tryz.sizeOf41 (Cs.cons Tryz.sizeOf38 (Cs.cons Tryz.sizeOf39 Cs.nil))))) Tryz.zeroValue76
theorem I9:type_of%@Tryz.sizeOf3:=@Tryz.sizeOf3
theorem Ja:type_of%@Tryz.isAgg3:=@Tryz.isAgg3
theorem Jb:type_of%@Tryz.underlying66:=@Tryz.underlying66
theorem Jc:type_of%@Tryz.sizeOf4:=@Tryz.sizeOf4
theorem Jd:type_of%@Tryz.sizeOf66:=@Tryz.sizeOf66
theorem Je:type_of%@Tryz.isAgg4:=@Tryz.isAgg4
theorem Jf:type_of%@Tryz.underlying122:=@Tryz.underlying122
theorem Jg:type_of%@Tryz.underlying39:=@Tryz.underlying39
theorem Jh:type_of%@Tryz.underlying41:=@Tryz.underlying41
theorem Ji:type_of%@Tryz.underlying22:=@Tryz.underlying22
theorem Jj:type_of%@Tryz.sizeOf22:=@Tryz.sizeOf22
theorem Jk:type_of%@Tryz.func102:=@Tryz.func102
theorem Jl:type_of%@Tryz.sizeOf122:=@Tryz.sizeOf122
theorem Jm:type_of%@Tryz.sizeOf41:=@Tryz.sizeOf41
theorem Jn:type_of%@Tryz.isAgg22:=@Tryz.isAgg22
theorem Jo:type_of%@Tryz.underlying52:=@Tryz.underlying52
theorem Jp:type_of%@Tryz.sizeOf25:=@Tryz.sizeOf25
theorem Jq:type_of%@Tryz.zeroValue66:=@Tryz.zeroValue66
theorem Jr:type_of%@Tryz.underlying25:=@Tryz.underlying25
theorem Js:type_of%@Tryz.call149:=@Tryz.call149
theorem Jt:type_of%@Tryz.isAgg66:=@Tryz.isAgg66
theorem Ju:type_of%@Tryz.sizeOf38:=@Tryz.sizeOf38
theorem Jv:type_of%@Tryz.zeroValue3:=@Tryz.zeroValue3
theorem Jw:type_of%@Tryz.underlying48:=@Tryz.underlying48
theorem Jx:type_of%@Tryz.zeroValue22:=@Tryz.zeroValue22
theorem Jy:type_of%@Tryz.call24:=@Tryz.call24
theorem Jz:type_of%@Tryz.isAgg38:=@Tryz.isAgg38
theorem JA:type_of%@Tryz.call32:=@Tryz.call32
theorem JB:type_of%@Tryz.underlying23:=@Tryz.underlying23
theorem JC:type_of%@Tryz.call34:=@Tryz.call34
theorem JD:type_of%@Tryz.underlying31:=@Tryz.underlying31
theorem JE:type_of%@Tryz.call58:=@Tryz.call58
theorem JF:type_of%@Tryz.underlying76:=@Tryz.underlying76
theorem JG:type_of%@Tryz.func101:=@Tryz.func101
theorem JH:type_of%@Tryz.sizeOf23:=@Tryz.sizeOf23
theorem JI:type_of%@Tryz.call47:=@Tryz.call47
theorem JJ:type_of%@Tryz.func105:=@Tryz.func105
theorem JK:type_of%@Tryz.isAgg122:=@Tryz.isAgg122
theorem JL:type_of%@Tryz.call57:=@Tryz.call57
theorem JM:type_of%@Tryz.func152:=@Tryz.func152
theorem JN:type_of%@Tryz.isAgg23:=@Tryz.isAgg23
theorem JO:type_of%@Tryz.underlying51:=@Tryz.underlying51
theorem JP:type_of%@Tryz.sizeOf39:=@Tryz.sizeOf39
theorem JQ:type_of%@Tryz.sizeOf48:=@Tryz.sizeOf48
theorem JR:type_of%@Tryz.isAgg25:=@Tryz.isAgg25
theorem JS:type_of%@Tryz.underlying73:=@Tryz.underlying73
theorem JT:type_of%@Tryz.call148:=@Tryz.call148
theorem JU:type_of%@Tryz.isAgg39:=@Tryz.isAgg39
theorem JV:type_of%@Tryz.isAgg41:=@Tryz.isAgg41
theorem JW:type_of%@Tryz.underlying61:=@Tryz.underlying61
theorem JX:type_of%@Tryz.call193:=@Tryz.call193
theorem JY:type_of%@Tryz.underlying116:=@Tryz.underlying116
theorem JZ:type_of%@Tryz.zeroValue122:=@Tryz.zeroValue122
theorem J0:type_of%@Tryz.sizeOf31:=@Tryz.sizeOf31
theorem J1:type_of%@Tryz.zeroValue38:=@Tryz.zeroValue38
theorem J2:type_of%@Tryz.zeroValue25:=@Tryz.zeroValue25
theorem J3:type_of%@Tryz.underlying89:=@Tryz.underlying89
theorem J4:type_of%@Tryz.zeroValue41:=@Tryz.zeroValue41
theorem J5:type_of%@Tryz.underlying95:=@Tryz.underlying95
end Go.Proofs.YtnfmegcknckahaaGreatDoor
namespace Go.Proofs.YtnfmegcknckahaaGreatDoor
open Go.RowKit Go.Proofs.Wit Tryz
/-- the library's table of bit positions -/
abbrev Fy:Nat:=0
abbrev Iw:=F0 Fy
theorem mixed:Tryz.prog.follows .mixedOrders=true:=by kernel_rfl
theorem Ce:(Tryz.prog.info? 3).map (fun i=>(i.zero,i.size,i.bytes))=some (some (.int .i64 0),1,8):=by kernel_rfl
end Go.Proofs.YtnfmegcknckahaaGreatDoor
namespace Go.Proofs.YtnfmegcknckahaaGreatDoor
open Go.RowKit Go.Proofs.Wit Tryz
/-- o is the least set that contains what a step leads to from s0, and what a step leads to from it -/
structure Eh (r:List ax) (s0 o:ax):Prop where
  base:uA r s0 &&& ~~~o=0#64
  step:uA r o &&& ~~~o=0#64
  least:∀c,uA r s0 &&& ~~~c=0#64→uA r c &&& ~~~c=0#64→o &&& ~~~c=0#64
end Go.Proofs.YtnfmegcknckahaaGreatDoor
namespace Go.Proofs.YtnfmegcknckahaaGreatDoor
open Go.RowKit Go.Proofs.Wit Tryz
/-- a step function turns the list that it is given, by g -/
def fV (gf:FuncId) (g:List ax→List ax):Prop:=
 ∀(q:Option Nat) (cap:Nat) (xs:List ax) (sp:List Value) (w:World),Iw w→(∀b,q=some b→Fy≠b)→xe xs→(q=none→xs.length=0∧cap=0)→(∀b,q=some b→w.heap[b]?=some (ob U 38 xs sp))→
  IP Tryz.prog gf [cK q xs.length cap] w q (fun _ w'=>∀b,q=some b→w'.heap[b]?=some (ob U 38 (g xs) sp))
end Go.Proofs.YtnfmegcknckahaaGreatDoor
namespace Go.Proofs.YtnfmegcknckahaaGreatDoor
open Go.RowKit Go.Proofs.Wit Tryz
/-- where the relation lies that is being closed: still where it came from, or in a block of one's own -/
structure HW (a:Option Addr) (ca:Nat) (r:List ax) (A:Option Addr) (cA:Nat) (cur:List ax) (q:Option Nat) (sp:List Value):Prop where
  cap:cur.length≤cA
  at_:(A=a∧cur=r)∨(A=q.map (fun b=>⟨b,0,none⟩)∧(q=none→cur.length=0))
end Go.Proofs.YtnfmegcknckahaaGreatDoor
