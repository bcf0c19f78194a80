/- What calls of the program return, under the conditions that each theorem states. -/
import Derived.Test.YtkpknmgofmohbaaProg
import Derived.Test.YtkpknmgofmohbaaXC03
import Derived.Test.YtkpknmgofmohbaaXC02
namespace Go.Proofs.Ytkpknmgofmohbaa
open Go Go.RowKit Go.Proofs.Wit
theorem bd78 {ps:List (Nat×Value)} {c:List Value}:type_of%(eM (P:=Try.prog) (c:=c) (ps:=ps) Try.underlying78 (qD.cons Try.sizeOf3 (qD.cons Try.sizeOf3 qD.nil)) Try.zeroValue78):=eM (P:=Try.prog) (c:=c) (ps:=ps) Try.underlying78 (qD.cons Try.sizeOf3 (qD.cons Try.sizeOf3 qD.nil)) Try.zeroValue78
theorem bd27 {ps:List (Nat×Value)} {c:List Value}:type_of%(eM (P:=Try.prog) (c:=c) (ps:=ps) Try.underlying27 (qD.cons Try.sizeOf3 (qD.cons Try.sizeOf3 (qD.cons Try.sizeOf3 (qD.cons Try.sizeOf25 qD.nil)))) Try.zeroValue27):=eM (P:=Try.prog) (c:=c) (ps:=ps) Try.underlying27 (qD.cons Try.sizeOf3 (qD.cons Try.sizeOf3 (qD.cons Try.sizeOf3 (qD.cons Try.sizeOf25 qD.nil)))) Try.zeroValue27
theorem bd97 {ps:List (Nat×Value)} {c:List Value}:type_of%(eM (P:=Try.prog) (c:=c) (ps:=ps) Try.underlying97 (qD.cons Try.sizeOf3 (qD.cons Try.sizeOf3 qD.nil)) Try.zeroValue97):=eM (P:=Try.prog) (c:=c) (ps:=ps) Try.underlying97 (qD.cons Try.sizeOf3 (qD.cons Try.sizeOf3 qD.nil)) Try.zeroValue97
theorem bd94 {ps:List (Nat×Value)} {c:List Value}:type_of%(eM (P:=Try.prog) (c:=c) (ps:=ps) Try.underlying94 (qD.cons Try.sizeOf27 (qD.cons Try.sizeOf90 (qD.cons Try.sizeOf92 qD.nil))) Try.zeroValue94):=eM (P:=Try.prog) (c:=c) (ps:=ps) Try.underlying94 (qD.cons Try.sizeOf27 (qD.cons Try.sizeOf90 (qD.cons Try.sizeOf92 qD.nil))) Try.zeroValue94
theorem bd88 {ps:List (Nat×Value)} {c:List Value}:type_of%(eM (P:=Try.prog) (c:=c) (ps:=ps) Try.underlying88 (qD.cons Try.sizeOf4 (qD.cons Try.sizeOf4 (qD.cons Try.sizeOf4 (qD.cons Try.sizeOf4 (qD.cons Try.sizeOf4 (qD.cons Try.sizeOf4 (qD.cons Try.sizeOf3 qD.nil))))))) Try.zeroValue88):=eM (P:=Try.prog) (c:=c) (ps:=ps) Try.underlying88 (qD.cons Try.sizeOf4 (qD.cons Try.sizeOf4 (qD.cons Try.sizeOf4 (qD.cons Try.sizeOf4 (qD.cons Try.sizeOf4 (qD.cons Try.sizeOf4 (qD.cons Try.sizeOf3 qD.nil))))))) Try.zeroValue88
theorem bd65 {ps:List (Nat×Value)} {c:List Value}:type_of%(eM (P:=Try.prog) (c:=c) (ps:=ps) Try.underlying65 (qD.cons Try.sizeOf3 (qD.cons Try.sizeOf3 (qD.cons Try.sizeOf3 (qD.cons Try.sizeOf3 (qD.cons Try.sizeOf3 (qD.cons Try.sizeOf3 qD.nil)))))) Try.zeroValue65):=eM (P:=Try.prog) (c:=c) (ps:=ps) Try.underlying65 (qD.cons Try.sizeOf3 (qD.cons Try.sizeOf3 (qD.cons Try.sizeOf3 (qD.cons Try.sizeOf3 (qD.cons Try.sizeOf3 (qD.cons Try.sizeOf3 qD.nil)))))) Try.zeroValue65
theorem bd71 {ps:List (Nat×Value)} {c:List Value}:type_of%(eM (P:=Try.prog) (c:=c) (ps:=ps) Try.underlying71 (qD.cons Try.sizeOf3 (qD.cons Try.sizeOf69 qD.nil)) Try.zeroValue71):=eM (P:=Try.prog) (c:=c) (ps:=ps) Try.underlying71 (qD.cons Try.sizeOf3 (qD.cons Try.sizeOf69 qD.nil)) Try.zeroValue71
theorem xk:type_of%@Try.sizeOf3:=@Try.sizeOf3
theorem xl:type_of%@Try.isAgg3:=@Try.isAgg3
theorem xm:type_of%@Try.sizeOf4:=@Try.sizeOf4
theorem xn:type_of%@Try.underlying65:=@Try.underlying65
theorem xo:type_of%@Try.isAgg4:=@Try.isAgg4
theorem xp:type_of%@Try.underlying88:=@Try.underlying88
theorem xq:type_of%@Try.func36:=@Try.func36
theorem xr:type_of%@Try.sizeOf88:=@Try.sizeOf88
theorem xt:type_of%@Try.call68:=@Try.call68
theorem xu:type_of%@Try.sizeOf65:=@Try.sizeOf65
theorem xw:type_of%@Try.underlying27:=@Try.underlying27
theorem xx:type_of%@Try.underlying46:=@Try.underlying46
theorem xy:type_of%@Try.underlying31:=@Try.underlying31
theorem xz:type_of%@Try.sizeOf27:=@Try.sizeOf27
theorem xA:type_of%@Try.isAgg88:=@Try.isAgg88
theorem xB:type_of%@Try.underlying25:=@Try.underlying25
theorem xC:type_of%@Try.func63:=@Try.func63
theorem xD:type_of%@Try.sizeOf25:=@Try.sizeOf25
theorem xE:type_of%@Try.isAgg65:=@Try.isAgg65
theorem xF:type_of%@Try.isAgg25:=@Try.isAgg25
theorem xG:type_of%@Try.underlying55:=@Try.underlying55
theorem xH:type_of%@Try.sizeOf38:=@Try.sizeOf38
theorem xI:type_of%@Try.underlying38:=@Try.underlying38
theorem xJ:type_of%@Try.zeroValue88:=@Try.zeroValue88
theorem xK:type_of%@Try.isAgg27:=@Try.isAgg27
theorem xL:type_of%@Try.underlying3:=@Try.underlying3
theorem xM:type_of%@Try.underlying30:=@Try.underlying30
theorem xN:type_of%@Try.sizeOf97:=@Try.sizeOf97
theorem xO:type_of%@Try.zeroValue65:=@Try.zeroValue65
theorem xP:type_of%@Try.underlying35:=@Try.underlying35
theorem xQ:type_of%@Try.underlying90:=@Try.underlying90
theorem xR:type_of%@Try.underlying97:=@Try.underlying97
theorem xS:type_of%@Try.underlying94:=@Try.underlying94
theorem xT:type_of%@Try.underlying36:=@Try.underlying36
theorem xU:type_of%@Try.underlying62:=@Try.underlying62
theorem xV:type_of%@Try.underlying50:=@Try.underlying50
theorem xW:type_of%@Try.underlying66:=@Try.underlying66
end Go.Proofs.Ytkpknmgofmohbaa
namespace Go.Proofs.Ytkpknmgofmohbaa
open Go.RowKit Go.Proofs.Wit Try
/-- the library's table of bit positions -/
abbrev sY:Nat:=0
abbrev vX:=tD sY
theorem mixed:Try.prog.follows .mixedOrders=true:=by kernel_rfl
end Go.Proofs.Ytkpknmgofmohbaa
namespace Go.Proofs.Ytkpknmgofmohbaa
open Go.RowKit Go.Proofs.Wit Try
/-- o is the least set that contains what a step leads to from s0, and what a step leads to from it -/
structure rU (r:List au) (s0 o:au):Prop where
  base:kL r s0 &&& ~~~o=0#64
  step:kL r o &&& ~~~o=0#64
  least:∀c,kL r s0 &&& ~~~c=0#64→kL r c &&& ~~~c=0#64→o &&& ~~~c=0#64
end Go.Proofs.Ytkpknmgofmohbaa
namespace Go.Proofs.Ytkpknmgofmohbaa
open Go.RowKit Go.Proofs.Wit Try
/-- a step function turns the list that it is given, by g -/
def cj (gf:FuncId) (g:List au→List au):Prop:=
 ∀(q:Option Nat) (cap:Nat) (xs:List au) (sp:List Value) (w:World),vX w→(∀b,q=some b→sY≠b)→lX xs→(q=none→xs.length=0∧cap=0)→(∀b,q=some b→w.heap[b]?=some (ob U 34 xs sp))→
  wx Try.prog gf [aU q xs.length cap] w q (fun _ w'=>∀b,q=some b→w'.heap[b]?=some (ob U 34 (g xs) sp))
end Go.Proofs.Ytkpknmgofmohbaa
namespace Go.Proofs.Ytkpknmgofmohbaa
open Go.RowKit Go.Proofs.Wit Try
/-- where the relation lies that is being closed: still where it came from, or in a block of one's own -/
structure vm (a:Option Addr) (ca:Nat) (r:List au) (A:Option Addr) (cA:Nat) (cur:List au) (q:Option Nat) (sp:List Value):Prop where
  cap:cur.length≤cA
  at_:(A=a∧cur=r)∨(A=q.map (fun b=>⟨b,0,none⟩)∧(q=none→cur.length=0))
end Go.Proofs.Ytkpknmgofmohbaa
namespace Go.Proofs.Ytkpknmgofmohbaa
open Go.RowKit Go.Proofs.Wit Try
theorem pr:∃fs,Try.prog.underlying 65=some (.struct fs)∧jb fs 3:=⟨_,xn,_,_,_,_,_,_,rfl,⟨by decide,rfl,rfl⟩,⟨by decide,rfl,rfl⟩,⟨by decide,rfl,rfl⟩,⟨by decide,rfl,rfl⟩,⟨by decide,rfl,rfl⟩,⟨by decide,rfl,rfl⟩⟩
theorem qN:Try.prog.stoodInHeld 65=false:=by kernel_rfl
theorem qq:(Try.prog.info? 65).map (fun i=>(i.zero,i.size,i.bytes))=some (some uf.v,6,48):=by kernel_rfl
structure lY (q:Option Nat) (cap:Nat) (ts:List Tr) (sp:List Value):Prop where
  nil:q=none→(aw ts).length=0∧cap=0
  cap:((aw ts).flatMap NV.cells++sp).length=cap*6
  iq:fB ts
  nd:ts.Nodup
  wf:∀u∈ts,u.wf
theorem mh {ts:List Tr} {t:Tr} (ht:t∉ts):(ts++[t]).idxOf t=ts.length:=by
 rw [List.idxOf_append,if_neg ht];simp
end Go.Proofs.Ytkpknmgofmohbaa
