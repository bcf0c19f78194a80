/- Laws of walks, for any program, under the conditions that each theorem states. -/
import Derived.Test.YtkpknmgofmohbaaXC02
import Derived.MapKept
namespace Go.Proofs.Wit
open Go Go.RowKit
section
variable {κ ν:Type}
def bg (ek:κ→Value) (ev:ν→Value):List (κ×ν)→Nat→List MapEntry
 |[],_=>[]
 |p::L,i=>⟨ek p.1,ev p.2,i⟩::bg ek ev L (i+1)
abbrev a9 (ek:κ→Value) (ev:ν→Value) (L:List (κ×ν)):Obj:=.map (bg ek ev L 0).toArray L.length
def aG (q:κ→κ→Bool):List (κ×ν)→κ→Option ν
 |[],_=>none
 |p::L,k=>if q k p.1=true then some p.2 else aG q L k
variable {ek:κ→Value} {ev:ν→Value} {q:κ→κ→Bool}
theorem di:∀{L:List (κ×ν)} {i:Nat},(bg ek ev L i).length=L.length
 |[],_=>rfl
 |p::L,i=>by rw [bg,List.length_cons,di,List.length_cons]
theorem ga:∀{L:List (κ×ν)} {k:κ} {v:ν} {i:Nat},bg ek ev (L++[(k,v)]) i=bg ek ev L i++[⟨ek k,ev v,i+L.length⟩]
 |[],k,v,i=>rfl
 |p::L,k,v,i=>by rw [List.cons_append,bg,ga,bg,List.cons_append,List.length_cons,Nat.add_assoc,Nat.add_comm 1]
def found (q:κ→κ→Bool) (ev:ν→Value):List (κ×ν)→κ→Nat→Option (Nat×Value)
 |[],_,_=>none
 |p::L,k,i=>if q k p.1=true then some (i,ev p.2) else found q ev L k (i+1)
theorem dL:∀{L:List (κ×ν)} {k:κ} {i:Nat},(found q ev L k i).map (·.2)=(aG q L k).map ev
 |[],_,_=>rfl
 |p::L,k,i=>by
  rw [found,aG]
  split
  ·rfl
  exact dL
theorem g6 {kd:TypeDesc} (hs:∀a b:κ,Instr.sameNow kd (ek a) (ek b)=some (q a b)):∀{L:List (κ×ν)} {k:κ} {i j:Nat},Instr.findNow kd (ek k) (bg ek ev L j) i=some (found q ev L k i)
 |[],_,_,_=>rfl
 |p::L,k,i,j=>by
  rw [bg,Instr.findNow,hs,found]
  cases q k p.1 with
  |true=>rfl
  |false=>exact g6 hs
theorem g7 {P:Program} {kt:TypeId} {w:World} (hs:∀a b:κ,(Op.equal kt (ek a) (ek b)).run P w=.ok (q a b) w):∀{L:List (κ×ν)} {k:κ} {i j:Nat},(Instr.findAsking kt (ek k) (bg ek ev L j) i).run P w=.ok (found q ev L k i) w
 |[],_,_,_=>rfl
 |p::L,k,i,j=>by
  rw [bg,Instr.findAsking,found]
  simp only [Sem.run_bind,hs,Result.andThen_ok]
  cases q k p.1 with
  |true=>rfl
  |false=>exact g7 hs
structure cP (P:Program) (kt:TypeId) (ek:κ→Value) (q:κ→κ→Bool):Prop where
  pR:∀(e:Bool) (a:κ) (w:World),(Instr.checkKey e 10000 kt (ek a)).run P w=.ok () w
  find:∀{ν:Type} (ev:ν→Value) (L:List (κ×ν)) (k:κ) (w:World),(Instr.findKey kt (ek k) (bg ek ev L 0)).run P w=.ok (found q ev L k 0) w
theorem cP.now {P:Program} {kt:TypeId} {kd:TypeDesc} (hu:P.underlying kt=some kd) (hc:∀(e:Bool) (a:κ) (w:World),(Instr.checkKey e 10000 kt (ek a)).run P w=.ok () w) (hs:∀a b:κ,Instr.sameNow kd (ek a) (ek b)=some (q a b)):cP P kt ek q:=
 ⟨hc,fun ev L k w=>by
  simp only [Instr.findKey,Sem.run_bind,run_underlying hu,Result.andThen_ok,g6 hs];rfl⟩
theorem cP.int {P:Program} {kt:TypeId} {kd:IntKind} (hu:P.underlying kt=some (.int kd)):cP P kt (Value.int kd) (fun a b=>a==b):=
 .now hu (fun e a w=>Go.MapKept.run_checkKey hu (by simp [Go.MapKept.IsKey]) e 9999) (fun a b=>by simp [Instr.sameNow])
theorem dQ {P:Program} {et:TypeId} (ha:∀w,(isAgg et).run P w=.ok false w) {cs:Array Value} {j:Nat} {v:Value} (hv:cs[j]?=some v) (w:World):(part et cs j).run P w=.ok v w:=by
 simp only [part,Sem.run_bind,ha,Result.andThen_ok,hv];rfl
theorem oe {P:Program} {t:TypeId} {kd:IntKind} (dd:Nat) {p q:Int} (hu:P.underlying t=some (.int kd)) (w:World):(Op.equalIn (dd+1) t (.int kd p) (.int kd q)).run P w=.ok (p==q) w:=by
 simp only [Op.equalIn,Sem.run_bind,run_underlying hu,Result.andThen_ok];simp
end
section
variable {P:Program} {r:Option Nat} {f:FuncId} {R:Value→World→Prop} {w0:World} {S:List Nat} {Y:List (Nat×Obj)} {n:Nat} {k:List Item} {l:Fl} {h:Hl}
variable {ops:Array Oper} {i d:Nat} {rest:List Nat} {ty:TypeId} {pos:String} {aft:Array Edge} {g:Option (Nat×Bool)}
variable {κ ν:Type} {ek:κ→Value} {ev:ν→Value} {q:κ→κ→Bool}
theorem aa.mkMap (ek:κ→Value) (ev:ν→Value) {t:TypeId} (ho:ops[i]?=some ⟨some d,.makeMap t none,ty,pos,aft,g⟩) (hw:al ops l g=true) (hd:Nat.blt d n=true)
  (hk:∀b,aa P r f R w0 S Y n (.inRegion ops rest::k) ((d,.map (some b))::l) ((some b,a9 ek ev [])::h)):aa P r f R w0 S Y n (.inRegion ops (i::rest)::k) l h:=
 .mem ho hw rfl rfl hd (fun t' w Ds _ hF hS=>⟨.map (some w.heap.size),w.alloc (.map #[] 0),_,by
  simp [execOp,Instr.makeMap],hS.alloc rfl,hk _⟩)
theorem ah.sR {t kt el:TypeId} (hK:cP P kt ek q) {z:Value} {x ix:Operand} {b:Nat} {a:κ} {L:List (κ×ν)} (ho:ops[i]?=some ⟨some d,.lookup t x ix true,ty,pos,aft,g⟩) (hw:al ops l g=true)
  (hx:aA l x=some (.map (some b))) (hy:aA l ix=some (ek a)) (hd:Nat.blt d n=true) (hu:P.underlying t=some (.map kt el)) (hz:∀w,(zeroValue el).run P w=.ok z w) (j:Nat) (hj:h[j]?=some (some b,a9 ek ev L)):
  ah P w0 S n h ops i l d (.tuple #[((aG q L a).map ev).getD z,.bool (aG q L a).isSome]):=
 .of ho hw rfl rfl hd (fun t' w Ds _ hF hS=>⟨.value (.tuple #[((aG q L a).map ev).getD z,.bool (aG q L a).isSome]),by
  have hg:(getObj b).run P w=.ok (a9 ek ev L) w:=by simp [getObj,Sem.run,hS.get hj]
  have hf:=hK.find ev L a w
  have e1:(found q ev L a 0).map (·.2)=(aG q L a).map ev:=dL
  simp only [execOp,hF.aA hx,hF.aA hy,Sem.run_bind,Instr.lookup,run_underlying hu,Result.andThen_ok,hg,hK.pR,Sem.run_pure,hf]
  cases hfo:found q ev L a 0 with
  |none=>
   rw [hfo] at e1
   cases ha:aG q L a with
   |none=>simp [hz]
   |some v=>rw [ha] at e1;cases e1
  |some y=>
   rw [hfo] at e1
   cases ha:aG q L a with
   |none=>rw [ha] at e1;cases e1
   |some v=>rw [ha] at e1;simp at e1⊢;exact e1,rfl⟩)
theorem g3:∀{L:List (κ×ν)} {a:κ} {i:Nat},aG q L a=none→found q ev L a i=none
 |[],_,_,_=>rfl
 |p::L,a,i,h=>by
  rw [aG] at h
  rw [found]
  split at h
  ·cases h
  rename_i hq;rw [if_neg hq];exact g3 h
theorem gU {t kt el:TypeId} (hK:cP P kt ek q) {b:Nat} {a:κ} {v:ν} {L:List (κ×ν)} {w:World} (hu:P.underlying t=some (.map kt el)) (hb:w.heap[b]?=some (a9 ek ev L)) (ha:aG q L a=none):
  (Instr.mapUpdate t (.map (some b)) (ek a) (ev v)).run P w=.ok () {w with heap:=w.heap.setIfInBounds b (a9 ek ev (L++[(a,v)]))}:=by
 have hg:(getObj b).run P w=.ok (a9 ek ev L) w:=by simp [getObj,Sem.run,hb]
 have hf:=hK.find ev L a w
 rw [g3 ha] at hf
 simp only [Instr.mapUpdate,Sem.run_bind,run_underlying hu,Result.andThen_ok,hg,hK.pR,hf]
 have e1:((bg ek ev L 0).toArray.push ⟨ek a,ev v,L.length⟩)=(bg ek ev (L++[(a,v)]) 0).toArray:=by rw [ga];simp
 rw [e1]
 simp [setObj,Sem.run,hb,a9]
theorem aa.kN {t kt el:TypeId} (hK:cP P kt ek q) {m x y:Operand} {b:Nat} {a:κ} {v:ν} {L:List (κ×ν)} {o:Oper} (ho:ops[i]?=some o) (hop:o.op=.mapUpdate t m x y∨o.op=.insert t m x y) (hdst:o.dst=none) (hw:al ops l o.guard=true)
  (hm:aA l m=some (.map (some b))) (hx:aA l x=some (ek a)) (hy:aA l y=some (ev v)) (hu:P.underlying t=some (.map kt el)) (j:Nat) (hj:h[j]?=some (some b,a9 ek ev L)) (ha:aG q L a=none)
  (hk:aa P r f R w0 S Y n (.inRegion ops rest::k) l (h.set j (some b,a9 ek ev (L++[(a,v)])))):aa P r f R w0 S Y n (.inRegion ops (i::rest)::k) l h:=
 .tP ho hw hdst (by rcases hop with e|e<;>rw [e]<;>rfl) (fun t' w Ds _ hF hS=>by
  have hb:=hS.get hj
  refine ⟨{w with heap:=w.heap.setIfInBounds b (a9 ek ev (L++[(a,v)]))},_,?_,hS.gk hj (o':=a9 ek ev (L++[(a,v)])) rfl rfl rfl rfl (by simp) ?_ ?_,hk⟩
  ·have hrun:=gU hK (v:=v) hu hb ha
   unfold execOp
   rcases hop with e|e<;>rw [e]<;>simp only [hF.aA hm,hF.aA hx,hF.aA hy,Sem.run_bind,hrun]<;>rfl
  ·have hlt:=hS.lt hj
   simp [hlt]
  intro q _ hq
  simp [Ne.symm hq])
end
end Go.Proofs.Wit
namespace Go.Proofs.Wit
open Go Go.RowKit
def NV.v (n:NV):Value:=.agg #[dP n.op,dP n.i,dP n.e,dP n.g,dP n.x,dP n.y]
structure FA (w:World) (a:Option Addr) (f:List NV):Prop where
  at_:Sl w a (f.flatMap NV.cells)
theorem FA.a8 {w0 w:World} {a:Option Addr} {f:List NV} (h:FA w0 a f) {S:List Nat} (e:Ex S w0 w) (hS:∀b o,a=some ⟨b,o,none⟩→b∉S:=by simp):FA w a f:=⟨Sl.ex h.at_ e hS⟩
abbrev ja (e:TypeId) (ns:List NV) (sp:List Value):Obj:=.cells (ns.flatMap NV.cells++sp).toArray e (0,0)
theorem iJ {ns:List NV}:(ns.flatMap NV.cells).length=ns.length*6:=aO (enc:=NV.cells) (sz:=6) (fun _=>rfl)
theorem s8 {w0 w:World} {S:List Nat} {h:Hl} {Y:List (Nat×Obj)} (s:St w0 S w h Y) (j:Nat) {q:Option Nat} {ns:List NV} {e:TypeId} {sp:List Value} (hj:h[j]?=some (q,ja e ns sp)) (hq:q=none→ns.length=0):FA w (q.map (fun b=>⟨b,0,none⟩)) ns:=by
 cases q with
 |none=>rw [List.eq_nil_of_length_eq_zero (hq rfl)];exact ⟨Sl.nil _ _⟩
 |some b=>exact ⟨Sl.c5 (s.get hj)⟩
def da (e:TypeId) (w w':World) (v:Value) (ns:List NV):Prop:=
 ∃q cap sp,v=aU q ns.length cap∧(q=none→ns.length=0∧cap=0)∧(ns.flatMap NV.cells++sp).length=cap*6∧∀b,q=some b→w.heap.size≤b∧w'.heap[b]?=some (ja e ns sp)
theorem dS {t:TypeId} {w0 w w':World} {S:List Nat} {h:Hl} {Y:List (Nat×Obj)} (s:St w0 S w h Y) (e:Ex [] w w') {v:Value} {ns:List NV} (ho:da t w w' v ns):
  ∃q cap sp,v=aU q ns.length cap∧(q=none→ns.length=0∧cap=0)∧(ns.flatMap NV.cells++sp).length=cap*6∧St w0 S w' ((q,ja t ns sp)::h) Y:=by
 obtain ⟨q,cap,sp,h1,h2,h3,h4⟩:=ho
 refine ⟨q,cap,sp,h1,h2,h3,?_⟩
 cases q with
 |none=>exact (s.later e).none _
 |some b=>exact s.kS e (h4 b rfl).2 rfl (h4 b rfl).1
theorem da.mk {t:TypeId} {w0 w:World} {h:Hl} {Y:List (Nat×Obj)} (s:St w0 [] w h Y) (j:Nat) {q:Option Nat} {ns:List NV} {sp:List Value} {cap m:Nat} (hj:h[j]?=some (q,ja t ns sp)) (hm:m=ns.length)
  (hq:q=none→ns.length=0∧cap=0) (hcap:(ns.flatMap NV.cells++sp).length=cap*6):da t w0 w (aU q m cap) ns:=by
 subst hm
 refine ⟨q,cap,sp,rfl,hq,hcap,fun b hb=>?_⟩
 subst hb
 exact ⟨s.fresh hj,s.get hj⟩
theorem da.il {t:TypeId} {w w':World}:da t w w' (.slice none 0 0) []:=⟨none,0,[],rfl,fun _=>⟨rfl,rfl⟩,rfl,fun _ e=>by cases e⟩
section
variable {P:Program} {r:Option Nat} {f:FuncId} {R:Value→World→Prop} {w0:World} {S:List Nat} {Y:List (Nat×Obj)} {n:Nat} {k:List Item} {l:Fl} {h:Hl}
variable {ops:Array Oper} {i d:Nat} {rest:List Nat} {ty:TypeId} {pos:String} {aft:Array Edge} {g:Option (Nat×Bool)}
theorem ah.nF {x:Operand} {a:Addr} (ho:ops[i]?=some ⟨some d,.nilCheck x,ty,pos,aft,g⟩) (hw:al ops l g=true) (hx:aA l x=some (.pointer (some a))) (hd:Nat.blt d n=true):ah P w0 S n h ops i l d (.pointer (some a)):=
 .of ho hw rfl rfl hd (fun t' w Ds _ hF hS=>⟨.value (.pointer (some a)),by simp only [execOp,hF.aA hx];rfl,rfl⟩)
end
def jb (fs:Array Field) (it:TypeId):Prop:=∃f0 f1 f2 f3 f4 f5:Field,fs=#[f0,f1,f2,f3,f4,f5]∧
 (f0.name ≠ "_" ∧ f0.type = it ∧ f0.offset = 0) ∧ (f1.name ≠ "_" ∧ f1.type = it ∧ f1.offset = 1) ∧ (f2.name ≠ "_" ∧ f2.type = it ∧ f2.offset = 2) ∧
 (f3.name ≠ "_" ∧ f3.type = it ∧ f3.offset = 3) ∧ (f4.name ≠ "_" ∧ f4.type = it ∧ f4.offset = 4) ∧ (f5.name ≠ "_" ∧ f5.type = it ∧ f5.offset = 5)
theorem mA {P:Program} {t it:TypeId} {fs:Array Field} (hu:P.underlying t=some (.struct fs)) (hfs:jb fs it) (hi:P.underlying it=some (.int .i64)) (ha:∀w,(isAgg it).run P w=.ok false w) (hst:P.stoodInHeld t=false) (m:Nat) (a b:NV) (w:World):
  (Op.equalIn (m+2) t a.v b.v).run P w=.ok (a==b) w:=by
 obtain ⟨f0,f1,f2,f3,f4,f5,rfl,⟨n0,t0,o0⟩,⟨n1,t1,o1⟩,⟨n2,t2,o2⟩,⟨n3,t3,o3⟩,⟨n4,t4,o4⟩,⟨n5,t5,o5⟩⟩:=hfs
 have hp:∀(c:NV) (w:World),(part it c.v.cells 0).run P w=.ok (dP c.op) w∧(part it c.v.cells 1).run P w=.ok (dP c.i) w∧(part it c.v.cells 2).run P w=.ok (dP c.e) w∧(part it c.v.cells 3).run P w=.ok (dP c.g) w∧(part it c.v.cells 4).run P w=.ok (dP c.x) w∧(part it c.v.cells 5).run P w=.ok (dP c.y) w:=fun c w=>
  ⟨dQ ha rfl w,dQ ha rfl w,dQ ha rfl w,dQ ha rfl w,dQ ha rfl w,dQ ha rfl w⟩
 obtain ⟨a0,a1,a2,a3,a4,a5⟩:=hp a w
 obtain ⟨b0,b1,b2,b3,b4,b5⟩:=hp b w
 have hq:∀p q:Int,(Op.equalIn (m+1) it (.int .i64 p) (.int .i64 q)).run P w=.ok (p==q) w:=fun p q=>oe m hi w
 have hv:∀c:NV,c.v=.agg c.v.cells:=fun c=>rfl
 rw [hv a,hv b,show m+2=(m+1)+1 from rfl,Op.equalIn]
 have hprog:(program:Sem Program).run P w=.ok P w:=rfl
 simp only [Sem.run_bind,run_underlying hu,Result.andThen_ok,hprog,hst,←Array.forIn_toList]
 have hab:(a==b)=(a.op==b.op && (a.i==b.i && (a.e==b.e && (a.g==b.g && (a.x==b.x && a.y==b.y))))):=by
  rw [Bool.eq_iff_iff]
  simp only [beq_iff_eq,Bool.and_eq_true]
  obtain ⟨_,_,_,_,_,_⟩:=a
  obtain ⟨_,_,_,_,_,_⟩:=b
  simp [NV.mk.injEq]
 rw [hab]
 cases h0:a.op==b.op
 ·simp [n0,t0,o0,a0,b0,hq,h0]
 cases h1:a.i==b.i
 ·simp [n0,t0,o0,a0,b0,hq,h0,n1,t1,o1,a1,b1,h1]
 cases h2:a.e==b.e
 ·simp [n0,t0,o0,a0,b0,hq,h0,n1,t1,o1,a1,b1,h1,n2,t2,o2,a2,b2,h2]
 cases h3:a.g==b.g
 ·simp [n0,t0,o0,a0,b0,hq,h0,n1,t1,o1,a1,b1,h1,n2,t2,o2,a2,b2,h2,n3,t3,o3,a3,b3,h3]
 cases h4:a.x==b.x
 ·simp [n0,t0,o0,a0,b0,hq,h0,n1,t1,o1,a1,b1,h1,n2,t2,o2,a2,b2,h2,n3,t3,o3,a3,b3,h3,n4,t4,o4,a4,b4,h4]
 cases h5:a.y==b.y
 ·simp [n0,t0,o0,a0,b0,hq,h0,n1,t1,o1,a1,b1,h1,n2,t2,o2,a2,b2,h2,n3,t3,o3,a3,b3,h3,n4,t4,o4,a4,b4,h4,n5,t5,o5,a5,b5,h5]
 simp [n0,t0,o0,a0,b0,hq,h0,n1,t1,o1,a1,b1,h1,n2,t2,o2,a2,b2,h2,n3,t3,o3,a3,b3,h3,n4,t4,o4,a4,b4,h4,n5,t5,o5,a5,b5,h5]
theorem oj {P:Program} {t it:TypeId} {fs:Array Field} (hu:P.underlying t=some (.struct fs)) (hfs:jb fs it) (hi:P.underlying it=some (.int .i64)) (ha:∀w,(isAgg it).run P w=.ok false w) (e:Bool) (m:Nat) (a:NV) (w:World):
  (Instr.checkKey e (m+2) t a.v).run P w=.ok () w:=by
 obtain ⟨f0,f1,f2,f3,f4,f5,rfl,⟨n0,t0,o0⟩,⟨n1,t1,o1⟩,⟨n2,t2,o2⟩,⟨n3,t3,o3⟩,⟨n4,t4,o4⟩,⟨n5,t5,o5⟩⟩:=hfs
 have a0:(part it a.v.cells 0).run P w=.ok (dP a.op) w:=dQ ha rfl w
 have a1:(part it a.v.cells 1).run P w=.ok (dP a.i) w:=dQ ha rfl w
 have a2:(part it a.v.cells 2).run P w=.ok (dP a.e) w:=dQ ha rfl w
 have a3:(part it a.v.cells 3).run P w=.ok (dP a.g) w:=dQ ha rfl w
 have a4:(part it a.v.cells 4).run P w=.ok (dP a.x) w:=dQ ha rfl w
 have a5:(part it a.v.cells 5).run P w=.ok (dP a.y) w:=dQ ha rfl w
 have hk:∀p:Int,(Instr.checkKey e (m+1) it (.int .i64 p)).run P w=.ok () w:=fun p=>Go.MapKept.run_checkKey hi (by simp [Go.MapKept.IsKey]) e m
 rw [show a.v=.agg a.v.cells from rfl,show m+2=(m+1)+1 from rfl,Instr.checkKey]
 simp only [Sem.run_bind,run_underlying hu,Result.andThen_ok,←Array.forIn_toList]
 simp [n0,t0,o0,a0,hk,n1,t1,o1,a1,n2,t2,o2,a2,n3,t3,o3,a3,n4,t4,o4,a4,n5,t5,o5,a5]
theorem cP.node {P:Program} {t it:TypeId} {fs:Array Field} (hu:P.underlying t=some (.struct fs)) (hfs:jb fs it) (hi:P.underlying it=some (.int .i64)) (ha:∀w,(isAgg it).run P w=.ok false w) (hst:P.stoodInHeld t=false):cP P t NV.v (fun a b=>a==b):=by
 refine ⟨fun e a w=>oj hu hfs hi ha e 9998 a w,fun ev L k w=>?_⟩
 have hq:∀a b:NV,(Op.equal t a.v b.v).run P w=.ok (a==b) w:=fun a b=>mA hu hfs hi ha hst 9998 a b w
 simp only [Instr.findKey,Sem.run_bind,run_underlying hu,Result.andThen_ok]
 cases L with
 |nil=>rfl
 |cons p L=>
  have h0:Instr.findNow (.struct fs) k.v (bg NV.v ev (p::L) 0) 0=none:=rfl
  rw [h0]
  exact g7 (q:=fun a b:NV=>a==b) hq
end Go.Proofs.Wit
namespace Go.Proofs.Wit
open Go Go.RowKit
/-- static: what only reads, and alone writes its slot -/
def ec (ops:Array Oper) (i:Nat):Bool:=match ops[i]? with
 |none=>false
 |some o=>bY o.op && match o.dst with
  |none=>false
  |some d=>(List.range ops.size).all (fun j=>Nat.beq j i||(!(aF ops j==some d) && (match ops[j]? with
   |none=>true
   |some p=>(!(cz ops p).contains d||(aQ ops j).contains i||(aQ ops i).contains j)) && (match aF ops j with
   |none=>true
   |some e=>(!(cz ops o).contains e||(aQ ops i).contains j||(aQ ops j).contains i))))
structure oH (ops:Array Oper) (i d:Nat):Prop where
  oL:∀o,ops[i]?=some o→bY o.op=true
  dst:aF ops i=some d
  one:∀j,j<ops.size→j≠i→aF ops j≠some d
  seen:∀j p,j<ops.size→j≠i→ops[j]?=some p→d∈cz ops p→i∈aQ ops j∨j∈aQ ops i
  so:∀j e o,j<ops.size→j≠i→aF ops j=some e→ops[i]?=some o→e∈cz ops o→j∈aQ ops i∨i∈aQ ops j
theorem jE {ops:Array Oper} {i:Nat} (h:ec ops i=true):∃d,oH ops i d:=by
 unfold ec at h
 split at h
 ·cases h
 rename_i o ho
 rw [Bool.and_eq_true] at h
 obtain ⟨h1,h2⟩:=h
 split at h2
 ·cases h2
 rename_i d hd
 simp only [List.all_eq_true,List.mem_range,Bool.or_eq_true,Nat.beq_eq,Bool.and_eq_true,Bool.not_eq_true'] at h2
 refine ⟨d,fun p hp=>by rw [ho] at hp;cases hp;exact h1,by simp [aF,ho,hd],fun j hj hne=>?_,fun j p hj hne hp hm=>?_,fun j e p hj hne he hp hm=>?_⟩
 ·rcases h2 j hj with h|h
  ·exact absurd h hne
  ·simpa using h.1.1
 ·rcases h2 j hj with h|h
  ·exact absurd h hne
  ·have:=h.1.2
   rw [hp] at this
   simp only [Bool.or_eq_true,Bool.not_eq_true'] at this
   rcases this with (h3|h3)|h3
   ·rw [List.contains_eq_mem,decide_eq_false_iff_not] at h3;exact absurd hm h3
   ·exact .inl (by simpa using h3)
   exact .inr (by simpa using h3)
 rcases h2 j hj with h|h
 ·exact absurd h hne
 have:=h.2
 rw [he] at this
 simp only [Bool.or_eq_true,Bool.not_eq_true'] at this
 rw [ho] at hp;cases hp
 rcases this with (h3|h3)|h3
 ·rw [List.contains_eq_mem,decide_eq_false_iff_not] at h3;exact absurd hm h3
 ·exact .inl (by simpa using h3)
 exact .inr (by simpa using h3)
section
variable {P:Program} {r:Option Nat} {f:FuncId} {R:Value→World→Prop} {w0:World} {S:List Nat} {Y:List (Nat×Obj)} {n:Nat} {k:List Item} {l:Fl} {h:Hl} {ops:Array Oper}
def cj (P:Program) (w0:World) (S:List Nat) (n:Nat) (ops:Array Oper) (i:Nat) (t:Array Value) (h:Hl) (K:Array Value→Hl→Prop):Prop:=
 ∃o d,ops[i]?=some o∧o.dst=some d∧bJ o.op=false∧bY o.op=true∧d<n∧
  ((Region.wanted o (yielded ops t)=true∧∀(w:World) (Ds:List Nat) (Y':List (Nat×Obj)),St w0 S w h Y'→
   (∃v w' h',(execOp (Act.eval ⟨t,Ds.map mark⟩) o).run P w=.ok (.value v) w'∧St w0 S w' h' Y'∧K (t.setIfInBounds d v) h')∨
   (∃gf args,∃Rc:Value→World→Prop,(execOp (Act.eval ⟨t,Ds.map mark⟩) o).run P w=.ok (.enter gf args) w∧(Calls P gf args w fun e w'=>∃v,e=.returned v∧Rc v w')∧∀v w',Rc v w'→∃h',St w0 S w' h' Y'∧K (t.setIfInBounds d v) h'))∨
  (Region.wanted o (yielded ops t)=false∧K (t.setIfInBounds d undef) h))
theorem cj.of {i d:Nat} {K:Value→Hl→Prop} {K':Array Value→Hl→Prop} {t:Array Value} (hm:dX P w0 S n h ops i l d K) (hF:du n t l) (hK:∀v h',K v h'→K' (t.setIfInBounds d v) h'):cj P w0 S n ops i t h K':=by
 obtain ⟨o,ho,hdst,hnd,hsel,hd,hr⟩:=hm
 refine ⟨o,d,ho,hdst,hnd,hsel,by simpa [Nat.blt_eq] using hd,?_⟩
 rcases hr with ⟨hw,hr⟩|⟨hs,hk⟩
 ·refine .inl ⟨bu hF hw,fun w Ds Y' hS=>?_⟩
  rcases hr t w Ds Y' hF hS with ⟨v,w',h',h1,h2,h3⟩|⟨gf,args,Rc,h1,h2,h3⟩
  ·exact .inl ⟨v,w',h',h1,h2,hK v h' h3⟩
  refine .inr ⟨gf,args,Rc,h1,h2,fun v w' hR=>?_⟩
  obtain ⟨h',h4,h5⟩:=h3 v w' hR
  exact ⟨h',h4,hK v h' h5⟩
 exact .inr ⟨e8 hF hs,hK undef h hk⟩
theorem cj.congr {i:Nat} {t t':Array Value} {K K':Array Value→Hl→Prop} (hm:cj P w0 S n ops i t h K) (hs:t'.size=t.size) (he:∀o,ops[i]?=some o→∀s∈cz ops o,t'.getD s undef=t.getD s undef)
  (hK:∀d v h',aF ops i=some d→K (t.setIfInBounds d v) h'→K' (t'.setIfInBounds d v) h'):cj P w0 S n ops i t' h K':=by
 obtain ⟨o,d,ho,hdst,hnd,hsel,hd,hr⟩:=hm
 have hdo:aF ops i=some d:=by simp [aF,ho,hdst]
 have hw:=dG (ops:=ops) (o:=o) hs (he o ho)
 refine ⟨o,d,ho,hdst,hnd,hsel,hd,?_⟩
 rcases hr with ⟨hwant,hr⟩|⟨hskip,hk⟩
 ·refine .inl ⟨hw.trans hwant,fun w Ds Y' hS=>?_⟩
  have hexec:execOp (Act.eval ⟨t',Ds.map mark⟩) o=execOp (Act.eval ⟨t,Ds.map mark⟩) o:=execOp_congr (ρ':=Act.eval ⟨t,Ds.map mark⟩) o (fun cs bb e=>by rw [e] at hsel;cases hsel) (fun x hx=>by
   cases x with
   |tmp s=>exact he o ho s (by
     simp only [cz,List.mem_append]
     exact .inr (List.mem_filterMap.2 ⟨.tmp s,by simpa using hx,rfl⟩))
   |const v=>rfl
   |global g=>rfl
   |func g=>rfl)
  rw [hexec]
  rcases hr w Ds Y' hS with ⟨v,w',h',h1,h2,h3⟩|⟨gf,args,Rc,h1,h2,h3⟩
  ·exact .inl ⟨v,w',h',h1,h2,hK d v h' hdo h3⟩
  refine .inr ⟨gf,args,Rc,h1,h2,fun v w' hR=>?_⟩
  obtain ⟨h',h4,h5⟩:=h3 v w' hR
  exact ⟨h',h4,hK d v h' hdo h5⟩
 exact .inr ⟨hw.trans hskip,hK d undef h hdo hk⟩
theorem cj.pure {i d:Nat} {v:Value} {t:Array Value} {hb:Hl} {K:Array Value→Hl→Prop} (ho:dW P w0 S n hb ops i t d v) (hsel:∀o,ops[i]?=some o→bY o.op=true) (hs:hb.Sublist h) (hK:K (t.setIfInBounds d v) h):cj P w0 S n ops i t h K:=by
 obtain ⟨o,h1,h2,h3,h4,h5⟩:=ho
 refine ⟨o,d,h1,h2,h4,hsel o h1,h3,?_⟩
 rcases h5 with ⟨a,b⟩|⟨a,rfl⟩
 ·refine .inl ⟨a,fun w Ds Y' hS=>?_⟩
  rcases b w Ds Y' (hS.bR hs) with hb2|⟨gf,args,hb2,hcall⟩
  ·exact .inl ⟨v,w,h,hb2,hS,hK⟩
  exact .inr ⟨gf,args,_,hb2,hcall,fun u w' ⟨he,hu⟩=>⟨h,hS.later he,by rw [hu];exact hK⟩⟩
 exact .inr ⟨a,hK⟩
def Dt (P:Program) (r:Option Nat) (f:FuncId) (R:Value→World→Prop) (w0:World) (S:List Nat) (Y:List (Nat×Obj)) (n:Nat) (k:List Item) (ops:Array Oper) (hb:Hl):Nat→List Nat→Array Value→Hl→Prop
 |0,_,_,_=>False
 |q+1,D,t,h=>
  (av ops D=[]∧∀w Ds,St w0 S w h (gA Ds++Y)→aY P r f R (.inRegion ops []::k) t (Ds.map mark) w)∨
  (av ops D≠[]∧∀i∈av ops D,cj P w0 S n ops i t h (fun t' h'=>hb.Sublist h'∧Dt P r f R w0 S Y n k ops hb q (i::D) t' h'))
theorem cj.mono {i:Nat} {t:Array Value} {K K':Array Value→Hl→Prop} (hm:cj P w0 S n ops i t h K) (hK:∀t' h',K t' h'→K' t' h'):cj P w0 S n ops i t h K':=hm.congr rfl (fun _ _ _ _=>rfl) (fun _ _ _ _ h=>hK _ _ h)
theorem Dt.perm {hb:Hl}:∀{q:Nat} {D D':List Nat} {t:Array Value} {h:Hl},(∀j,j∈D↔j∈D')→Dt P r f R w0 S Y n k ops hb q D t h→Dt P r f R w0 S Y n k ops hb q D' t h
 |0,_,_,_,_,_,hd=>hd
 |q+1,D,D',t,h,hp,hd=>by
  rw [Dt] at hd⊢
  rw [←fh hp]
  rcases hd with hd|⟨h1,h2⟩
  ·exact .inl hd
  exact .inr ⟨h1,fun i hi=>(h2 i hi).mono (fun t' h' ⟨e1,e2⟩=>⟨e1,e2.perm (fun j=>by rw [List.mem_cons,List.mem_cons,hp j])⟩)⟩
theorem set_comm {t:Array Value} {d e:Nat} {u v:Value} (hne:d≠e):(t.setIfInBounds d u).setIfInBounds e v=(t.setIfInBounds e v).setIfInBounds d u:=by
 apply Array.ext_getElem?
 intro j
 simp only [Array.getElem?_setIfInBounds,Array.size_setIfInBounds]
 by_cases h1:e=j
 ·by_cases h2:d=j
  ·exact absurd (h2.trans h1.symm) hne
  ·simp [h1,h2]
 by_cases h2:d=j<;>simp [h1,h2]
theorem Dt.pure {hb:Hl} {i d:Nat} (hf:oH ops i d) (hd:d<n):∀{q:Nat} {D:List Nat} {t:Array Value} {h:Hl} {v:Value},t.size=n→i∈av ops D→dW P w0 S n hb ops i t d v→hb.Sublist h→Dt P r f R w0 S Y n k ops hb q (i::D) (t.setIfInBounds d v) h→Dt P r f R w0 S Y n k ops hb (q+1) D t h
 |0,_,_,_,_,_,_,_,_,hd=>hd.elim
 |q+1,D,t,h,v,hts,hi,ho,hs,hdt=>by
  have hme:cj P w0 S n ops i t h (fun t' h'=>hb.Sublist h'∧Dt P r f R w0 S Y n k ops hb (q+1) (i::D) t' h'):=cj.pure ho hf.oL hs ⟨hs,hdt⟩
  have hne:av ops D≠[]:=fun e=>by rw [e] at hi;cases hi
  obtain ⟨hiS,hiD,hid⟩:=aE.1 hi
  rw [Dt]
  refine .inr ⟨hne,fun j hj=>?_⟩
  by_cases hji:j=i
  ·rw [hji];exact hme
  obtain ⟨hjS,hjD,hjd⟩:=aE.1 hj
  have hj2:j∈av ops (i::D):=aE.2 ⟨hjS,by simp [hji,hjD],fun e he=>List.mem_cons_of_mem _ (hjd e he)⟩
  rw [Dt] at hdt
  rcases hdt with ⟨h1,_⟩|⟨_,h2⟩
  ·rw [h1] at hj2;cases hj2
  have hjo:∀o,ops[j]?=some o→d∉cz ops o:=fun o hoo hm=>(hf.seen j o hjS hji hoo hm).elim (fun h5=>hiD (hjd i h5)) (fun h5=>hjD (hid j h5))
  refine (h2 j hj2).congr (by simp) (fun o hoo s hse=>?_) (fun e u h' hde hk=>?_)
  ·have hds:d≠s:=fun e1=>hjo o hoo (by rw [e1];exact hse)
   rw [a6 (by rw [hts];exact hd),if_neg hds]
  obtain ⟨hk1,hk2⟩:=hk
  refine ⟨hk1,?_⟩
  have hde2:d≠e:=fun e1=>hf.one j hjS hji (by rw [hde,e1])
  rw [set_comm hde2] at hk2
  have hi2:i∈av ops (j::D):=aE.2 ⟨hiS,by simp [Ne.symm hji,hiD],fun e he=>List.mem_cons_of_mem _ (hid e he)⟩
  refine Dt.pure hf hd (by simpa using hts) hi2 (ho.congr hf.oL (by simp) (fun o hoo s hse=>?_)) hk1 (hk2.perm (fun x=>by simp only [List.mem_cons];exact or_left_comm))
  have hes:e≠s:=fun e1=>by
   subst e1
   rcases hf.so j e o hjS hji hde hoo hse with h5|h5
   ·exact hjD (hid j h5)
   exact hiD (hjd i h5)
  by_cases hlt:e<t.size
  ·rw [a6 hlt,if_neg hes]
  rw [show t.setIfInBounds e u=t from Array.setIfInBounds_eq_of_size_le (Nat.le_of_not_lt hlt)]
theorem Dt.go {hb:Hl}:∀(fuel τ:Nat) (arr:Array Bool) (D:List Nat) (q:Nat) (t:Array Value) (h:Hl) (w:World) (Ds:List Nat),arr.size=ops.size→(∀j,arr.getD j false=D.contains j)→Dt P r f R w0 S Y n k ops hb q D t h→St w0 S w h (gA Ds++Y)→(List.range ops.size).countP (fun j=>!D.contains j)≤fuel→
  aY P r f R (.inRegion ops (Region.linearise.go .any ops fuel τ arr [])::k) t (Ds.map mark) w
 |_,_,_,_,0,_,_,_,_,_,_,hd,_,_=>hd.elim
 |fuel,τ,arr,D,q+1,t,h,w,Ds,hs,ha,hd,hS,hfu=>by
  rw [Dt] at hd
  rcases hd with ⟨h0,hg⟩|⟨h1,h2⟩
  ·have:Region.linearise.go .any ops fuel τ arr []=[]:=by
    cases fuel with
    |zero=>rfl
    |succ fuel=>
     simp only [Region.linearise.go]
     change (match (Region.ready .any ops arr)[_%(Region.ready .any ops arr).length]? with
      |some i=>_
      |none=>[].reverse)=[]
     rw [dx hs ha,h0];rfl
   rw [this];exact hg w Ds hS
  cases fuel with
  |zero=>
   exfalso
   obtain ⟨x,hx⟩:=List.exists_mem_of_ne_nil _ h1
   obtain ⟨e1,e2,_⟩:=aE.1 hx
   have:0<(List.range ops.size).countP (fun j=>!D.contains j):=List.countP_pos_iff.2 ⟨x,by simpa using e1,by simpa using e2⟩
   omega
  |succ fuel=>
   have hpos:0<(av ops D).length:=List.length_pos_iff.2 h1
   simp only [Region.linearise.go]
   change aY P r f R (.inRegion ops (match (Region.ready .any ops arr)[τ%(Region.ready .any ops arr).length]? with
    |some i=>Region.linearise.go .any ops fuel (τ / (Region.ready .any ops arr).length) (arr.setIfInBounds i true) [i]
    |none=>[].reverse)::k) t (Ds.map mark) w
   rw [dx hs ha]
   have hlt:τ%(av ops D).length<(av ops D).length:=Nat.mod_lt _ hpos
   rw [List.getElem?_eq_getElem hlt]
   obtain ⟨x,hx⟩:∃x,x=(av ops D)[τ%(av ops D).length]:=⟨_,rfl⟩
   rw [←hx]
   have hxm:x∈av ops D:=by rw [hx];exact List.getElem_mem hlt
   obtain ⟨e1,e2,_⟩:=aE.1 hxm
   dsimp only
   rw [linearise_go_acc,List.reverse_singleton,List.singleton_append]
   have hnext:∀(t':Array Value) (h':Hl) (w':World),hb.Sublist h'∧Dt P r f R w0 S Y n k ops hb q (x::D) t' h'→St w0 S w' h' (gA Ds++Y)→aY P r f R (.inRegion ops (Region.linearise.go .any ops fuel (τ / (av ops D).length) (arr.setIfInBounds x true) [])::k) t' (Ds.map mark) w':=fun t' h' w' hK hS'=>by
    refine Dt.go fuel _ _ (x::D) q t' h' w' Ds (by simpa using hs) (fun j=>?_) hK.2 hS' ?_
    ·rw [aB (by omega),ha j,List.contains_cons]
     split
     ·rename_i e;subst e;simp
     rename_i e;rw [beq_false_of_ne (Ne.symm e)];rfl
    have:=eA (l:=List.range ops.size) (p:=fun j=>!(x::D).contains j) (q:=fun j=>!D.contains j) (fun y _ hy=>by simp at hy⊢;exact hy.2) ⟨x,by simpa using e1,by simpa using e2,by simp⟩
    omega
   obtain ⟨o,d,ho,hdst,hnd,hsel,hdn,hr⟩:=h2 x hxm
   rcases hr with ⟨hw,hr⟩|⟨hw,hk⟩
   ·rcases hr w Ds _ hS with ⟨v,w',h',h3,h4,h5⟩|⟨gf,args,Rc,h3,h4,h5⟩
    ·refine aY.op ho hw (aR hnd) h3 (.inl rfl) ?_
     rw [hdst];exact hnext _ _ _ h5 h4
    ·refine aY.call ho hw (aR hnd) h3 h4 (fun u w2 hu=>?_)
     obtain ⟨h',h6,h7⟩:=h5 u w2 hu
     rw [hdst];exact hnext _ _ _ h7 h6
   refine aY.fE ho hw ?_
   rw [hdst];exact hnext _ _ _ hk hS
def cE (P:Program) (r:Option Nat) (f:FuncId) (R:Value→World→Prop) (w0:World) (S:List Nat) (Y:List (Nat×Obj)) (n:Nat) (k:List Item) (ops:Array Oper) (hb:Hl) (q:Nat) (D:List Nat) (l:Fl) (h:Hl):Prop:=
 ∀t,du n t l→Dt P r f R w0 S Y n k ops hb q D t h
variable {hb:Hl} {q:Nat} {D:List Nat}
theorem aa.lS {id:Nat} (q:Nat) (hb:Hl) (hmix:P.follows .mixedOrders=true) (hg:cE P r f R w0 S Y n k ops hb q [] l h):aa P r f R w0 S Y n (.code (.region id ops true)::k) l h:=by
 intro t w Ds hF hS
 refine .dI (fun τ=>?_)
 simp only [Region.schedule,hmix,Bool.true_or,if_true,Region.linearise]
 refine Dt.go ops.size τ _ [] q t h _ Ds (by simp) (fun j=>?_) (hg t hF) hS.drew ?_
 ·simp [Array.getD_eq_getD_getElem?,Array.getElem?_replicate];split<;>simp
 exact Nat.le_trans List.countP_le_length (by simp)
theorem aa.oh {id:Nat} (q:Nat) (hmix:P.follows .mixedOrders=true) (hg:cE P r f R w0 S Y n k ops h q [] l h):aa P r f R w0 S Y n (.code (.region id ops true)::k) l h:=aa.lS q h hmix hg
theorem cE.done (h0:av ops D=[]) (hg:aa P r f R w0 S Y n (.inRegion ops []::k) l h):cE P r f R w0 S Y n k ops hb (q+1) D l h:=fun t hF=>.inl ⟨h0,fun w Ds hS=>hg t w Ds hF hS⟩
theorem cE.pk {i d:Nat} {v:Value} (hi:(av ops D).contains i=true) (hp:ec ops i=true) (ho:∀t,du n t l→dW P w0 S n hb ops i t d v) (hs:hb.Sublist h) (hg:cE P r f R w0 S Y n k ops hb q (i::D) ((d,v)::l) h):cE P r f R w0 S Y n k ops hb (q+1) D l h:=by
 intro t hF
 obtain ⟨d',hf⟩:=jE hp
 have hO:=ho t hF
 obtain ⟨o,h1,h2,h3,_⟩:=hO
 have e:d'=d:=by
  have:=hf.dst
  simp [aF,h1,h2] at this;exact this.symm
 subst e
 exact Dt.pure hf h3 hF.1 (by simpa using hi) (ho t hF) hs (hg _ (hF.put v (by simpa [Nat.blt_eq] using h3)))
theorem cE.v {i d:Nat} {v:Value} (hv:ah P w0 S n hb ops i l d v) (hi:(av ops D).contains i=true) (hp:ec ops i=true) (hs:hb.Sublist h) (hg:cE P r f R w0 S Y n k ops hb q (i::D) ((d,v)::l) h):cE P r f R w0 S Y n k ops hb (q+1) D l h:=by
 refine cE.pk hi hp (fun t hF=>?_) hs hg
 obtain ⟨o,ho,hw,hdst,hnd,hd,hr⟩:=hv
 exact ⟨o,ho,hdst,by simpa [Nat.blt_eq] using hd,hnd,.inl ⟨bu hF hw,fun w Ds Y' hS=>by
  obtain ⟨nx,h1,rfl⟩:=hr t w Ds Y' hF hS;exact .inl h1⟩⟩
theorem cE.one {i d:Nat} (h1:av ops D=[i]) (hm:dX P w0 S n h ops i l d (fun v h'=>hb.Sublist h'∧cE P r f R w0 S Y n k ops hb q (i::D) ((d,v)::l) h')) (hd:Nat.blt d n=true):cE P r f R w0 S Y n k ops hb (q+1) D l h:=by
 intro t hF
 rw [Dt]
 refine .inr ⟨by rw [h1];simp,fun j hj=>?_⟩
 rw [h1] at hj;obtain rfl:=List.mem_singleton.1 hj
 exact cj.of hm hF (fun v h' ⟨e1,e2⟩=>⟨e1,e2 _ (hF.put v hd)⟩)
theorem cE.call {i d:Nat} {ty:TypeId} {pos:String} {aft:Array Edge} {g:Option (Nat×Bool)} {az:Array Operand} {ts:Array TypeId} {cal:Operand} {gf:FuncId} {vs:List Value} (Rc:World→Value→World→Prop) (h1:av ops D=[i]) (ho:ops[i]?=some ⟨some d,.call ⟨.value cal,az,ts⟩,ty,pos,aft,g⟩) (hw:al ops l g=true)
  (hc:aA l cal=some (.func (.func gf) #[] #[])) (hx:cy l az.toList=some vs) (hd:Nat.blt d n=true) (hcf:∀args w,(callFunc gf args).run P w=.ok (.enter gf args) w)
  (hcall:∀w Y',St w0 S w h Y'→Cn P gf vs w (Rc w))
  (hk:∀v w w' Y',St w0 S w h Y'→Ex [] w w'→Rc w v w'→∃h',St w0 S w' h' Y'∧hb.Sublist h'∧cE P r f R w0 S Y n k ops hb q (i::D) ((d,v)::l) h'):cE P r f R w0 S Y n k ops hb (q+1) D l h:=
 cE.one h1 (dX.call Rc ho hw hc hx hd hcf hcall (fun v w w' Y' hS he hr=>by
  obtain ⟨h',e1,e2,e3⟩:=hk v w w' Y' hS he hr;exact ⟨h',e1,e2,e3⟩)) hd
end
end Go.Proofs.Wit
namespace Go.Proofs.Wit
open Go Go.RowKit
section
variable {P:Program} {r:Option Nat} {f:FuncId} {R:Value→World→Prop} {w0:World} {S:List Nat} {Y:List (Nat×Obj)} {n:Nat} {k:List Item} {l:Fl} {h:Hl} {ops:Array Oper} {i d m:Nat} {rest:List Nat} {ty:TypeId} {pos:String} {aft:Array Edge} {g:Option (Nat×Bool)}
theorem gE (hk:aa P r f R w0 S Y n k l h):aa P r f R w0 S Y n (.inRegion ops []::k) l h:=.ep hk
theorem gS {x y:Code} (hk:aa P r f R w0 S Y n (.code x::.code y::k) l h):aa P r f R w0 S Y n (.code (.seq x y)::k) l h:=.seq hk
theorem gR {id:Nat} (hk:aa P r f R w0 S Y n (.inRegion ops (List.range' 0 ops.size)::k) l h):aa P r f R w0 S Y n (.code (.region id ops false)::k) l h:=.region hk
theorem gK (hk:aa P r f R w0 S Y n k l h):aa P r f R w0 S Y n (.code .skip::k) l h:=.skip hk
theorem gB {id:Nat} {c:Code} (hk:aa P r f R w0 S Y n (.code c::.inBlock id::k) l h):aa P r f R w0 S Y n (.code (.block id c)::k) l h:=.block hk
theorem cu {id:Nat} (hk:aa P r f R w0 S Y n k l h):aa P r f R w0 S Y n (.inBlock id::k) l h:=.inBlock hk
theorem ad {x:Operand} {v:Value} (hk:aa P r f R w0 S Y n (.inRegion ops rest::k) ((d,v)::l) h) (ho:ops[i]?=some ⟨some d,.move x,ty,pos,aft,g⟩:=by exact rfl) (hw:al ops l g=true:=by exact rfl) (hx:aA l x=some v:=by exact rfl) (hd:Nat.blt d n=true:=by exact rfl):aa P r f R w0 S Y n (.inRegion ops (i::rest)::k) l h:=aa.v (.mv ho hw hx hd) hk
theorem ik {x:Operand} {v:Value} (hk:ao P r f R w0 S Y n k ops (i+1) m ((d,v)::l) h) (ho:ops[i]?=some ⟨some d,.move x,ty,pos,aft,g⟩:=by exact rfl) (hw:al ops l g=true:=by exact rfl) (hx:aA l x=some v:=by exact rfl) (hd:Nat.blt d n=true:=by exact rfl):ao P r f R w0 S Y n k ops i (m+1) l h:=ao.v (.mv ho hw hx hd) hk
theorem ai {x:Operand} {v:Value} (hk:aa P r f R w0 S Y n (.inRegion ops rest::k) ((d,v)::l) h) (ho:ops[i]?=some ⟨some d,.assign x,ty,pos,aft,g⟩:=by exact rfl) (hw:al ops l g=true:=by exact rfl) (hx:aA l x=some v:=by exact rfl) (hd:Nat.blt d n=true:=by exact rfl):aa P r f R w0 S Y n (.inRegion ops (i::rest)::k) l h:=aa.v (.mR ho hw hx hd) hk
theorem r2 {x:Operand} {v:Value} (hk:ao P r f R w0 S Y n k ops (i+1) m ((d,v)::l) h) (ho:ops[i]?=some ⟨some d,.assign x,ty,pos,aft,g⟩:=by exact rfl) (hw:al ops l g=true:=by exact rfl) (hx:aA l x=some v:=by exact rfl) (hd:Nat.blt d n=true:=by exact rfl):ao P r f R w0 S Y n k ops i (m+1) l h:=ao.v (.mR ho hw hx hd) hk
theorem aV {c x y:Operand} {u:Value} (hk:aa P r f R w0 S Y n (.inRegion ops rest::k) ((d,u)::l) h) (ho:ops[i]?=some ⟨some d,.pick c x y,ty,pos,aft,g⟩:=by exact rfl) (hw:al ops l g=true:=by exact rfl) (hc:aA l c=some (.bool true):=by exact rfl) (hx:aA l x=some u:=by exact rfl) (hd:Nat.blt d n=true:=by exact rfl):aa P r f R w0 S Y n (.inRegion ops (i::rest)::k) l h:=aa.v (.c7 ho hw hc hx hd) hk
theorem u2 {c x y:Operand} {u:Value} (hk:ao P r f R w0 S Y n k ops (i+1) m ((d,u)::l) h) (ho:ops[i]?=some ⟨some d,.pick c x y,ty,pos,aft,g⟩:=by exact rfl) (hw:al ops l g=true:=by exact rfl) (hc:aA l c=some (.bool true):=by exact rfl) (hx:aA l x=some u:=by exact rfl) (hd:Nat.blt d n=true:=by exact rfl):ao P r f R w0 S Y n k ops i (m+1) l h:=ao.v (.c7 ho hw hc hx hd) hk
theorem aN {c x y:Operand} {u:Value} (hk:aa P r f R w0 S Y n (.inRegion ops rest::k) ((d,u)::l) h) (ho:ops[i]?=some ⟨some d,.pick c x y,ty,pos,aft,g⟩:=by exact rfl) (hw:al ops l g=true:=by exact rfl) (hc:aA l c=some (.bool false):=by exact rfl) (hx:aA l y=some u:=by exact rfl) (hd:Nat.blt d n=true:=by exact rfl):aa P r f R w0 S Y n (.inRegion ops (i::rest)::k) l h:=aa.v (.lE ho hw hc hx hd) hk
theorem u3 {c x y:Operand} {u:Value} (hk:ao P r f R w0 S Y n k ops (i+1) m ((d,u)::l) h) (ho:ops[i]?=some ⟨some d,.pick c x y,ty,pos,aft,g⟩:=by exact rfl) (hw:al ops l g=true:=by exact rfl) (hc:aA l c=some (.bool false):=by exact rfl) (hx:aA l y=some u:=by exact rfl) (hd:Nat.blt d n=true:=by exact rfl):ao P r f R w0 S Y n k ops i (m+1) l h:=ao.v (.lE ho hw hc hx hd) hk
theorem r6 {x:Operand} {a:Addr} (hk:aa P r f R w0 S Y n (.inRegion ops rest::k) ((d,.pointer (some a))::l) h) (ho:ops[i]?=some ⟨some d,.nilCheck x,ty,pos,aft,g⟩:=by exact rfl) (hw:al ops l g=true:=by exact rfl) (hx:aA l x=some (.pointer (some a)):=by exact rfl) (hd:Nat.blt d n=true:=by exact rfl):aa P r f R w0 S Y n (.inRegion ops (i::rest)::k) l h:=aa.v (.nF ho hw hx hd) hk
theorem u5 {x:Operand} {a:Addr} (hk:ao P r f R w0 S Y n k ops (i+1) m ((d,.pointer (some a))::l) h) (ho:ops[i]?=some ⟨some d,.nilCheck x,ty,pos,aft,g⟩:=by exact rfl) (hw:al ops l g=true:=by exact rfl) (hx:aA l x=some (.pointer (some a)):=by exact rfl) (hd:Nat.blt d n=true:=by exact rfl):ao P r f R w0 S Y n k ops i (m+1) l h:=ao.v (.nF ho hw hx hd) hk
theorem gZ {x:Operand} {j:Nat} {vs:Array Value} {v:Value} (hk:aa P r f R w0 S Y n (.inRegion ops rest::k) ((d,v)::l) h) (ho:ops[i]?=some ⟨some d,.extract x j,ty,pos,aft,g⟩:=by exact rfl) (hw:al ops l g=true:=by exact rfl) (hx:aA l x=some (.tuple vs):=by exact rfl) (hb:vs[j]?=some v:=by exact rfl) (hd:Nat.blt d n=true:=by exact rfl):aa P r f R w0 S Y n (.inRegion ops (i::rest)::k) l h:=aa.v (.ext ho hw hx hb hd) hk
theorem bP {o:UnOp} {tx:TypeId} {x:Operand} {a v:Value} (hb:uP P o a v) (hk:aa P r f R w0 S Y n (.inRegion ops rest::k) ((d,v)::l) h) (ho:ops[i]?=some ⟨some d,.unOp o tx x,ty,pos,aft,g⟩:=by exact rfl) (hw:al ops l g=true:=by exact rfl) (hx:aA l x=some a:=by exact rfl) (hd:Nat.blt d n=true:=by exact rfl):aa P r f R w0 S Y n (.inRegion ops (i::rest)::k) l h:=aa.v (.un ho hw hx hb hd) hk
theorem aL {o:BinOp} {tx tyy:TypeId} {x y:Operand} {a b v:Value} (hb:dF P o tx a b v) (hk:aa P r f R w0 S Y n (.inRegion ops rest::k) ((d,v)::l) h) (ho:ops[i]?=some ⟨some d,.binOp o tx x y tyy,ty,pos,aft,g⟩:=by exact rfl) (hw:al ops l g=true:=by exact rfl) (hx:aA l x=some a:=by exact rfl) (hy:aA l y=some b:=by exact rfl) (hd:Nat.blt d n=true:=by exact rfl):aa P r f R w0 S Y n (.inRegion ops (i::rest)::k) l h:=aa.v (.bin ho hw hx hy hb hd) hk
theorem aj {t:TypeId} {x:Operand} {b off:Nat} {cs:Array Value} {e:TypeId} {fr:Nat×Nat} {v:Value} (ha:∀w,(isAgg t).run P w=.ok false w) (j:Nat) (hk:aa P r f R w0 S Y n (.inRegion ops rest::k) ((d,v)::l) h) (ho:ops[i]?=some ⟨some d,.load t x,ty,pos,aft,g⟩:=by exact rfl) (hw:al ops l g=true:=by exact rfl) (hx:aA l x=some (.pointer (some ⟨b,off,none⟩)):=by exact rfl) (hd:Nat.blt d n=true:=by exact rfl) (hj:h[j]?=some (some b,.cells cs e fr):=by exact rfl) (hv:cs[off]?=some v:=by exact rfl):aa P r f R w0 S Y n (.inRegion ops (i::rest)::k) l h:=aa.v (.nK ho hw hx hd ha j hj hv) hk
theorem kD {t:TypeId} {x:Operand} {b off:Nat} {cs:Array Value} {e:TypeId} {fr:Nat×Nat} {v:Value} (ha:∀w,(isAgg t).run P w=.ok false w) (j:Nat) (hk:ao P r f R w0 S Y n k ops (i+1) m ((d,v)::l) h) (ho:ops[i]?=some ⟨some d,.load t x,ty,pos,aft,g⟩:=by exact rfl) (hw:al ops l g=true:=by exact rfl) (hx:aA l x=some (.pointer (some ⟨b,off,none⟩)):=by exact rfl) (hd:Nat.blt d n=true:=by exact rfl) (hj:h[j]?=some (some b,.cells cs e fr):=by exact rfl) (hv:cs[off]?=some v:=by exact rfl):ao P r f R w0 S Y n k ops i (m+1) l h:=ao.v (.nK ho hw hx hd ha j hj hv) hk
theorem ak {s tt:TypeId} {x:Operand} {b o q:Nat} {fs:Array Field} {fd:Field} {sz:Nat} (hu:P.underlying s=some (.struct fs)) (he:∀w,(sizeOf tt).run P w=.ok (sz+1) w) (o':Nat) (hk:aa P r f R w0 S Y n (.inRegion ops rest::k) ((d,.pointer (some ⟨b,o',none⟩))::l) h) (ho:ops[i]?=some ⟨some d,.fieldAddr s x q,ty,pos,aft,g⟩:=by exact rfl) (hw:al ops l g=true:=by exact rfl) (hx:aA l x=some (.pointer (some ⟨b,o,none⟩)):=by exact rfl) (hd:Nat.blt d n=true:=by exact rfl) (hq:fs[q]?=some fd:=by exact rfl) (ht:fd.type=tt:=by exact rfl) (hO:o+fd.offset=o':=by exact rfl):aa P r f R w0 S Y n (.inRegion ops (i::rest)::k) l h:=aa.v (.mr ho hw hx hd hu hq (ht ▸ he) o' hO) hk
theorem iw {s tt:TypeId} {x:Operand} {b o q:Nat} {fs:Array Field} {fd:Field} {sz:Nat} (hu:P.underlying s=some (.struct fs)) (he:∀w,(sizeOf tt).run P w=.ok (sz+1) w) (o':Nat) (hk:ao P r f R w0 S Y n k ops (i+1) m ((d,.pointer (some ⟨b,o',none⟩))::l) h) (ho:ops[i]?=some ⟨some d,.fieldAddr s x q,ty,pos,aft,g⟩:=by exact rfl) (hw:al ops l g=true:=by exact rfl) (hx:aA l x=some (.pointer (some ⟨b,o,none⟩)):=by exact rfl) (hd:Nat.blt d n=true:=by exact rfl) (hq:fs[q]?=some fd:=by exact rfl) (ht:fd.type=tt:=by exact rfl) (hO:o+fd.offset=o':=by exact rfl):ao P r f R w0 S Y n k ops i (m+1) l h:=ao.v (.mr ho hw hx hd hu hq (ht ▸ he) o' hO) hk
theorem cq {t e:TypeId} {az:Operand} {a:Option Addr} {q c:Nat} (hu:P.underlying t=some (.slice e)) (hk:aa P r f R w0 S Y n (.inRegion ops rest::k) ((d,.int .i64 q)::l) h) (ho:ops[i]?=some ⟨some d,.call ⟨.builtin .len,#[az],#[t]⟩,ty,pos,aft,g⟩:=by exact rfl) (hw:al ops l g=true:=by exact rfl) (hx:cy l [az]=some [.slice a q c]:=by exact rfl) (hd:Nat.blt d n=true:=by exact rfl):aa P r f R w0 S Y n (.inRegion ops (i::rest)::k) l h:=aa.v (.blt ho hw hx (eL hu) hd) hk
theorem ba {o:Oper} (hk:aa P r f R w0 S Y n (.inRegion ops rest::k) ((d,undef)::l) h) (ho:ops[i]?=some o:=by exact rfl) (hw:fU ops l o.guard=true:=by exact rfl) (hdst:o.dst=some d:=by exact rfl) (hd:Nat.blt d n=true:=by exact rfl):aa P r f R w0 S Y n (.inRegion ops (i::rest)::k) l h:=aa.no ho hw hdst hd hk
theorem u4 {o:Oper} (hk:ao P r f R w0 S Y n k ops (i+1) m ((d,undef)::l) h) (ho:ops[i]?=some o:=by exact rfl) (hw:fU ops l o.guard=true:=by exact rfl) (hdst:o.dst=some d:=by exact rfl) (hnd:bJ o.op=false:=by exact rfl) (hd:Nat.blt d n=true:=by exact rfl):ao P r f R w0 S Y n k ops i (m+1) l h:=ao.no ho hw hdst hnd hd hk
theorem gP {az:Array Operand} {ts:Array TypeId} {cal:Operand} {gf:FuncId} {vs:List Value} {v:Value} (ho:ops[i]?=some ⟨some d,.call ⟨.value cal,az,ts⟩,ty,pos,aft,g⟩) (hw:al ops l g=true) (hc:aA l cal=some (.func (.func gf) #[] #[])) (hx:cy l az.toList=some vs) (hd:Nat.blt d n=true) (hcf:∀args w,(callFunc gf args).run P w=.ok (.enter gf args) w) (hcall:∀w Y',St w0 S w h Y'→Cn P gf vs w (fun u _=>u=v)) (hk:aa P r f R w0 S Y n (.inRegion ops rest::k) ((d,v)::l) h):aa P r f R w0 S Y n (.inRegion ops (i::rest)::k) l h:=.ot ho hw hc hx hd hcf hcall hk
theorem gM {az:Array Operand} {ts:Array TypeId} {cal:Operand} {gf:FuncId} {vs:List Value} {Rc:World→Value→World→Prop} (ho:ops[i]?=some ⟨some d,.call ⟨.value cal,az,ts⟩,ty,pos,aft,g⟩) (hw:al ops l g=true) (hc:aA l cal=some (.func (.func gf) #[] #[])) (hx:cy l az.toList=some vs) (hd:Nat.blt d n=true) (hcf:∀args w,(callFunc gf args).run P w=.ok (.enter gf args) w) (hcall:∀w Y',St w0 S w h Y'→Cn P gf vs w (Rc w)) (hk:∀v w w' Y',St w0 S w h Y'→Ex [] w w'→Rc w v w'→∃h',St w0 S w' h' Y'∧aa P r f R w0 S Y n (.inRegion ops rest::k) ((d,v)::l) h'):aa P r f R w0 S Y n (.inRegion ops (i::rest)::k) l h:=.ou Rc ho hw hc hx hd hcf hcall hk
theorem gT {fn:Func} {vs:List Value} (hf:P.funcs[f]?=some fn) (hR:∀w,St w0 S w h Y→R (eF vs) w) (hres:kB l fn.results.toList=some vs:=by exact rfl):aa P none f R w0 S Y n (.code .ret::k) l h:=.ret fn hf hres hR
theorem gC {c:Operand} {x y:Code} {b:Bool} (ht:b=true→aa P r f R w0 S Y n (.code x::k) l h) (hf:b=false→aa P r f R w0 S Y n (.code y::k) l h) (hc:aA l c=some (.bool b):=by exact rfl):aa P r f R w0 S Y n (.code (.cond c x y)::k) l h:=.cond hc ht hf
theorem cM (d:Nat) {b:Bool} (ht:b=true→aa P r f R w0 S Y n k ((d,.bool true)::l) h) (hf:b=false→aa P r f R w0 S Y n k ((d,.bool false)::l) h) (hv:look l d=some (.bool b):=by exact rfl):aa P r f R w0 S Y n k l h:=.cases hv ht hf
theorem aC {o:BinOp} {tx tyy:TypeId} {x y:Operand} {a b v:Value} (ho:ops[i]?=some ⟨some d,.binOp o tx x y tyy,ty,pos,aft,g⟩) (hw:al ops l g=true) (hx:aA l x=some a) (hy:aA l y=some b) (hb:dF P o tx a b v) (hk:aa P r f R w0 S Y n (.inRegion ops rest::k) ((d,v)::l) h) (hd:Nat.blt d n=true:=by exact rfl):aa P r f R w0 S Y n (.inRegion ops (i::rest)::k) l h:=.v (.bin ho hw hx hy hb hd) hk
theorem cV {q:Nat} {D:List Nat} {hb:Hl} {d:Nat} {v:Value} (i:Nat) (hv:ah P w0 S n hb ops i l d v) (hg:cE P r f R w0 S Y n k ops hb q (i::D) ((d,v)::l) h) (hi:(av ops D).contains i=true:=by exact rfl) (hp:ec ops i=true:=by exact rfl) (hs:hb.Sublist h:=by repeat (first|exact List.Sublist.refl _|exact List.nil_sublist _|refine List.Sublist.cons_cons _ ?_|refine List.Sublist.cons _ ?_)):cE P r f R w0 S Y n k ops hb (q+1) D l h:=.v hv hi hp hs hg
theorem sL {a b:Hl} (hs:a.Sublist b:=by repeat (first|exact List.Sublist.refl _|exact List.nil_sublist _|refine List.Sublist.cons_cons _ ?_|refine List.Sublist.cons _ ?_)):a.Sublist b:=hs
theorem sF {a b:Fl} (hs:bC a b:=by repeat (first|exact bC.nil|refine bC.cons rfl ?_)):bC a b:=hs
end
end Go.Proofs.Wit
namespace Go.Proofs.Wit
section
variable {κ κ':Type} [DecidableEq κ] [DecidableEq κ']
def u6 (key:Nat→κ) (k:κ) (n:Nat):Option Nat:=lM (fun j=>if key j=k then some j else none) n
def vI (key:Nat→κ) (i:Nat):Nat:=(u6 key (key i) (i+1)).getD 0
def u7 (n:Nat) (key:Nat→κ):List Int:=(List.range n).map (fun i=>(vI key i:Int))
end
structure wg (p:List Int):Prop where
  len:p.length≤64
  low:∀i,i<p.length→0≤p.getD i 0∧p.getD i 0≤i∧p.getD (p.getD i 0).toNat 0=p.getD i 0
def th (p:List Int):List au:=p.map (fun x=>1#64<<<x.toNat)
def vu (p:List Int) (s:au):au:=kL (th p) s
def vy (gp:List (List au)) (p:List Int):List Int:=u7 p.length (fun w=>(p.getD w 0,gp.map (fun r=>vu p (r.getD w 0#64))))
def sZ (val:List au) (w:Nat):Nat→Nat
 |0=>0
 |k+1=>sZ val w k+(if (val.getD k 0#64).getLsbD w=true then 2^k else 0)
def fm (val:List au) (w:Nat):Nat:=sZ val w val.length
def sy (n:Nat) (val:List au) (gp:List (List au)):Nat→List Int
 |0=>u7 n (fun w=>fm val w)
 |i+1=>vy gp (sy n val gp i)
theorem pP {n:Nat} {f g:Nat→Bool} (h:∀i,i<n→f i=true→g i=true) {j:Nat} (hj:j<n) (h1:f j=false) (h2:g j=true):(List.range n).countP f<(List.range n).countP g:=by
 induction n with
 |zero=>omega
 |succ n ih=>
  rw [List.range_succ,List.countP_append,List.countP_append]
  have hle:∀m,m≤n→(List.range m).countP f≤(List.range m).countP g:=fun m hm=>by
   refine List.countP_mono_left (fun i hi e=>h i (by have:=List.mem_range.1 hi;omega) e)
  simp only [List.countP_singleton]
  rcases Nat.lt_or_ge j n with hlt|hge
  ·have:=ih (fun i hi=>h i (by omega)) hlt
   have h3:=h n (by omega)
   cases hf:f n with
   |false=>rw [if_neg (by simp)];split<;>omega
   |true=>rw [h3 hf];simp;omega
  obtain rfl:j=n:=by omega
  have:=hle j (Nat.le_refl _)
  rw [h1,h2];simp;omega
section
variable {n:Nat} {val:List au} {gp:List (List au)}
def uz (n:Nat) (val:List au) (gp:List (List au)):Option Nat:=u6 (fun d=>decide (sy n val gp d=sy n val gp (d+1))) true n
def dep (n:Nat) (val:List au) (gp:List (List au)):Nat:=(uz n val gp).getD 0
end
end Go.Proofs.Wit
namespace Go.Proofs.Wit
theorem bZ {t:Tr} {ts:List Tr} (h:t∈ts):visit t ts=ts:=by
 cases t with
 |leaf=>rw [visit,if_pos h]
 |un=>rw [visit,if_pos h]
 |bin=>rw [visit,if_pos h]
def bQ:Tr→List Tr→List Tr
 |.leaf ..,ts=>ts
 |.un _ _ _ _ a,ts=>visit a ts
 |.bin _ _ _ _ a b,ts=>visit b (visit a ts)
def su (t:Tr) (ts:List Tr):List Tr:=if t∈ts then ts else ts++[t]
theorem lZ {t:Tr} {ts:List Tr} (hc:fB ts) (_hn:ts.Nodup):su t (bQ t ts)=visit t ts:=by
 unfold su
 by_cases h:t∈ts
 ·rw [bZ h]
  have hk:bQ t ts=ts:=by
   cases t with
   |leaf=>rfl
   |un op i e g a=>exact bZ (hc.mem h a (by simp [kids]))
   |bin op i e g a b=>
    show visit b (visit a ts)=ts
    rw [bZ (hc.mem h a (by simp [kids])),bZ (hc.mem h b (by simp [kids]))]
  rw [hk,if_pos h]
 have hnew:t∉bQ t ts:=fun hm=>by
  cases t with
  |leaf=>exact h hm
  |un op i e g a=>
   rcases c4 a hm with h5|h5
   ·exact h h5
   simp only [size] at h5;omega
  |bin op i e g a b=>
   rcases c4 b hm with h5|h5
   ·rcases c4 a h5 with h5|h5
    ·exact h h5
    ·simp only [size] at h5;omega
   simp only [size] at h5;omega
 rw [if_neg hnew]
 cases t with
 |leaf=>rw [visit,if_neg h];rfl
 |un=>rw [visit,if_neg h];rfl
 |bin=>rw [visit,if_neg h];rfl
def aM (f:List NV):Prop:=∀(i:Nat) (hi:i<f.length),se f[i] i
theorem oJ.nodes {f:List NV} (h:oJ f):aM f:=fun i hi=>h.at i hi
theorem aM.ord {f:List NV} (h:aM f):oI f:=fun i hi=>⟨(h i hi).x,(h i hi).y⟩
structure uY (f:List NV) (ts:List Tr) (ds:List Int):Prop where
  len:ds.length=f.length
  at_:∀i,i<f.length→ds.getD i 0=-1∨af f i∈ts∧ds.getD i 0=(ts.idxOf (af f i):Int)
theorem eN {f:List NV} {i:Nat} (hi:i<f.length):af f i∈trees f:=by
 rw [dw hi];exact List.getElem_mem _
theorem o6 {f:List NV} {ts:List Tr} (hn:ts.Nodup) (hs:ts⊆trees f):ts.length≤f.length:=by
 have:=hn.length_le_of_subset hs
 rwa [aX] at this
theorem qg {w w':World} {h h':Hl} {Y:List (Nat×Obj)} {a:Option Addr} {f:List NV} (ha:FA w a f) (hf:0<f.length) (hsep:∀b o,a=some ⟨b,o,none⟩→b∉ej h) (s:St w (ej h) w' h' Y):∀b o,a=some ⟨b,o,none⟩→b∉ej h':=fun b o e hm=>by
 obtain ⟨b1,o1,e1,h1⟩:=ha.at_.isSome (by rw [iJ];omega)
 rw [e] at e1
 cases e1
 obtain ⟨ob,hob⟩:=dy.1 hm
 rcases (s.own _ hob b rfl).2.2 with h2|h2
 ·omega
 exact hsep b o e h2
theorem iF {f:List NV} {i:Nat} (hi:i<f.length) (hO:aM f):
  (bE f[i].op=false∧af f i=.leaf f[i].op f[i].i f[i].e f[i].g)∨
  (bE f[i].op=true∧bA f[i].op=false∧af f i=.un f[i].op f[i].i f[i].e f[i].g (af f f[i].x.toNat))∨
  (bA f[i].op=true∧af f i=.bin f[i].op f[i].i f[i].e f[i].g (af f f[i].x.toNat) (af f f[i].y.toNat)):=by
 have h:=hO i hi
 have ht:=ea hi (fun hu=>by have:=h.x hu;omega) (fun hu=>by have:=h.y hu;omega)
 by_cases h1:bA f[i].op=true
 ·exact .inr (.inr ⟨h1,by rw [ht,fk h1]⟩)
 by_cases h2:bE f[i].op=true
 ·exact .inr (.inl ⟨h2,by simpa using h1,by rw [ht,gQ h2 (by simpa using h1)]⟩)
 exact .inl ⟨by simpa using h2,by rw [ht,ee (by simpa using h2)]⟩
end Go.Proofs.Wit
namespace Go.Proofs.Wit
open Go
structure tU (S:List Nat) (w:World) (a:Option Addr) (f:List NV):Prop where
  at_:Sl w a (f.flatMap NV.cells)
  sep:∀b o,a=some ⟨b,o,none⟩→b∉S
theorem tU.a8 {S:List Nat} {w0 w:World} {a:Option Addr} {f:List NV} (h:tU S w0 a f) (e:Ex S w0 w):tU S w a f:=⟨Sl.ex h.at_ e h.sep,h.sep⟩
end Go.Proofs.Wit
namespace Go.Proofs.Wit
open Go Go.RowKit
def ij (f:List NV) (i:Int):List NV:=if bj f≠0∨i<0∨(f.length:Int)≤i then [] else de (af f i.toNat)
def pK (op:Int):Int:=if op=9∨op=10 then 1 else if op=11 then 2 else if op=12 then 4 else if op=13 then 8 else if op=14 then 16 else if op=15 then 32 else if op=16 then 64 else if op=17 then 128 else if 18≤op∧op≤21 then 256 else 0
def ib (op:Int):Value:=.agg #[.bool (bE op),.bool (bA op),.bool (op==3),.bool (gv op),.bool (ez op),.bool (op==17),.int .i64 (pK op)]
def okO (op:Int):Bool:=decide (1≤op) && decide (op≤21)
def dV (u:Bool) (x lo hi:Int):Bool:=u && (decide (x<lo)||decide (hi<x))
theorem lF {op:Int} (h:¬(1≤op∧op≤21)):okO op=false:=by
 simp only [okO,Bool.and_eq_false_iff,decide_eq_false_iff_not];omega
theorem oV {op:Int} (h:¬(1≤op∧op≤21)):ib op=.agg #[.bool false,.bool false,.bool false,.bool false,.bool false,.bool false,.int .i64 0]:=by
 have h1:bE op=false:=by simp only [bE,Bool.and_eq_false_iff,decide_eq_false_iff_not];omega
 have h2:bA op=false:=by
  cases e:bA op with
  |false=>rfl
  |true=>rw [dY e] at h1;cases h1
 have h3:(op==3)=false:=by simp;omega
 have h4:gv op=false:=by simp [gv];omega
 have h5:ez op=false:=by simp [ez];omega
 have h6:(op==17)=false:=by simp;omega
 have h7:pK op=0:=by
  unfold pK
  repeat (rw [if_neg (by omega)])
 rw [ib,h1,h2,h3,h4,h5,h6,h7]
end Go.Proofs.Wit
namespace Go.Proofs.Wit
open Go Go.RowKit
theorem jM {κ:Type} [DecidableEq κ] {L:List κ} {m:κ}:∀{s:Nat},aG (fun a b:κ=>a==b) (L.zipIdx s) m=if m∈L then some (L.idxOf m+s) else none:=by
 induction L with
 |nil=>intro s;rfl
 |cons a L ih=>
  intro s
  rw [List.zipIdx_cons,aG]
  by_cases h:a=m
  ·subst h;simp
  have h2:(m==a)=false:=by simpa using Ne.symm h
  have h4:(a==m)=false:=by simpa using h
  rw [if_neg (by simpa using h2),ih]
  by_cases h3:m∈L
  ·rw [if_pos h3,if_pos (by simp [h3]),List.idxOf_cons,h4];simp;omega
  rw [if_neg h3,if_neg (by simp [h3,Ne.symm h])]
theorem fZ {κ:Type} [DecidableEq κ] {m:κ}:∀{L:List κ} {k:Nat},L[k]?=some m→(∀j,j<k→L[j]?≠some m)→L.idxOf m=k
 |[],k,h1,_=>by simp at h1
 |a::L,0,h1,_=>by
  have:a=m:=by simpa using h1
  subst this;simp
 |a::L,k+1,h1,h2=>by
  have hne:a≠m:=fun e=>h2 0 (by omega) (by simp [e])
  have h4:(a==m)=false:=by simpa using hne
  rw [List.idxOf_cons,h4]
  simp only [Bool.cond_false]
  rw [fZ (L:=L) (k:=k) (by simpa using h1) (fun j hj=>by simpa using h2 (j+1) (by omega))]
theorem jN {ts:List Tr} (hc:fB ts) (hn:ts.Nodup) (hw:∀u∈ts,u.wf) {t:Tr} (ht:t∈ts):aG (fun a b:NV=>a==b) (aw ts).zipIdx (aD ts t)=some (ts.idxOf t):=by
 obtain ⟨h1,h2⟩:=pd hc hn hw ht
 rw [jM,if_pos (List.mem_of_getElem? h1),fZ h1 h2];rfl
theorem jO {ts:List Tr} (hc:fB ts) (hw:∀u∈ts,u.wf) {t:Tr} (htw:t.wf) (hk:∀c∈kids t,c∈ts) (ht:t∉ts):aG (fun a b:NV=>a==b) (aw ts).zipIdx (aD ts t)=none:=by
 rw [jM,if_neg]
 intro hm
 obtain ⟨k,hk2,he⟩:=List.mem_iff_getElem.1 hm
 exact pe hc hw htw hk ht k (by rw [List.getElem?_eq_getElem hk2,he])
theorem mT {ts:List Tr} {t:Tr} (hc:fB ts) (hk:∀c∈kids t,c∈ts):(aw (ts++[t])).zipIdx=(aw ts).zipIdx++[(aD ts t,(aw ts).length)]:=by
 rw [fj hc hk,List.zipIdx_append];simp
theorem jP {κ ν:Type} {q:κ→κ→Bool} {L:List (κ×ν)} {a:κ} {v:ν} {x:κ}:aG q (L++[(a,v)]) x=(aG q L x).or (if q x a=true then some v else none):=by
 induction L with
 |nil=>simp [aG]
 |cons p L ih=>
  rw [List.cons_append,aG,aG,ih]
  split<;>simp
abbrev r9 (v:Nat):Value:=.int .i64 v
structure dE (f:List NV) (ts:List Tr) (L:List (Int×Nat)):Prop where
  at_:∀(i v:Nat),aG (fun a b:Int=>a==b) L (i:Int)=some v→af f i∈ts∧v=ts.idxOf (af f i)
theorem dE.nil {f:List NV} {ts:List Tr}:dE f ts []:=⟨fun i v h=>by cases h⟩
theorem dE.mono {f:List NV} {ts us:List Tr} {L:List (Int×Nat)} (h:dE f ts L) (hp:ts<+:us):dE f us L:=
 ⟨fun i v hv=>by
  obtain ⟨h1,h2⟩:=h.at_ i v hv
  exact ⟨hp.subset h1,by rw [h2,ey hp h1]⟩⟩
theorem dE.ins {f:List NV} {ts:List Tr} {L:List (Int×Nat)} (h:dE f ts L) {i:Nat} (hm:af f i∈ts):dE f ts (L++[((i:Int),ts.idxOf (af f i))]):=
 ⟨fun j v hv=>by
  rw [jP] at hv
  cases e:aG (fun a b:Int=>a==b) L (j:Int) with
  |some u=>
   rw [e] at hv
   cases hv
   exact h.at_ j _ e
  |none=>
   rw [e] at hv
   by_cases hq:((j:Int)==(i:Int))=true
   ·have:i=j:=by have:=eq_of_beq hq;omega
    subst this
    simp at hv
    exact ⟨hm,hv.symm⟩
   rw [if_neg hq] at hv;cases hv⟩
theorem fW {L:List (Int×Nat)} {i j:Int} {v:Nat} (h:i≠j):aG (fun a b:Int=>a==b) (L++[(i,v)]) j=aG (fun a b:Int=>a==b) L j:=by
 rw [jP,if_neg (by simpa using Ne.symm h)];simp
def ic (f:List NV) (n:NV) (ts:List Tr):List Tr:=if bE n.op=true then visit (af f n.x.toNat) ts else ts
def oN (f:List NV) (n:NV) (ts:List Tr):NV:={n with x:=if bE n.op=true then ((ic f n ts).idxOf (af f n.x.toNat):Int) else n.x}
theorem qM {f:List NV} {i:Nat} (hi:i<f.length) (hO:aM f) {ts:List Tr} (hc:fB ts) (hn:ts.Nodup) (hs:ts⊆trees f):
  fB (ic f f[i] ts)∧(ic f f[i] ts).Nodup∧ts<+:ic f f[i] ts∧ic f f[i] ts⊆trees f:=by
 unfold ic
 split
 ·rename_i h
  have hx:=(hO i hi).x h
  have hV:=cH (af f f[i].x.toNat) hc hn
  exact ⟨hV.iq,hV.nd,hV.pre,dv _ hO.ord.iq (eN (by omega)) hs⟩
 exact ⟨hc,hn,List.prefix_refl _,hs⟩
theorem qK {f:List NV} {i:Nat} (hi:i<f.length) (hO:aM f) {ts:List Tr} (hc:fB ts) (hn:ts.Nodup) (hs:ts⊆trees f):
  fB (bQ (af f i) ts)∧(bQ (af f i) ts).Nodup∧ts<+:bQ (af f i) ts∧bQ (af f i) ts⊆trees f∧∀c∈kids (af f i),c∈bQ (af f i) ts:=by
 have hm:∀c∈kids (af f i),c∈trees f:=hO.ord.iq.mem (eN hi)
 cases ht:af f i with
 |leaf=>exact ⟨hc,hn,List.prefix_refl _,hs,fun c h=>by cases h⟩
 |un op j e g a=>
  rw [ht] at hm
  have hV:=cH a hc hn
  exact ⟨hV.iq,hV.nd,hV.pre,dv _ hO.ord.iq (hm a (by simp [kids])) hs,fun c h=>by rw [List.mem_singleton.1 h];exact hV.mem⟩
 |bin op j e g a b=>
  rw [ht] at hm
  have hV:=cH a hc hn
  have hW:=cH b hV.iq hV.nd
  refine ⟨hW.iq,hW.nd,hV.pre.trans hW.pre,dv _ hO.ord.iq (hm b (by simp [kids])) (dv _ hO.ord.iq (hm a (by simp [kids])) hs),fun c h=>?_⟩
  simp only [kids,List.mem_cons,List.not_mem_nil,or_false] at h
  rcases h with rfl|rfl
  ·exact hW.pre.subset hV.mem
  exact hW.mem
theorem vB {f:List NV} {i:Nat} (hi:i<f.length) (hO:aM f) {ts:List Tr} (hY:bA f[i].op=false):ic f f[i] ts=bQ (af f i) ts∧oN f f[i] ts=aD (bQ (af f i) ts) (af f i):=by
 have hok:=hO i hi
 have hy0:=hok.y0 hY
 rcases iF hi hO with ⟨h,ht⟩|⟨h,_,ht⟩|⟨h,_⟩
 ·have hx0:=hok.x0 h
  rw [ht]
  constructor
  ·simp [ic,h,bQ]
  simp only [oN,h,aD]
  simp [hx0,hy0]
 ·rw [ht]
  constructor
  ·simp [ic,h,bQ]
  simp only [oN,h,aD,ic,if_true,bQ]
  simp [hy0]
 rw [hY] at h;cases h
theorem sh {f:List NV} {i:Nat} (hi:i<f.length) (hO:aM f) {ts:List Tr} (hc:fB ts) (hn:ts.Nodup) (hY:bA f[i].op=true):
  visit (af f f[i].y.toNat) (ic f f[i] ts)=bQ (af f i) ts∧{oN f f[i] ts with y:=((visit (af f f[i].y.toNat) (ic f f[i] ts)).idxOf (af f f[i].y.toNat):Int)}=aD (bQ (af f i) ts) (af f i):=by
 have hX:=dY hY
 rcases iF hi hO with ⟨h,ht⟩|⟨_,h,ht⟩|⟨_,ht⟩
 ·rw [hX] at h;cases h
 ·rw [hY] at h;cases h
 have hV:=cH (af f f[i].x.toNat) hc hn
 have hW:=cH (af f f[i].y.toNat) hV.iq hV.nd
 rw [ht]
 constructor
 ·simp [ic,hX,bQ]
 simp only [oN,aD,ic,hX,if_true,bQ]
 rw [ey hW.pre hV.mem]
end Go.Proofs.Wit
namespace Go.Proofs.Wit
open Go Go.RowKit
theorem aa.qP {P:Program} {r:Option Nat} {f:FuncId} {R:Value→World→Prop} {w0:World} {S:List Nat} {Y:List (Nat×Obj)} {n:Nat} {k:List Item} {l:Fl} {h:Hl} {x y:Code} {α:Type} (lf:α→Fl) (hf:α→Hl)
  (hK:∀a,aa P r f R w0 S Y n (.code y::k) (lf a) (hf a))
  (hg:(∀a l h,bC (lf a) l→(∀w Y',St w0 S w h Y'→St w0 S w (hf a) Y')→aa P r f R w0 S Y n (.code y::k) l h)→aa P r f R w0 S Y n (.code x::.code y::k) l h):aa P r f R w0 S Y n (.code x::.code y::k) l h:=
 hg (fun a _ _ hl hh=>(hK a).sj hl hh)
end Go.Proofs.Wit
namespace Go.Proofs.Wit
open Go Go.RowKit
/-- a tree of which every node is right -/
def Tr.ok:Tr→Prop
 |.leaf op i e g=>(1≤op∧op≤21)∧bE op=false∧eT op i e g=0
 |.un op i e g a=>(1≤op∧op≤21)∧bE op=true∧bA op=false∧eT op i e g=0∧a.ok
 |.bin op i e g a b=>(1≤op∧op≤21)∧bA op=true∧eT op i e g=0∧a.ok∧b.ok
theorem Tr.ok.vL {t c:Tr} (h:t.ok) (hc:c∈kids t):c.ok:=by
 cases t with
 |leaf=>cases hc
 |un op i e g a=>rw [List.mem_singleton.1 hc];exact h.2.2.2.2
 |bin op i e g a b=>
  simp only [kids,List.mem_cons,List.not_mem_nil,or_false] at hc
  rcases hc with rfl|rfl
  ·exact h.2.2.2.1
  exact h.2.2.2.2
theorem q8 {n:NV} {a b:Tr} (h1:1≤n.op∧n.op≤21) (h2:eT n.op n.i n.e n.g=0) (ha:bE n.op=true→a.ok) (hb:bA n.op=true→b.ok):(kl n a b).ok:=by
 by_cases hY:bA n.op=true
 ·rw [fk hY];exact ⟨h1,hY,h2,ha (dY hY),hb hY⟩
 have hY':bA n.op=false:=by simpa using hY
 by_cases hX:bE n.op=true
 ·rw [gQ hX hY'];exact ⟨h1,hX,hY',h2,ha hX⟩
 have hX':bE n.op=false:=by simpa using hX
 rw [ee hX'];exact ⟨h1,hX',h2⟩
theorem aM.tree {f:List NV} (hf:aM f):∀(i:Nat),i<f.length→(af f i).ok:=by
 intro i
 induction i using Nat.strongRecOn with
 |_ i ih=>
  intro hi
  have h:=hf i hi
  rw [ea hi (fun hu=>by have:=h.x hu;omega) (fun hu=>by have:=h.y hu;omega)]
  exact q8 h.op h.jX (fun hu=>ih _ (by have:=h.x hu;omega) (by have:=h.x hu;omega)) (fun hu=>ih _ (by have:=h.y hu;omega) (by have:=h.y hu;omega))
theorem l2 {p:Tr→Prop} (hp:∀t,p t→∀c∈kids t,p c) (t:Tr):∀{ts:List Tr},p t→(∀u∈ts,p u)→∀u∈visit t ts,p u:=by
 induction t with
 |leaf op i e g=>
  intro ts ht h u hu
  rw [visit] at hu
  split at hu
  ·exact h u hu
  rcases List.mem_append.1 hu with hu|hu
  ·exact h u hu
  rw [List.mem_singleton.1 hu];exact ht
 |un op i e g a iha=>
  intro ts ht h u hu
  rw [visit] at hu
  split at hu
  ·exact h u hu
  rcases List.mem_append.1 hu with hu|hu
  ·exact iha (hp _ ht a (by simp [kids])) h u hu
  rw [List.mem_singleton.1 hu];exact ht
 |bin op i e g a b iha ihb=>
  intro ts ht h u hu
  rw [visit] at hu
  split at hu
  ·exact h u hu
  rcases List.mem_append.1 hu with hu|hu
  ·exact ihb (hp _ ht b (by simp [kids])) (iha (hp _ ht a (by simp [kids])) h) u hu
  rw [List.mem_singleton.1 hu];exact ht
theorem m5 {t:Tr} (h:t.ok):∀u∈jA t,u.ok:=l2 (fun _ ht _ hc=>ht.vL hc) t h (fun u hu=>by cases hu)
theorem gX {ts:List Tr} {c:Tr} {k:Nat} (h:c∈ts.take k):ts.idxOf c<k:=by
 have h1:=List.idxOf_lt_length_iff.2 h
 rw [←ey (List.take_prefix k ts) h] at h1
 rw [List.length_take] at h1
 omega
theorem kI {ts:List Tr} (hc:fB ts) (ho:∀u∈ts,u.ok):aM (aw ts):=fun i hi=>by
 rw [dg] at hi
 have hg:(aw ts)[i]'(by rw [dg];exact hi)=aD ts ts[i]:=by simp [aw]
 rw [hg]
 have h:=ho _ (List.getElem_mem hi)
 have hk:=hc i hi
 cases ht:ts[i] with
 |leaf op j e g=>
  rw [ht] at h
  have hY:bA op=false:=by
   cases e:bA op with
   |false=>rfl
   |true=>exact absurd ((dY e).symm.trans h.2.1) (by decide)
  exact ⟨h.1,fun hu=>absurd ((h.2.1).symm.trans hu) (by decide),fun _=>rfl,fun hu=>absurd ((hY).symm.trans hu) (by decide),fun _=>rfl,h.2.2⟩
 |un op j e g a=>
  rw [ht] at h hk
  have:=gX (hk a (by simp [kids]))
  exact ⟨h.1,fun _=>⟨by simp [aD],by simp only [aD];omega⟩,fun hu=>absurd ((h.2.1).symm.trans hu) (by decide),fun hu=>absurd ((h.2.2.1).symm.trans hu) (by decide),fun _=>rfl,h.2.2.2.1⟩
 |bin op j e g a b=>
  rw [ht] at h hk
  have h1:=gX (hk a (by simp [kids]))
  have h2:=gX (hk b (by simp [kids]))
  exact ⟨h.1,fun _=>⟨by simp [aD],by simp only [aD];omega⟩,fun hu=>absurd ((dY h.2.1).symm.trans hu) (by decide),fun _=>⟨by simp [aD],by simp only [aD];omega⟩,fun hu=>absurd ((h.2.1).symm.trans hu) (by decide),h.2.2.1⟩
theorem k6 {t:Tr} (h:t.ok):aM (de t):=kI (ly t).iq (m5 h)
theorem j4 (t:Tr):0<(de t).length:=by
 rw [j5]
 obtain ⟨l,hl⟩:=l6 t
 rw [hl];simp
theorem oq {t:Tr} (h:t.ok) (hl:(de t).length≤200):oJ (de t):=⟨j4 t,hl,fun i hi=>eQ.2 (k6 h i hi)⟩
def ct (d:Nat) (n:NV):NV:={n with x:=if bE n.op=true then n.x+d else n.x,y:=if bA n.op=true then n.y+d else n.y}
def bh (o g:List NV):List NV:=o++g.map (ct o.length)
theorem hZ {o g:List NV}:(bh o g).length=o.length+g.length:=by simp [bh]
theorem m7 {d:Nat} {n:NV} {a:Int} (h:se n a):se (ct d n) (a+d):=by
 refine ⟨h.op,fun hu=>?_,fun hu=>?_,fun hu=>?_,fun hu=>?_,h.jX⟩
 ·have hu':bE n.op=true:=hu
  have:=h.x hu'
  simp only [ct,if_pos hu'];omega
 ·have hu':bE n.op=false:=hu
  have:=h.x0 hu'
  simp only [ct];rw [if_neg (by rw [hu'];simp)];exact this
 ·have hu':bA n.op=true:=hu
  have:=h.y hu'
  simp only [ct,if_pos hu'];omega
 have hu':bA n.op=false:=hu
 have:=h.y0 hu'
 simp only [ct];rw [if_neg (by rw [hu'];simp)];exact this
theorem pT {o g:List NV} (ho:aM o) (hg:aM g):aM (bh o g):=fun i hi=>by
 by_cases h:i<o.length
 ·have:(bh o g)[i]=o[i]:=by simp [bh,List.getElem_append_left h]
  rw [this];exact ho i h
 rw [hZ] at hi
 have hj:i - o.length<g.length:=by omega
 have:(bh o g)[i]=ct o.length g[i - o.length]:=by simp [bh,List.getElem_append_right (Nat.le_of_not_lt h)]
 rw [this]
 have:=m7 (d:=o.length) (hg _ hj)
 rw [show ((i - o.length:Nat):Int)+o.length=i from by omega] at this
 exact this
theorem o9 {o:List NV} {n:NV} (ho:aM o) (hn:se n o.length):aM (o++[n]):=fun i hi=>by
 by_cases h:i<o.length
 ·rw [List.getElem_append_left h];exact ho i h
 have:i=o.length:=by simp at hi;omega
 subst this
 simp;exact hn
def ae (f:List NV):List NV:=if bj f≠0 then [] else de (gl f)
def mf:List (List NV)→List NV→List NV
 |[],o=>o
 |g::gs,o=>mf gs (bh o (ae g))
theorem eu:∀{gs:List (List NV)} {o g:List NV},mf (gs++[g]) o=bh (mf gs o) (ae g)
 |[],_,_=>rfl
 |h::gs,o,g=>by rw [List.cons_append,mf,eu,mf]
def outs (gs:List (List NV)):List NV:=mf gs []
def bM (n:NV) (gs:List (List NV)):Nat→NV
 |0=>n
 |k+1=>if k=0 then {bM n gs k with x:=((outs (gs.take (k+1))).length:Int) - 1} else {bM n gs k with y:=((outs (gs.take (k+1))).length:Int) - 1}
def gu (n:NV) (gs:List (List NV)):List NV:=
 if ∃g∈gs,bj g≠0 then [] else if aq (bM n gs gs.length) (outs gs).length≠0 then []
 else if 200<(de (af (outs gs++[bM n gs gs.length]) (outs gs).length)).length then [] else de (af (outs gs++[bM n gs gs.length]) (outs gs).length)
theorem eb {f:List NV}:gl f=af f (f.length - 1):=rfl
theorem e4 {f:List NV}:ij f ((f.length:Int) - 1)=ae f:=by
 unfold ij ae
 by_cases h:bj f=0
 ·have hp:=(eB.1 h).pos
  rw [if_neg (by simp [h];omega),if_neg (by simp [h]),eb]
  congr 2;omega
 rw [if_pos (.inl h),if_pos h]
theorem j3 {f:List NV} (h:bj f=0):ae f=de (gl f):=if_neg (by simp [h])
theorem oJ.top {f:List NV} (h:oJ f):(gl f).ok:=by
 rw [eb];exact h.nodes.tree _ (by have:=h.pos;omega)
theorem mF {f:List NV} (h:bj f=0):(ae f).length≤f.length:=by
 have hok:=eB.1 h
 rw [j3 h,eb]
 have:=mI hok.ord (i:=f.length - 1) (by have:=hok.pos;omega)
 have:=hok.pos
 omega
theorem eh {f:List NV} (h:bj f=0):oJ (ae f):=by
 have hok:=eB.1 h
 have hl:=mF h
 have:=hok.len
 rw [j3 h] at hl⊢
 exact oq hok.top (by omega)
theorem pj:∀{gs:List (List NV)},(∀g∈gs,bj g=0)→aM (outs gs):=by
 intro gs
 induction gs using c6 with
 |h0=>intro _ i hi;exact absurd hi (Nat.not_lt_zero _)
 |h1 gs g ih=>
  intro h
  unfold outs
  rw [eu]
  exact pT (ih (fun g' hg'=>h g' (List.mem_append_left _ hg'))) (eh (h g (by simp))).nodes
theorem nu {gs:List (List NV)} (h:∀g∈gs,bj g=0):(outs gs).length≤200*gs.length:=by
 induction gs using c6 with
 |h0=>exact Nat.zero_le _
 |h1 gs g ih=>
  unfold outs
  rw [eu,hZ]
  have h1:=ih (fun g' hg'=>h g' (List.mem_append_left _ hg'))
  have h2:=(eh (h g (by simp))).len
  unfold outs at h1
  simp
  omega
theorem me {gs:List (List NV)} {k:Nat} (hk:k<gs.length):outs (gs.take (k+1))=bh (outs (gs.take k)) (ae gs[k]):=by
 rw [List.take_succ_eq_append_getElem hk];exact eu
structure FV where
  a:Option Addr
  c:Nat
  f:List NV
def FV.v (x:FV):Value:=.slice x.a x.f.length x.c
def qG (w:World) (a:Option Addr) (gs:List FV):Prop:=Sl w a (gs.map FV.v)
theorem qG.a8 {w0 w:World} {a:Option Addr} {gs:List FV} (h:qG w0 a gs) {S:List Nat} (e:Ex S w0 w) (hS:∀b o,a=some ⟨b,o,none⟩→b∉S:=by simp):qG w a gs:=Sl.ex h e hS
theorem qG.at {w:World} {a:Option Addr} {gs:List FV} (h:qG w a gs) (k:Nat) (hk:k<gs.length):w.cell? (dk a k)=some gs[k].v:=by
 rw [Sl.cell h k (by simpa using hk)]
 simp [List.getD_eq_getElem?_getD,hk]
theorem pq {n:NV} {gs:List (List NV)} {k:Nat} (h:k≠0):bM n gs (k+1)={bM n gs k with y:=((outs (gs.take (k+1))).length:Int) - 1}:=by rw [bM,if_neg h]
theorem hQ {o c:List NV} {m:Nat} (hm:m<c.length):bh o (c.take (m+1))=bh o (c.take m)++[ct o.length c[m]]:=by
 unfold bh
 rw [List.take_succ_eq_append_getElem hm,List.map_append,List.append_assoc];rfl
theorem hN {o c:List NV}:bh o (c.take 0)=o:=by simp [bh]
def mM (e:TypeId) (w w':World) (v:Value) (ns:List NV):Prop:=da e w w' v ns∧(ns=[]→v=.slice none 0 0)
theorem mM.il {t:TypeId} {w w':World}:mM t w w' (.slice none 0 0) []:=⟨da.il,fun _=>rfl⟩
end Go.Proofs.Wit
namespace Go.Proofs.Wit
structure LT (o:List NV) (ts:List Tr):Prop where
  nodes:aM o
  tr:trees o=ts
def bT (t:Tr):List NV:=if 200<(de t).length then [] else de t
structure xf (f:List NV) (t:Tr):Prop where
  pR:bj f=0
  top:gl f=t
abbrev kn (op i x:Int):NV:=⟨op,i,0,0,x,0⟩
section
variable {i x y:Int} {T:Tr}
end
end Go.Proofs.Wit
namespace Go.Proofs.Wit
open Go Go.RowKit
theorem rQ {P:Program} {t:TypeId} {a b c:Nat} (ha:a<512) (hb:b<512) (hc:c=a|||b):dF P .or t (.int .i64 a) (.int .i64 b) (.int .i64 c):=by
 subst hc
 refine bI _ ?_
 have hx:a|||b<2^9:=Nat.or_lt_two_pow (by omega) (by omega)
 have h1:(BitVec.ofInt 64 (a:Int)).toNat=a:=by
  rw [BitVec.ofInt_natCast,BitVec.toNat_ofNat];exact Nat.mod_eq_of_lt (by omega)
 have h2:(BitVec.ofInt 64 (b:Int)).toNat=b:=by
  rw [BitVec.ofInt_natCast,BitVec.toNat_ofNat];exact Nat.mod_eq_of_lt (by omega)
 rw [binOp_or]
 show (pure (Value.int .i64 (IntKind.i64.wrap ((BitVec.ofInt 64 (a:Int)|||BitVec.ofInt 64 (b:Int)).toNat:Int))):Sem Value)=_
 rw [BitVec.toNat_or,h1,h2,IntWalk.i64_in _ (by omega)]
def rH (n:NV):Nat:=(pK n.op).toNat
theorem kV (op:Int):0≤pK op∧pK op<512:=by
 unfold pK
 repeat' split
 all_goals omega
theorem rG (n:NV):(rH n:Int)=pK n.op:=by
 have:=kV n.op
 unfold rH;omega
def fO (c:List NV):Nat:=c.foldl (fun a n=>a|||rH n) 0
theorem iG {c:List NV} {n:NV}:fO (c++[n])=fO c|||rH n:=by simp [fO]
theorem pI (c:List NV):fO c<512:=by
 induction c using c6 with
 |h0=>decide
 |h1 c n ih=>
  rw [iG]
  have h2:rH n<2^9:=by have:=kV n.op;unfold rH;omega
  exact Nat.or_lt_two_pow (n:=9) ih h2
theorem hJ (f:List NV):(ae f).length≤200:=by
 by_cases h:bj f=0
 ·exact (eh h).len
 rw [ae,if_pos h];exact Nat.zero_le _
end Go.Proofs.Wit
namespace Go.Proofs.Wit
open Go Go.RowKit
section
variable {P:Program} {r:Option Nat} {f:FuncId} {R:Value→World→Prop} {w0:World} {S:List Nat} {Y:List (Nat×Obj)} {n:Nat} {k:List Item} {l:Fl} {h:Hl}
variable {ops:Array Oper} {i d:Nat} {rest:List Nat} {ty:TypeId} {pos:String} {aft:Array Edge} {g:Option (Nat×Bool)} {t:TypeId}
end
structure wh (ks:Nat→List UInt8) (n:Nat) (L:List (List UInt8×Nat)) (l:List Int) (k:Nat):Prop where
  len:l.length=n
  le:k≤n
  lt:∀x v,aG (fun a b=>a==b) L x=some v→v<L.length
  inj:∀x y v,aG (fun a b=>a==b) L x=some v→aG (fun a b=>a==b) L y=some v→x=y
  at_:∀i,i<k→∃v:Nat,l.getD i 0=v∧aG (fun a b=>a==b) L (ks i)=some v
end Go.Proofs.Wit
namespace Go.Proofs.Wit
open Go Go.RowKit
section
variable {P:Program} {t:TypeId}
theorem fF (x:Nat):BitVec.ofInt 64 (x:Int)=BitVec.ofNat 64 x:=by
 apply BitVec.eq_of_toNat_eq;simp
theorem uF {x y z:Nat} (hx:x<9223372036854775808) (hy:y<9223372036854775808) (e:x|||y=z):dF P .or t (.int .i64 x) (.int .i64 y) (.int .i64 (z:Int)):=bI _ (by
 subst e
 show Op.intBits .or .i64 (x:Int) (y:Int)=_
 unfold Op.intBits
 have e1:(BitVec.ofInt 64 (x:Int)|||BitVec.ofInt 64 (y:Int)).toNat=x|||y:=by
  rw [fF,fF,BitVec.toNat_or,BitVec.toNat_ofNat,BitVec.toNat_ofNat,Nat.mod_eq_of_lt (by omega),Nat.mod_eq_of_lt (by omega)]
 have e2:x|||y<2^63:=Nat.or_lt_two_pow (by omega) (by omega)
 show pure (Value.int .i64 (IntKind.i64.wrap ((BitVec.ofInt 64 (x:Int)|||BitVec.ofInt 64 (y:Int)).toNat:Int)))=_
 rw [e1,IntWalk.i64_in _ (by omega)])
theorem iP {x j:Nat} {b:Int} {k:IntKind} (h:b=j) (hx:x*2^j<9223372036854775808) (hj:j≤64):dF P .shl t (.int .i64 x) (.int k b) (.int .i64 ((x*2^j:Nat):Int)):=by
 subst h
 refine dC (fun p q=>ji _ _ _ _ _ _ _ _) ?_
 show Op.shift .shl .i64 (x:Int) k (j:Int)=_
 unfold Op.shift
 rw [if_neg (by omega),Int.toNat_natCast]
 show pure (Value.int .i64 (IntKind.i64.wrap ((x:Int)*2^(min j 64))))=_
 rw [Nat.min_eq_left hj]
 have e1:((x:Int)*2^j)=((x*2^j:Nat):Int):=by norm_cast
 rw [e1,IntWalk.i64_in _ (by omega)]
end
end Go.Proofs.Wit
namespace Go.Proofs.Wit
def uu (r s z:List au) (v w:Nat):Bool:=(bK (r.getD v 0#64)).all (fun x=>z.getD x 0#64 &&& s.getD w 0#64 !=0#64) && (s.getD w 0#64 &&& ~~~ kL z (r.getD v 0#64)==0#64)
def py (va vb:List au) (ra rb:List (List au)) (z:List au) (v w:Nat):Bool:=(fm va v==fm vb w) && (List.range ra.length).all (fun i=>uu (ra.getD i []) (rb.getD i []) z v w)
def wm (l c:List au):Prop:=∀u v,Rl l u v→Rl c u v
section
variable {va vb:List au} {ra rb:List (List au)}
def uQ (va vb:List au) (ra rb:List (List au)) (z:List au):Prop:=∀v w,Rl z v w→py va vb ra rb z v w=true
structure uV (va vb:List au) (ra rb:List (List au)) (na nb:Nat) (z:List au):Prop where
  len:z.length=na
  wN:∀v w,Rl z v w→w<nb
  top:∀z':List au,z'.length=na→(∀v w,Rl z' v w→w<nb)→uQ va vb ra rb z'→wm z' z
end
def oZ (z:List au):Nat:=(z.map BitVec.toNat).sum
structure qB (va vb:List au) (ra rb:List (List au)) (na nb:Nat) (z0 z:List au) (ch:Bool) (k:Nat):Prop where
  inv:uV va vb ra rb na nb z
  le:oZ z≤oZ z0
  wY:ch=true→oZ z<oZ z0
  same:ch=false→∀v w,v<k→Rl z v w→py va vb ra rb z v w=true
structure v7 (va vb:List au) (ra rb:List (List au)) (na nb:Nat) (z0:List au) (k:Nat) (s:au) (i:Nat) (z:List au) (ch:Bool):Prop where
  gk:qB va vb ra rb na nb z0 z ch k
  row:∀w,Rl z k w→s.getLsbD w=true
  left:∀w∈(bK s).drop i,Rl z k w
  done:ch=false→∀w∈(bK s).take i,py va vb ra rb z k w=true
section
variable {va vb:List au} {ra rb:List (List au)} {na nb k i:Nat} {z0 z:List au} {s:au} {ch:Bool}
end
end Go.Proofs.Wit
namespace Go.Proofs.Wit
open Go Go.RowKit
section
variable {P:Program} {t:TypeId}
end
section
variable {κ:Type} [DecidableEq κ]
structure Down (key:Nat→κ) (i:Nat) (j:Int) (low:Nat):Prop where
  lo:j<low
  hi:low≤i
  eq:key low=key i
  min:∀m:Nat,j<m→m≤i→key m=key i→low≤m
omit [DecidableEq κ] in
end
structure v8 (va vb:List au) (ra rb:List (List au)) (na nb:Nat) (z0:List au) (k j:Nat) (z:List au) (ch:Bool):Prop where
  gk:qB va vb ra rb na nb z0 z ch k
  done:ch=false→∀w,w<j→Rl z k w→py va vb ra rb z k w=true
section
variable {va vb:List au} {ra rb:List (List au)} {na nb k j:Nat} {z0 z:List au} {ch:Bool}
end
end Go.Proofs.Wit
namespace Go.Proofs.Wit
open Go Go.RowKit
section
variable {P:Program} {t:TypeId}
theorem ke {x j:Nat} {b:Int} {k:IntKind} (h:b=j) (_hx:x<9223372036854775808) (hj:j≤64):dF P .shr t (.int .i64 x) (.int k b) (.int .i64 ((x / 2^j:Nat):Int)):=by
 subst h
 refine dC (fun p q=>ji _ _ _ _ _ _ _ _) ?_
 show Op.shift .shr .i64 (x:Int) k (j:Int)=_
 unfold Op.shift
 rw [if_neg (by omega),Int.toNat_natCast]
 show pure (Value.int .i64 ((x:Int).fdiv (2^(min j 64))))=_
 rw [Nat.min_eq_left hj]
 have e1:((2:Int)^j)=((2^j:Nat):Int):=by norm_cast
 rw [e1,←Int.ofNat_fdiv]
theorem jo {x:Nat} (hx:x<9223372036854775808):dF P .and t (.int .i64 x) (.int .i64 1) (.int .i64 ((x%2:Nat):Int)):=bI _ (by
 show Op.intBits .and .i64 (x:Int) 1=_
 unfold Op.intBits
 have e1:(BitVec.ofInt 64 (x:Int) &&& BitVec.ofInt 64 1).toNat=x%2:=by
  rw [fF,show BitVec.ofInt 64 1=BitVec.ofNat 64 1 from rfl,BitVec.toNat_and,BitVec.toNat_ofNat,BitVec.toNat_ofNat,Nat.mod_eq_of_lt (by omega),Nat.mod_eq_of_lt (by omega),Nat.and_one_is_mod]
 show pure (Value.int .i64 (IntKind.i64.wrap ((BitVec.ofInt 64 (x:Int) &&& BitVec.ofInt 64 1).toNat:Int)))=_
 rw [e1,IntWalk.i64_in _ (by omega)])
end
def gb (g k:Nat):Nat:=g / 2^k%2
def sP (n:Nat) (rel:List (List au)) (g w:Nat) (k:Nat):au:=jx (fun a (o:au)=>if gb g a=1 then o &&& (rel.getD a []).getD w 0#64 else o) (oD n) k
def re (n:Nat) (rel:List (List au)) (g k:Nat):List au:=(List.range n).map (fun w=>sP n rel g w k)
def sQ (n:Nat) (rel:List (List au)) (g:Nat):List au:=re n rel g rel.length
section
variable {n:Nat} {rel:List (List au)} {g k w:Nat}
end
section
variable {P:Program} {r:Option Nat} {f:FuncId} {R:Value→World→Prop} {w0:World} {S:List Nat} {Y:List (Nat×Obj)} {n:Nat} {k:List Item} {l:Fl} {h:Hl}
variable {ops:Array Oper} {i d:Nat} {rest:List Nat} {ty:TypeId} {pos:String} {aft:Array Edge} {g:Option (Nat×Bool)}
end
end Go.Proofs.Wit
namespace Go.Proofs.Wit
open Go
def sn (q:Nat→Bool) (n:Nat):au:=jx (fun w (o:au)=>if q w=true then o|||1#64<<<w else o) 0#64 n
def pV (r:List au) (n:Nat) (s:au):au:=sn (fun w=>r.getD w 0#64 &&& ~~~s==0#64) n
def sx (r:List au) (c:au) (n:Nat) (s:au):au:=jx (fun w (o:au)=>if o.getLsbD w=true then o|||(r.getD w 0#64 &&& c) else o) s n
def qV (r:List au) (n v:Nat) (c:au) (k:Nat):au:=jx (fun _ (o:au)=>sx r c n o) (r.getD v 0#64 &&& c) k
def sE (r:List au) (n v:Nat) (c:au):au:=qV r n v c n
def uA (r:List au) (n:Nat) (c s:au):au:=sn (fun w=>sE r n w c &&& ~~~s==0#64) n
inductive rT (r:List au) (c:au) (v:Nat):Nat→Prop where
  |one {u:Nat} (h:Rl r v u) (hc:c.getLsbD u=true):rT r c v u
  |step {u x:Nat} (h:rT r c v u) (h2:Rl r u x) (hc:c.getLsbD x=true):rT r c v x
def sU (rel:List (List au)) (g w:Nat) (k:Nat):au:=jx (fun a (o:au)=>if gb g a=1 then o|||(rel.getD a []).getD w 0#64 else o) 0#64 k
def rn (n:Nat) (rel:List (List au)) (g k:Nat):List au:=(List.range n).map (fun w=>sU rel g w k)
def qo (n:Nat) (rel:List (List au)) (g:Nat):List au:=rn n rel g rel.length
def tg (op:Int) (x y all:au):au:=if op=1 then all else if op=4 then all &&& ~~~x else if op=5 then x &&& y else if op=6 then x|||y else if op=7 then (all &&& ~~~x)|||y else if op=8 then all &&& ~~~(x^^^y) else 0#64
def qY (n:Nat) (val:List au) (rel:List (List au)) (op i g:Int) (x y:au):au:=
 if op=3 then val.getD i.toNat 0#64 else if op≤8 then tg op x y (oD n)
 else if op=9 then pV (rel.getD i.toNat []) n x else if op=10 then oD n &&& ~~~pV (rel.getD i.toNat []) n (oD n &&& ~~~x)
 else if op=11 then pV (qo n rel g.toNat) n x else if op=12 then pV (sQ n rel g.toNat) n x else uA (qo n rel g.toNat) n x y
def m9 (n:Nat) (val:List au) (rel:List (List au)):Tr→au
 |.leaf op i _ g=>qY n val rel op i g 0#64 0#64
 |.un op i _ g a=>qY n val rel op i g (m9 n val rel a) 0#64
 |.bin op i _ g a b=>qY n val rel op i g (m9 n val rel a) (m9 n val rel b)
end Go.Proofs.Wit
namespace Go.Proofs.Wit
open Go
abbrev we (p:List Int) (v w:Nat):Prop:=p.getD v 0=p.getD w 0
def wo (n:Nat) (p:List Int) (s:au):Prop:=∀v w,v<n→w<n→we p v w→s.getLsbD v=true→s.getLsbD w=true
section
variable {n:Nat} {p p':List Int} {s t c:au} {R:List au}
end
section
variable {n:Nat} {val:List au} {gp:List (List au)}
end
def p9 (q:Int→Int→Int→Prop):Tr→Prop
 |.leaf op i _ g=>q op i g
 |.un op i _ g a=>q op i g∧p9 q a
 |.bin op i _ g a b=>q op i g∧p9 q a∧p9 q b
def uh (op:Int):Nat:=if 9≤op∧op≤15∨18≤op then 1 else 0
def pM:Tr→Nat
 |.leaf op _ _ _=>uh op
 |.un op _ _ _ a=>pM a+uh op
 |.bin op _ _ _ a b=>max (pM a) (pM b)+uh op
end Go.Proofs.Wit
namespace Go.Proofs.Wit
open Go
def gq (h:NV→Nat) (c:List NV):Nat:=c.foldl (fun a n=>a|||h n) 0
theorem jI {h:NV→Nat} {c:List NV} {n:NV}:gq h (c++[n])=gq h c|||h n:=by simp [gq]
theorem jH {h:NV→Nat} {c:List NV} {k:Nat} (hk:k<c.length):gq h (c.take (k+1))=gq h (c.take k)|||h c[k]:=by rw [List.take_succ_eq_append_getElem hk,jI]
theorem iX {h:NV→Nat} {k:Nat} {c:List NV}:(∀n∈c,h n<2^k)→gq h c<2^k:=by
 induction c using c6 with
 |h0=>intro _;exact Nat.two_pow_pos k
 |h1 c n ih=>intro hb;rw [jI];exact Nat.or_lt_two_pow (ih (fun m hm=>hb m (by simp [hm]))) (hb n (by simp))
def kU (n:NV):Nat:=if n.op=3 then 2^n.i.toNat else 0
def lg (n:NV):Nat:=(if gv n.op=true then 2^n.i.toNat else 0)|||n.g.toNat
structure gj (op i e g:Int):Prop where
  i0:iO op=false→i=0
  e0:op≠17→e=0
  g0:ez op=false→g=0
  fact:op=3→0≤i∧i<8
  ag:gv op=true→0≤i∧i<4
  act:op=17→(0≤i∧i<8)∧0≤e∧e<8
  gr:ez op=true→1≤g∧g<16
theorem nX {op i e g:Int} (h:eT op i e g=0):gj op i e g:=by
 unfold eT at h
 split at h
 ·cases h
 rename_i h1
 split at h
 ·cases h
 rename_i h2
 simp only [Bool.or_eq_true,Bool.and_eq_true,Bool.not_eq_true',bne_iff_ne,ne_eq,beq_iff_eq,not_or,not_and,Bool.and_eq_false_iff,decide_eq_false_iff_not,Classical.not_not] at h1 h2
 obtain ⟨⟨a1,a2⟩,a3⟩:=h1
 obtain ⟨⟨⟨b1,b2⟩,b3⟩,b4⟩:=h2
 refine ⟨a1,a2,a3,fun e=>?_,fun e=>?_,fun e=>?_,fun e=>?_⟩
 ·have:=b1 e;omega
 ·have:=b2 e;omega
 ·have:=b3 e;omega
 have:=b4 e;omega
def r3 (m k A:Nat):Bool:=(List.range k).all (fun i=>gb m i !=1||decide (i<A))
theorem kR {m i:Nat}:gb m i=1↔m.testBit i=true:=by
 unfold gb
 rw [Nat.testBit_eq_decide_div_mod_eq];simp
theorem pn {m k A:Nat}:r3 m k A=true↔∀i,i<k→m.testBit i=true→i<A:=by
 unfold r3
 simp only [List.all_eq_true,List.mem_range,Bool.or_eq_true,bne_iff_ne,ne_eq,decide_eq_true_eq,kR]
 constructor
 ·intro h i hi hb
  rcases h i hi with h1|h1
  ·exact absurd hb h1
  exact h1
 intro h i hi
 by_cases hb:m.testBit i=true
 ·exact .inr (h i hi hb)
 exact .inl hb
def kW (f:List NV) (A B:Nat):Bool:=bj f==0 && (r3 (gq lg (ae f)) 4 A && r3 (gq kU (ae f)) 8 B)
def uX (A B:Nat) (op i g:Int):Prop:=(gv op=true→i.toNat<A)∧(op=3→i.toNat<B)∧g.toNat<2^A
theorem uq {op i e g:Int} (h:gj op i e g):g.toNat<16:=by
 cases hg:ez op with
 |false=>rw [h.g0 hg];decide
 |true=>have:=h.gr hg;omega
theorem lb {n:NV} (h:gj n.op n.i n.e n.g):lg n<2^4:=by
 refine Nat.or_lt_two_pow ?_ (uq h)
 split
 ·rename_i ha;have:=h.ag ha;exact Nat.pow_lt_pow_right (by decide) (by omega)
 decide
theorem kT {n:NV} (h:gj n.op n.i n.e n.g):kU n<2^8:=by
 unfold kU
 split
 ·rename_i ha;have:=h.fact ha;exact Nat.pow_lt_pow_right (by decide) (by omega)
 decide
theorem aM.jX {f:List NV} (h:aM f):∀n∈f,gj n.op n.i n.e n.g:=fun n hn=>by
 obtain ⟨i,hi,rfl⟩:=List.mem_iff_getElem.1 hn
 exact nX (h i hi).jX
def k8 (a b:Nat):Nat:=a &&& (511^^^b)
theorem oC {P:Program} {t:TypeId} {a b:Nat} (ha:a<512) (hb:b<512):dF P .andNot t (.int .i64 a) (.int .i64 b) (.int .i64 (k8 a b)):=by
 refine bI _ ?_
 have h1:(BitVec.ofInt 64 (a:Int)).toNat=a:=by
  rw [BitVec.ofInt_natCast,BitVec.toNat_ofNat];exact Nat.mod_eq_of_lt (by omega)
 have h2:BitVec.ofInt 64 (b:Int)=BitVec.ofNat 64 b:=BitVec.ofInt_natCast ..
 have h0:BitVec.ofInt 64 (a:Int)=BitVec.ofNat 64 a:=BitVec.ofInt_natCast ..
 have hx:k8 a b<2^9:=Nat.and_lt_two_pow _ (by show 511^^^b<2^9;exact Nat.xor_lt_two_pow (by decide) (by omega))
 have key:(BitVec.ofInt 64 (a:Int) &&& ~~~ BitVec.ofInt 64 (b:Int))=BitVec.ofNat 64 (k8 a b):=by
  rw [h0,h2]
  apply BitVec.eq_of_getLsbD_eq
  intro i hi
  rw [BitVec.getLsbD_and,BitVec.getLsbD_not,BitVec.getLsbD_ofNat,BitVec.getLsbD_ofNat,BitVec.getLsbD_ofNat,k8,Nat.testBit_and,Nat.testBit_xor,show (511:Nat)=2^9 - 1 from rfl,Nat.testBit_two_pow_sub_one]
  have e9:¬i<9→a.testBit i=false:=fun hc=>Nat.testBit_lt_two_pow (Nat.lt_of_lt_of_le ha (by show 2^9≤2^i;exact Nat.pow_le_pow_right (by decide) (by omega)))
  by_cases h9:i<9
  ·simp [hi,h9]
  simp [hi,e9 h9]
 show (binOp .andNot t (.int .i64 a) (.int .i64 b))=_
 show (pure (Value.int .i64 (IntKind.i64.wrap ((BitVec.ofInt 64 (a:Int) &&& ~~~ BitVec.ofInt 64 (b:Int)).toNat:Int))):Sem Value)=_
 rw [key,BitVec.toNat_ofNat,Nat.mod_eq_of_lt (by omega),IntWalk.i64_in _ (by omega)]
def sX (n:Int) (val:List au) (rel:List (List au)) (f:List NV):Int:=
 if om n val rel≠0 then om n val rel else if bj f≠0 then bj f else if k8 (fO (ae f)) 15≠0 then 10 else if kW f rel.length val.length=false then 2 else 0
def tE (A B:Nat) (op i g:Int):Prop:=op≤13∧uX A B op i g
end Go.Proofs.Wit
namespace Go.Proofs.Wit
structure vh (A B:Nat) (nd:NV):Prop where
  wO:1≤nd.op
  vw:nd.op≤13
  fact:nd.op=3→0≤nd.i∧nd.i.toNat<B
  ag:nd.op=9∨nd.op=10→0≤nd.i∧nd.i.toNat<A
  gr:11≤nd.op→1≤nd.g∧nd.g.toNat<2^A
structure wB (g:List NV):Prop where
  pR:bj g=0
  can:g=de (gl g)
end Go.Proofs.Wit
namespace Go.Proofs.Wit
open Go Go.RowKit
def te:List Tr→Tr
 |[]=>.leaf 1 0 0 0
 |t::ts=>ts.foldl (fun a b=>.bin 5 0 0 0 a b) t
section
variable {P:Program} {w0:World} {S:List Nat} {n:Nat} {l:Fl} {h:Hl} {ops:Array Oper} {i d:Nat} {ty:TypeId} {pos:String} {aft:Array Edge} {g:Option (Nat×Bool)}
end
end Go.Proofs.Wit
namespace Go.Proofs.Wit
structure xj (n:Nat) (P:List Int) (s:au):Prop where
  len:P.length=n
  ok:wg P
  inv:wo n P s
section
variable {m:Int} {n:Nat} {val:List au} {rel:List (List au)} {t:Tr}
end
structure wq (c:List NV) (k:Nat) (gs:List Int):Prop where
  has:∀(i:Nat) (hi:i<c.length),i<k→c[i].op=12→c[i].g∈gs
  of:∀g∈gs,∃n∈c,n.op=12∧n.g=g
  nd:gs.Nodup
theorem gD {P:Program} {t ty:TypeId} {a b c:Int} (h:c=max a b):tW P .max #[t,t] ty [.int .i64 a,.int .i64 b] (.int .i64 c):=by
 intro cs w
 have e:(if b>a then b else a)=c:=by rw [h];split<;>omega
 simp [builtin,Builtin.max_,Builtin.max2,e]
end Go.Proofs.Wit
namespace Go.Proofs.Wit
open Go
def fst (q:Nat→Bool):Nat→Option Nat
 |0=>none
 |k+1=>match fst q k with
  |some j=>some j
  |none=>if q k=true then some k else none
def vU (n:Nat) (val:List au) (rel:List (List au)) (v w k:Nat):Bool:=(sy n val rel k).getD v 0 !=(sy n val rel k).getD w 0
def dst (n:Nat) (val:List au) (rel:List (List au)) (v w:Nat):Option Nat:=fst (vU n val rel v w) (dep n val rel+1)
section
variable {n:Nat} {val:List au} {rel:List (List au)}
end
end Go.Proofs.Wit
namespace Go.Proofs.Wit
open Go
section
variable {n:Nat} {val:List au} {rel:List (List au)}
def wc (A B:Nat) (t:Tr):Prop:=p9 (fun op i g=>tE A B op i g∧op≤10) t
structure tC (n:Nat) (val:List au) (rel:List (List au)) (v w k:Nat) (t:Tr):Prop where
  ok:t.ok
  pl:wc rel.length val.length t
  yes:(m9 n val rel t).getLsbD v=true
  no:(m9 n val rel t).getLsbD w=false
  dp:pM t≤k
end
end Go.Proofs.Wit
namespace Go.Proofs.Wit
open Go
/-- with a tree its parts -/
def KC (U:List Tr):Prop:=∀t∈U,∀c∈kids t,c∈U
abbrev Mm:=List ((Int×Int)×FV)
section
variable {n:Nat} {val:List au} {rel:List (List au)}
def Fo (n:Nat) (val:List au) (rel:List (List au)) (v w k:Nat) (f:List NV):Prop:=(f=[]∧5<n)∨∃t,tC n val rel v w k t∧f=bT t∧f≠[]
structure vV (U:List Tr) (L:Mm):Prop where
  kc:KC U
  top:Tr.leaf 1 0 0 0∈U
  vP:∀e∈L,∀t,t.ok→e.2.f=bT t→e.2.f≠[]→t∈U
structure uU (n:Nat) (val:List au) (rel:List (List au)) (L:Mm):Prop where
  nd:(L.map (·.1)).Nodup
  vP:∀e∈L,∃v w k:Nat,e.1=((v:Int),(w:Int))∧v<n∧w<n∧dst n val rel v w=some k∧Fo n val rel v w k e.2.f
  wL:n≤5→∃U,vV U L∧U.length≤6*L.length+1
end
end Go.Proofs.Wit
namespace Go.Proofs.Wit
abbrev uR:=Int→Int→Int→Int→Tr→Tr→Tr
def oO:uR:=fun op i e g a b=>kl ⟨op,i,e,g,0,0⟩ a b
def cT (o:Int):Tr:=.leaf o 0 0 0
def fz:Tr→Int→Bool
 |.leaf op _ _ _,o=>op==o
 |_,_=>false
def kz:Tr→Option Tr
 |.un op _ _ _ a=>if op=4 then some a else none
 |_=>none
def lG (t:Tr):Tr:=.un 4 0 0 0 t
def pv (t:Tr):Tr:=(kz t).getD (lG t)
def sI (a b:Tr):Bool:=kz a==some b||kz b==some a
def nP (op i e g:Int) (a b:Tr) (ne dm:Int):Tr:=
 if (fz a dm||fz b dm||(sI a b && !fz a ne && !fz b ne))=true then cT dm
 else if fz a ne=true then b else if (fz b ne||a==b)=true then a else oO op i e g a b
def aS (a b:Tr):Tr:=
 if (fz a 2||fz b 1||a==b)=true then cT 1 else if fz a 1=true then b else if fz b 2=true then pv a else oO 7 0 0 0 a b
def uy (a b:Tr):Tr:=
 if (a==b)=true then cT 1 else if sI a b=true then cT 2 else if fz a 1=true then b else if fz b 1=true then a
 else if fz a 2=true then pv b else if fz b 2=true then pv a else oO 8 0 0 0 a b
def tY:uR:=fun op i e g a b=>
 if op=4 then (if fz a 1=true then cT 2 else if fz a 2=true then cT 1 else pv a)
 else if op=5 then nP op i e g a b 1 2
 else if op=6 then nP op i e g a b 2 1
 else if op=7 then aS a b
 else if op=8 then uy a b
 else if op=10 then (if fz a 2=true then cT 2 else oO op i e g a b)
 else if op=16 then (if (fz a 1 && !fz b 1)=true then b else if (fz a 2||fz b 1)=true then cT 1 else oO op i e g a b)
 else if op=13∨op=14 then (if (fz a 2||fz b 1)=true then cT 1 else oO op i e g a b)
 else if op=9∨op=11∨op=12∨op=15∨op=17 then (if fz a 1=true then cT 1 else oO op i e g a b)
 else oO op i e g a b
inductive js (op i e g:Int) (a b:Tr):Tr→Prop
  |c1:js op i e g a b (cT 1)
  |c2:js op i e g a b (cT 2)
  |a (h:bE op=true):js op i e g a b a
  |b (h:bA op=true):js op i e g a b b
  |sa (h:bE op=true) (c:Tr) (h:kz a=some c):js op i e g a b c
  |sb (h:bA op=true) (c:Tr) (h:kz b=some c):js op i e g a b c
  |na (h:bE op=true) (h0:kz a=none) (h1:fz a 1=false) (h2:fz a 2=false):js op i e g a b (lG a)
  |nb (h:bA op=true) (h0:kz b=none) (h1:fz b 1=false) (h2:fz b 2=false):js op i e g a b (lG b)
  |mk (h:tY op i e g a b=oO op i e g a b):js op i e g a b (oO op i e g a b)
end Go.Proofs.Wit
namespace Go.Proofs.Wit
open Go Go.RowKit
structure IV where
  a:Option Addr
  c:Nat
  xs:List Int
def IV.v (x:IV):Value:=.slice x.a x.xs.length x.c
abbrev sO (m:MV) (mD:Nat) (pa:Option Addr) (pl pc:Nat):Array Value:=#[.int .i64 m.n,.slice m.va m.val.length m.vc,.slice m.ra m.rows.length m.rc,.map (some mD),.slice pa pl pc]
structure wk (e:TypeId) (w:World) (mD bk:Nat) (m:MV) (pa:Option Addr) (pc:Nat) (ps:List IV):Prop where
  c5:w.heap[bk]?=some (.cells (sO m mD pa ps.length pc) e (0,0))
  mod:m.At w
  pre:Sl w pa (ps.map IV.v)
  row:∀p∈ps,ki w p.a p.xs
def FV.In (t:TypeId) (H:Hl) (x:FV):Prop:=∃q sp,(q,ja t x.f sp)∈H∧x.a=q.map (fun b=>⟨b,0,none⟩)∧(q=none→x.f.length=0∧x.c=0)∧(x.f.flatMap NV.cells++sp).length=x.c*6
end Go.Proofs.Wit
namespace Go.Proofs.Wit
open Go Go.RowKit
structure wu (t:TypeId) (n:Nat) (val:List au) (rel:List (List au)) (d:Nat) (L L':Mm) (F:Hl):Prop where
  q9:uU n val rel L'
  sub:L⊆L'
  nw:∀e∈L',e∈L∨∃a b i:Nat,e.1=((a:Int),(b:Int))∧dst n val rel a b=some i∧i<d
  at_:∀e∈L',e∈L∨e.2.In t F
section
variable {t:TypeId} {n:Nat} {val:List au} {rel:List (List au)}
end
theorem St.cY {w0 w w':World} {S:List Nat} {h:Hl} {Y:List (Nat×Obj)} (s:St w0 S w h Y) (e:Ex [] w w') {pre HR:Hl} (g:c3 w w' (pre++HR)):St w0 S w' (pre++(h++HR)) Y:=by
 refine (s.lK e g).perm ?_
 rw [List.append_assoc]
 exact List.perm_append_comm.append_left pre
theorem aa.sC {P:Program} {r:Option Nat} {f:FuncId} {R:Value→World→Prop} {w0:World} {S:List Nat} {Y:List (Nat×Obj)} {n:Nat} {k:List Item} {l:Fl} {h h':Hl} (hp:h.Perm h') (hg:aa P r f R w0 S Y n k l h'):aa P r f R w0 S Y n k l h:=fun t w Ds hF hS=>hg t w Ds hF (hS.perm hp)
end Go.Proofs.Wit
namespace Go.Proofs.Wit
open Go Go.RowKit
def vg (w:World) (u:Bool) (x:FV) (t:Tr):Prop:=u=true→FA w x.a x.f∧x.f=bT t∧t.ok
abbrev FV.z:FV:=⟨none,0,[]⟩
def v3 (t:TypeId) (w w':World) (v:Value) (a b:FV) (u:Tr):Prop:=∃fv:FV,v=fv.v∧fv.f=bT u∧(da t w w' v fv.f∨fv=a∨fv=b)
structure v5 (P:Program) (t:TypeId) (r:uR) (gf:FuncId) (cs:List Value) (w0:World):Prop where
  enter:∀args w,(callFunc gf args).run P w=.ok (.enter gf args) w
  run:∀w,Ex [] w0 w→∀(n:NV) (a b:FV) (ta tb:Tr),(1≤n.op∧n.op≤21)→eT n.op n.i n.e n.g=0→vg w (bE n.op) a ta→vg w (bA n.op) b tb→(bE n.op=true→a.f≠[])→(bA n.op=true→b.f≠[])→Cn P gf ([n.v,a.v,b.v]++cs) w (fun v w'=>v3 t w w' v a b (r n.op n.i n.e n.g ta tb))
/-- of a formula, and of its negation -/
def ed:Tr→Tr×Tr
 |.leaf op i e g=>(.leaf op i e g,if op=1 then cT 2 else if op=2 then cT 1 else lG (.leaf op i e g))
 |.un op i e g a=>
  if op=4 then ((ed a).2,(ed a).1)
  else if op=9 then (.un op i e g (ed a).1,.un 10 i 0 0 (ed a).2)
  else if op=10 then (.un op i e g (ed a).1,.un 9 i 0 0 (ed a).2)
  else (.un op i e g (ed a).1,lG (.un op i e g (ed a).1))
 |.bin op i e g a b=>
  if op=5 then (.bin op i e g (ed a).1 (ed b).1,.bin 6 0 0 0 (ed a).2 (ed b).2)
  else if op=6 then (.bin op i e g (ed a).1 (ed b).1,.bin 5 0 0 0 (ed a).2 (ed b).2)
  else if op=7 then (.bin 6 0 0 0 (ed a).2 (ed b).1,.bin 5 0 0 0 (ed a).1 (ed b).2)
  else if op=8 then (.bin 5 0 0 0 (.bin 6 0 0 0 (ed a).2 (ed b).1) (.bin 6 0 0 0 (ed a).1 (ed b).2),.bin 6 0 0 0 (.bin 5 0 0 0 (ed a).1 (ed b).2) (.bin 5 0 0 0 (ed a).2 (ed b).1))
  else (.bin op i e g (ed a).1 (ed b).1,lG (.bin op i e g (ed a).1 (ed b).1))
end Go.Proofs.Wit
namespace Go.Proofs.Wit
open Go Go.RowKit
structure Cf (f:List NV) (t:Tr):Prop where
  eq:f=bT t
  ne:f≠[]
  ok:t.ok
end Go.Proofs.Wit
namespace Go.Proofs.Wit
open Go Go.RowKit
structure wA (t:TypeId) (H:Hl) (gs:List FV) (ts:List Tr):Prop where
  eq:gs.map FV.f=ts.map bT
  cf:∀u∈ts,u.ok∧bT u≠[]
  wS:∀g∈gs,g.In t H
theorem ei (f:List NV):aM (ae f):=by
 by_cases h:bj f=0
 ·exact (eh h).nodes
 rw [ae,if_pos h];intro i hi;exact absurd hi (Nat.not_lt_zero _)
end Go.Proofs.Wit
namespace Go.Proofs.Wit
open Go Go.RowKit
section
variable {n:Nat} {rel:List (List au)} {g k w:Nat}
end
theorem iZ {m k A:Nat} (hm:m<2^k):r3 m k A=decide (m / 2^A=0):=by
 have h1:r3 m k A=true↔m / 2^A=0:=by
  rw [pn,Nat.div_eq_zero_iff_lt (Nat.two_pow_pos A)]
  constructor
  ·intro h
   refine Nat.lt_pow_two_of_testBit m (fun i hi=>?_)
   by_cases hk:i<k
   ·cases hb:m.testBit i with
    |false=>rfl
    |true=>have:=h i hk hb;omega
   exact Nat.testBit_lt_two_pow (Nat.lt_of_lt_of_le hm (Nat.pow_le_pow_right (by decide) (by omega)))
  intro h i _ hb
  refine Classical.byContradiction (fun hn=>?_)
  rw [Nat.testBit_lt_two_pow (Nat.lt_of_lt_of_le h (Nat.pow_le_pow_right (by decide) (by omega)))] at hb
  cases hb
 by_cases h:m / 2^A=0
 ·rw [decide_eq_true h];exact h1.2 h
 rw [decide_eq_false h,Bool.eq_false_iff];exact fun h2=>h (h1.1 h2)
theorem tv {op:Int} (h:gv op=true):ez op=false:=by
 simp only [gv,Bool.or_eq_true,beq_iff_eq] at h
 simp only [ez,Bool.and_eq_false_iff,decide_eq_false_iff_not]
 omega
theorem uo {n:NV} (h:gj n.op n.i n.e n.g):0≤n.g:=by
 cases hg:ez n.op with
 |true=>have:=h.gr hg;omega
 |false=>have:=h.g0 hg;omega
end Go.Proofs.Wit
namespace Go.Proofs.Wit
open Go Go.RowKit
def bV (A B:Nat) (op i g:Int):Bool:=decide (op≤13) && ((!gv op||decide (i.toNat<A)) && ((!(op==3)||decide (i.toNat<B)) && decide (g.toNat<2^A)))
end Go.Proofs.Wit
namespace Go.Proofs.Wit
open Go Go.RowKit
/-- a list that is a formula, or nothing -/
def Bf (f:List NV):Option Tr→Prop
 |none=>f=[]
 |some t=>Cf f t
abbrev mQ (a b:Tr):Tr:=.bin 7 0 0 0 a b
abbrev vd (a b:Tr):Tr:=.bin 5 0 0 0 a b
abbrev uk (a b:Tr):Tr:=.bin 8 0 0 0 a b
abbrev kO (i:Int) (a:Tr):Tr:=.un 9 i 0 0 a
abbrev vv (i:Int) (a:Tr):Tr:=.un 10 i 0 0 a
abbrev uw (g:Int) (a:Tr):Tr:=.un 11 0 0 g a
abbrev uB (g:Int) (a b:Tr):Tr:=.bin 13 0 0 g a b
def Fit (t:Tr):Prop:=(de t).length≤200
def wE (t:Tr):Prop:=∃i x y,t=mQ (kO i (mQ x y)) (mQ (kO i x) (kO i y))
def wC (t:Tr):Prop:=∃i x,t=mQ (kO i x) x
def wK (t:Tr):Prop:=∃i x,t=mQ (kO i x) (kO i (kO i x))
def wJ (t:Tr):Prop:=∃i x,t=mQ (lG (kO i x)) (kO i (lG (kO i x)))
def wH (t:Tr):Prop:=∃i x,t=mQ (kO i x) (lG (kO i (lG x)))
def wD (t:Tr):Prop:=∃i x,t=uk (vv i x) (lG (kO i (lG x)))
def wI (t:Tr):Prop:=∃g x y,t=uk (uB g x y) (uw g (mQ x (vd y (uB g x y))))
def wF (u t:Tr):Prop:=∃z g x y,t=mQ z (uB g x y)∧u=mQ z (uw g (mQ x (vd y z)))
section
variable {t:Tr}
end
end Go.Proofs.Wit
namespace Go.Proofs.Wit
open Go Go.RowKit
section
variable {t u:Tr}
def uO (g k:Nat):List Nat:=(List.range k).filter (fun i=>gb g i==1)
def vJ (g k:Nat) (x:Tr):List Tr:=(uO g k).map (fun (j:Nat)=>kO (j:Int) x)
def uL (g:Nat) (x:Tr):Tr:=te (vJ g 4 x)
def wG (t:Tr):Prop:=∃(g:Int) (x:Tr),t=uk (uw g x) (uL g.toNat x)
end
def gY (l r:Int):Bool:=if r=3 then decide (l=2∨l=4∨l=6) else if r=4 then decide (3≤l) else if r=5 then decide (5≤l) else if r=6 then decide (l=1∨l=5) else true
def qu (f:List NV):Int:=if bj f≠0 then bj f else if k8 (fO (ae f)) 11≠0 then 10 else 0
def qi (r:Int):Int:=if r=10 then 2 else if r=11∨r=12 then 1 else 0
end Go.Proofs.Wit
namespace Go.Proofs.Wit
open Go Go.RowKit
def oP (op:Int):Bool:=op==3||decide (8<op)
def rO (op:Int) (x y:Bool):Bool:=if op=1 then true else if op=4 then !x else if op=5 then x && y else if op=6 then x||y else if op=7 then !x||y else if op=8 then x==y else false
def tO (r:Tr→Bool):Tr→Bool
 |.leaf op i e g=>if oP op=true then r (.leaf op i e g) else rO op false false
 |.un op i e g a=>if oP op=true then r (.un op i e g a) else rO op (tO r a) false
 |.bin op i e g a b=>if oP op=true then r (.bin op i e g a b) else rO op (tO r a) (tO r b)
def qA:Tr→List Tr
 |.leaf op i e g=>if oP op=true then [.leaf op i e g] else []
 |.un op i e g a=>if oP op=true then [.un op i e g a] else qA a
 |.bin op i e g a b=>if oP op=true then [.bin op i e g a b] else qA a++qA b
def oK (t:Tr):Prop:=(∃l:List Tr,l.Nodup∧(∀u,u∈l↔u∈qA t)∧l.length≤10)∧∀r:Tr→Bool,tO r t=true
end Go.Proofs.Wit
namespace Go.Proofs.Wit
open Go Go.RowKit
abbrev sB (s:List Bool) (j:Nat):Bool:=s.getD j false
structure Lv (c:List NV) (i:Nat) (s:List Bool) (o:List Int) (s':List Bool) (o':List Int):Prop where
  len:s'.length=s.length
  mono:∀j,sB s j=true→sB s' j=true
  self:sB s' i=true
  new:∀(j:Nat),sB s' j=true→sB s j=false→∃hj:j<c.length,(oP c[j].op=true→af c j∈qA (af c i))∧(oP c[j].op=false→(bE c[j].op=true→sB s' c[j].x.toNat=true)∧(bA c[j].op=true→sB s' c[j].y.toNat=true))
  out:∃l:List Nat,o'=o++l.map (fun j:Nat=>(j:Int))∧l.Nodup∧∀j,j∈l↔(sB s' j=true∧sB s j=false∧∃hj:j<c.length,oP c[j].op=true)
section
variable {c:List NV} {i:Nat} {s s1 s2 s3:List Bool} {o o2 o3:List Int}
end
section
variable {c:List NV} {l:List Nat}
end
def tI (r:Int) (t:Tr):Prop:=if r=1 then oK t else if r=2 then wE t else if r=3 then wC t else if r=4 then wK t else if r=5 then wJ t else if r=6 then wH t else if r=7 then wD t else if r=8 then wG t else if r=9 then wI t else False
structure wv (g:Nat) (fn:Int→FuncId) (w:World):Prop where
  size:g<w.heap.size
  cell:∀r:Nat,1≤r→r≤9→w.cell? ⟨g,r,none⟩=some (.func (.func (fn r)) #[] #[])
structure LV where
  f:FV
  r:Int
  a:Int
  b:Int
  g:Int
def LV.cells (x:LV):List Value:=[x.f.v,.int .i64 x.r,.int .i64 x.a,.int .i64 x.b,.int .i64 x.g]
structure LA (w:World) (A:Option Addr) (ls:List LV):Prop where
  at_:Sl w A (ls.flatMap LV.cells)
  fs:∀l∈ls,FA w l.f.a l.f.f∧l.f.f.length≤maxLen
end Go.Proofs.Wit
namespace Go.Proofs.Wit
open Go Go.RowKit
def tj (p k n i:Int):Bool:=(decide (k≥p) && n !=0)||(decide (k<p) && (decide (n<0)||decide (n≥i)))
def sK (i:Int) (x:LV):Int:=if (tj (qi x.r) 0 x.a i||tj (qi x.r) 1 x.b i)=true then 3 else if x.r≠11 then (if x.g≠0 then 3 else 0) else if x.g<0∨x.g≥4 then 2 else 0
def tN (ls:List LV) (k:Int):Tr:=((ls.map (fun x=>gl x.f.f)).getD k.toNat (.leaf 0 0 0 0))
def uW (ls:List LV) (x:LV):Prop:=if x.r=10 then tN ls x.b=mQ (tN ls x.a) (gl x.f.f) else if x.r=11 then gl x.f.f=kO x.g (tN ls x.a) else if x.r=12 then wF (tN ls x.a) (gl x.f.f) else tI x.r (gl x.f.f)
open Classical in
noncomputable def sS (l:Int) (ls:List LV) (i:Nat) (x:LV):Int:=
 if qu x.f.f≠0 then qu x.f.f else if x.r<1∨12<x.r then 1 else if sK i x≠0 then sK i x else if gY l x.r=false then 12 else if uW ls x then 0 else 13
end Go.Proofs.Wit
namespace Go.Proofs.Wit
open Go
structure KM where
  n:Nat
  R:Nat→Nat→Nat→Prop
  V:Nat→Nat→Prop
  lt:∀k w u,w<n→R k w u→u<n
def KM.Gr (M:KM) (g:Nat) (w u:Nat):Prop:=∃k,k<4∧gb g k=1∧M.R k w u
inductive KM.uS (M:KM) (g:Nat) (c:Nat→Bool):Nat→Nat→Prop
  |one {w u:Nat}:M.Gr g w u→c u=true→KM.uS M g c w u
  |step {w u v:Nat}:KM.uS M g c w u→M.Gr g u v→c v=true→KM.uS M g c w v
section
variable {M:KM}
structure xe (M:KM) (l:Int):Prop where
  t:gY l 3=true→∀k w,w<M.n→M.R k w w
  f:gY l 4=true→∀k w u v,w<M.n→M.R k w u→M.R k u v→M.R k w v
  v:gY l 5=true→∀k w u v,w<M.n→M.R k w u→M.R k w v→M.R k u v
  d:gY l 6=true→∀k w,w<M.n→∃u,M.R k w u
end
end Go.Proofs.Wit
namespace Go.Proofs.Wit
open Go Go.RowKit
section
variable {n:Nat} {val:List au} {rel:List (List au)}
structure wb (n:Nat) (val:List au) (rel:List (List au)) (f:List NV) (t:Tr):Prop where
  pR:bj f=0
  fit:kW f rel.length val.length=true
  wV:k8 (fO (ae f)) 1=0
  can:ae f=de t
  top:gl f=t
  hold:sX (n:Int) val rel f=0
  ok:t.ok
end
end Go.Proofs.Wit
namespace Go.Proofs.Wit
open Go Go.RowKit
end Go.Proofs.Wit
namespace Go.Proofs.Wit
open Go
structure xg (n1:Nat) (v1:List au) (r1:List (List au)) (n:Nat) (v:List au) (r:List (List au)) (e:Nat→Nat):Prop where
  vE:n≤64
  vD:n1≤64
  lt:∀x,x<n1→e x<n
  val:∀i x,x<n1→((v.getD i 0#64).getLsbD (e x)=true↔(v1.getD i 0#64).getLsbD x=true)
  fwd:∀i x y,x<n1→Rl (r1.getD i []) x y→Rl (r.getD i []) (e x) (e y)
  bwd:∀i x z,x<n1→Rl (r.getD i []) (e x) z→∃y,y<n1∧z=e y∧Rl (r1.getD i []) x y
  wQ:∀i x y,Rl (r1.getD i []) x y→y<n1
section
variable {n1 n:Nat} {v1 v:List au} {r1 r:List (List au)} {e:Nat→Nat}
end
end Go.Proofs.Wit
namespace Go.Proofs.Wit
open Go
section
variable {na nb:Nat} {va vb:List au} {ra rb:List (List au)}
structure w8 (na nb:Nat) (va vb:List au) (ra rb:List (List au)):Prop where
  a:tz (na:Int) va ra
  b:tz (nb:Int) vb rb
  rl:ra.length=rb.length
  vl:va.length=vb.length
  le:na+nb≤64
end
end Go.Proofs.Wit
namespace Go.Proofs.Wit
open Go Go.RowKit
structure Tk (c:List NV) (r:Nat) (s:List Bool) (o st:List Nat):Prop where
  len:s.length=c.length
  nd:o.Nodup
  mem:∀j,j∈o↔sB s j=true
  lt:∀j∈st,j<c.length
  sub:∀j,j∈o∨j∈st→∀u∈qA (af c j),u∈qA (af c r)
  root:r∈o∨r∈st
  cl:∀j∈o,∀hj:j<c.length,oP c[j].op=false→(bE c[j].op=true→c[j].x.toNat∈o∨c[j].x.toNat∈st)∧(bA c[j].op=true→c[j].y.toNat∈o∨c[j].y.toNat∈st)
section
variable {c:List NV} {r i:Nat} {s:List Bool} {o st st':List Nat}
end
end Go.Proofs.Wit
namespace Go.Proofs.Wit
open Go Go.RowKit
/-- what a line says -/
structure LD where
  f:List NV
  r:Int
  a:Int
  b:Int
  g:Int
def LV.d (x:LV):LD:=⟨x.f.f,x.r,x.a,x.b,x.g⟩
def LD.v (x:LD):LV:=⟨⟨none,0,x.f⟩,x.r,x.a,x.b,x.g⟩
section
variable {l:Int} {ls ls':List LV}
end
inductive sf (ls:List LV):Nat→Prop
  |last {k:Nat}:k+1=ls.length→sf ls k
  |a {k:Nat} (hk:k<ls.length):sf ls k→10≤ls[k].r→sf ls ls[k].a.toNat
  |b {k:Nat} (hk:k<ls.length):sf ls k→ls[k].r=10→sf ls ls[k].b.toNat
section
variable {l:Int} {ls:List LV}
end
end Go.Proofs.Wit
namespace Go.Proofs.Wit
open Go Go.RowKit
def wa (ls:List LV) (k j:Nat):Prop:=∃hk:k<ls.length,(10≤ls[k].r∧j=ls[k].a.toNat)∨(ls[k].r=10∧j=ls[k].b.toNat)
structure w7 (ls:List LV) (i:Nat) (s:List Bool):Prop where
  len:s.length=ls.length
  uj:∀j,j<ls.length→(sB s j=true↔(j+1=ls.length∨∃k,ls.length≤k+i∧k<ls.length∧sf ls k∧wa ls k j))
section
variable {l:Int} {ls:List LV} {i k:Nat} {s:List Bool}
end
end Go.Proofs.Wit
namespace Go.Proofs.Wit
open Go Go.RowKit
def FV.vj (t:TypeId) (H:Hl) (x:FV):Prop:=∃q sp,(q,ja t x.f sp)∈H∧x.a=q.map (fun b=>⟨b,0,none⟩)∧(q=none→x.f.length=0)
section
variable {P:Program} {r:Option Nat} {f:FuncId} {R:Value→World→Prop} {w0:World} {S:List Nat} {Y:List (Nat×Obj)} {n:Nat} {k:List Item} {l:Fl} {h:Hl}
variable {ops:Array Oper} {i d:Nat} {rest:List Nat} {ty:TypeId} {pos:String} {aft:Array Edge} {g:Option (Nat×Bool)}
end
end Go.Proofs.Wit
