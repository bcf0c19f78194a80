/- Laws of walks, for any program, under the conditions that each theorem states. -/
import Derived.Test.YtnfmegcknckahaaGreatDoorXO02
import Derived.MapKept
namespace Go.Proofs.Wit
open Go Go.RowKit
section
variable {κ ν:Type}
def m6 (ek:κ→Value) (ev:ν→Value):List (κ×ν)→Nat→List MapEntry
 |[],_=>[]
 |p::L,i=>⟨ek p.1,ev p.2,i⟩::m6 ek ev L (i+1)
abbrev lh (ek:κ→Value) (ev:ν→Value) (L:List (κ×ν)):Obj:=.map (m6 ek ev L 0).toArray L.length
def cG (q:κ→κ→Bool):List (κ×ν)→κ→Option ν
 |[],_=>none
 |p::L,k=>if q k p.1=true then some p.2 else cG q L k
variable {ek:κ→Value} {ev:ν→Value} {q:κ→κ→Bool}
theorem oy:∀{L:List (κ×ν)} {k:κ} {v:ν} {i:Nat},m6 ek ev (L++[(k,v)]) i=m6 ek ev L i++[⟨ek k,ev v,i+L.length⟩]
 |[],k,v,i=>rfl
 |p::L,k,v,i=>by rw [List.cons_append,m6,oy,m6,List.cons_append,List.length_cons,Nat.add_assoc,Nat.add_comm 1]
def found (q:κ→κ→Bool) (ev:ν→Value):List (κ×ν)→κ→Nat→Option (Nat×Value)
 |[],_,_=>none
 |p::L,k,i=>if q k p.1=true then some (i,ev p.2) else found q ev L k (i+1)
theorem pU:∀{L:List (κ×ν)} {k:κ} {i:Nat},(found q ev L k i).map (·.2)=(cG q L k).map ev
 |[],_,_=>rfl
 |p::L,k,i=>by
  rw [found,cG]
  split
  ·rfl
  exact pU
theorem pX {kd:TypeDesc} (hs:∀a b:κ,Instr.sameNow kd (ek a) (ek b)=some (q a b)):∀{L:List (κ×ν)} {k:κ} {i j:Nat},Instr.findNow kd (ek k) (m6 ek ev L j) i=some (found q ev L k i)
 |[],_,_,_=>rfl
 |p::L,k,i,j=>by
  rw [m6,Instr.findNow,hs,found]
  cases q k p.1 with
  |true=>rfl
  |false=>exact pX hs
theorem pY {P:Program} {kt:TypeId} {w:World} (hs:∀a b:κ,(Op.equal kt (ek a) (ek b)).run P w=.ok (q a b) w):∀{L:List (κ×ν)} {k:κ} {i j:Nat},(Instr.findAsking kt (ek k) (m6 ek ev L j) i).run P w=.ok (found q ev L k i) w
 |[],_,_,_=>rfl
 |p::L,k,i,j=>by
  rw [m6,Instr.findAsking,found]
  simp only [Sem.run_bind,hs,Result.andThen_ok]
  cases q k p.1 with
  |true=>rfl
  |false=>exact pY hs
structure jJ (P:Program) (kt:TypeId) (ek:κ→Value) (q:κ→κ→Bool):Prop where
  iY:∀(e:Bool) (a:κ) (w:World),(Instr.checkKey e 10000 kt (ek a)).run P w=.ok () w
  find:∀{ν:Type} (ev:ν→Value) (L:List (κ×ν)) (k:κ) (w:World),(Instr.findKey kt (ek k) (m6 ek ev L 0)).run P w=.ok (found q ev L k 0) w
theorem jJ.now {P:Program} {kt:TypeId} {kd:TypeDesc} (hu:P.underlying kt=some kd) (hc:∀(e:Bool) (a:κ) (w:World),(Instr.checkKey e 10000 kt (ek a)).run P w=.ok () w) (hs:∀a b:κ,Instr.sameNow kd (ek a) (ek b)=some (q a b)):jJ P kt ek q:=
 ⟨hc,fun ev L k w=>by
  simp only [Instr.findKey,Sem.run_bind,run_underlying hu,Result.andThen_ok,pX hs];rfl⟩
theorem jJ.int {P:Program} {kt:TypeId} {kd:IntKind} (hu:P.underlying kt=some (.int kd)):jJ P kt (Value.int kd) (fun a b=>a==b):=
 .now hu (fun e a w=>Go.MapKept.run_checkKey hu (by simp [Go.MapKept.IsKey]) e 9999) (fun a b=>by simp [Instr.sameNow])
theorem G4 {P:Program} {t et:TypeId} {n s:Nat} {z:Value} {ps:List (Nat×Value)} {c:List Value} (hu:P.underlying t=some (.array n et)) (hs:∀w,(sizeOf et).run P w=.ok s w) (hz:∀w,(zeroValue t).run P w=.ok z w)
  (hf:ox (fun i=>some (i*s,s)) z.cells.toList ps=some c):HC P t ps (.agg c.toArray):=by
 intro w
 have h1:=fill_eq hf
 rw [Array.toArray_toList] at h1
 simp only [Instr.build,Sem.run_bind,hz,Result.andThen_ok,run_underlying hu,hs]
 rw [h1];rfl
theorem jZ {P:Program} {et:TypeId} (ha:∀w,(isAgg et).run P w=.ok false w) {cs:Array Value} {j:Nat} {v:Value} (hv:cs[j]?=some v) (w:World):(part et cs j).run P w=.ok v w:=by
 simp only [part,Sem.run_bind,ha,Result.andThen_ok,hv];rfl
theorem y9 {P:Program} {t:TypeId} {kd:IntKind} (dd:Nat) {p q:Int} (hu:P.underlying t=some (.int kd)) (w:World):(Op.equalIn (dd+1) t (.int kd p) (.int kd q)).run P w=.ok (p==q) w:=by
 simp only [Op.equalIn,Sem.run_bind,run_underlying hu,Result.andThen_ok];simp
end
section
variable {P:Program} {r:Option Nat} {f:FuncId} {R:Value→World→Prop} {w0:World} {S:List Nat} {Y:List (Nat×Obj)} {n:Nat} {k:List Item} {l:Fl} {h:Hl}
variable {ops:Array Oper} {i d:Nat} {rest:List Nat} {ty:TypeId} {pos:String} {aft:Array Edge} {g:Option (Nat×Bool)}
variable {κ ν:Type} {ek:κ→Value} {ev:ν→Value} {q:κ→κ→Bool}
theorem ab.mkMap (ek:κ→Value) (ev:ν→Value) {t:TypeId} (ho:ops[i]?=some ⟨some d,.makeMap t none,ty,pos,aft,g⟩) (hw:au ops l g=true) (hd:Nat.blt d n=true)
  (hk:∀b,ab P r f R w0 S Y n (.inRegion ops rest::k) ((d,.map (some b))::l) ((some b,lh ek ev [])::h)):ab P r f R w0 S Y n (.inRegion ops (i::rest)::k) l h:=
 .mem ho hw rfl rfl hd (fun t' w Ds _ hF hS=>⟨.map (some w.heap.size),w.alloc (.map #[] 0),_,by
  simp [execOp,Instr.makeMap],hS.alloc rfl,hk _⟩)
theorem ae.A7 {t kt el:TypeId} (hK:jJ P kt ek q) {z:Value} {x ix:Operand} {b:Nat} {a:κ} {L:List (κ×ν)} (ho:ops[i]?=some ⟨some d,.lookup t x ix true,ty,pos,aft,g⟩) (hw:au ops l g=true)
  (hx:aU l x=some (.map (some b))) (hy:aU l ix=some (ek a)) (hd:Nat.blt d n=true) (hu:P.underlying t=some (.map kt el)) (hz:∀w,(zeroValue el).run P w=.ok z w) (j:Nat) (hj:h[j]?=some (some b,lh ek ev L)):
  ae P w0 S n h ops i l d (.tuple #[((cG q L a).map ev).getD z,.bool (cG q L a).isSome]):=
 .of ho hw rfl rfl hd (fun t' w Ds _ hF hS=>⟨.value (.tuple #[((cG q L a).map ev).getD z,.bool (cG q L a).isSome]),by
  have hg:(getObj b).run P w=.ok (lh ek ev L) w:=by simp [getObj,Sem.run,hS.get hj]
  have hf:=hK.find ev L a w
  have e1:(found q ev L a 0).map (·.2)=(cG q L a).map ev:=pU
  simp only [execOp,hF.aU hx,hF.aU hy,Sem.run_bind,Instr.lookup,run_underlying hu,Result.andThen_ok,hg,hK.iY,Sem.run_pure,hf]
  cases hfo:found q ev L a 0 with
  |none=>
   rw [hfo] at e1
   cases ha:cG q L a with
   |none=>simp [hz]
   |some v=>rw [ha] at e1;cases e1
  |some y=>
   rw [hfo] at e1
   cases ha:cG q L a with
   |none=>rw [ha] at e1;cases e1
   |some v=>rw [ha] at e1;simp at e1⊢;exact e1,rfl⟩)
theorem pS:∀{L:List (κ×ν)} {a:κ} {i:Nat},cG q L a=none→found q ev L a i=none
 |[],_,_,_=>rfl
 |p::L,a,i,h=>by
  rw [cG] at h
  rw [found]
  split at h
  ·cases h
  rename_i hq;rw [if_neg hq];exact pS h
theorem uz {t kt el:TypeId} (hK:jJ P kt ek q) {b:Nat} {a:κ} {v:ν} {L:List (κ×ν)} {w:World} (hu:P.underlying t=some (.map kt el)) (hb:w.heap[b]?=some (lh ek ev L)) (ha:cG q L a=none):
  (Instr.mapUpdate t (.map (some b)) (ek a) (ev v)).run P w=.ok () {w with heap:=w.heap.setIfInBounds b (lh ek ev (L++[(a,v)]))}:=by
 have hg:(getObj b).run P w=.ok (lh ek ev L) w:=by simp [getObj,Sem.run,hb]
 have hf:=hK.find ev L a w
 rw [pS ha] at hf
 simp only [Instr.mapUpdate,Sem.run_bind,run_underlying hu,Result.andThen_ok,hg,hK.iY,hf]
 have e1:((m6 ek ev L 0).toArray.push ⟨ek a,ev v,L.length⟩)=(m6 ek ev (L++[(a,v)]) 0).toArray:=by rw [oy];simp
 rw [e1]
 simp [setObj,Sem.run,hb,lh]
theorem ab.pK {t kt el:TypeId} (hK:jJ P kt ek q) {m x y:Operand} {b:Nat} {a:κ} {v:ν} {L:List (κ×ν)} {o:Oper} (ho:ops[i]?=some o) (hop:o.op=.mapUpdate t m x y∨o.op=.insert t m x y) (hdst:o.dst=none) (hw:au ops l o.guard=true)
  (hm:aU l m=some (.map (some b))) (hx:aU l x=some (ek a)) (hy:aU l y=some (ev v)) (hu:P.underlying t=some (.map kt el)) (j:Nat) (hj:h[j]?=some (some b,lh ek ev L)) (ha:cG q L a=none)
  (hk:ab P r f R w0 S Y n (.inRegion ops rest::k) l (h.set j (some b,lh ek ev (L++[(a,v)])))):ab P r f R w0 S Y n (.inRegion ops (i::rest)::k) l h:=
 .GX ho hw hdst (by rcases hop with e|e<;>rw [e]<;>rfl) (fun t' w Ds _ hF hS=>by
  have hb:=hS.get hj
  refine ⟨{w with heap:=w.heap.setIfInBounds b (lh ek ev (L++[(a,v)]))},_,?_,hS.pf hj (o':=lh ek ev (L++[(a,v)])) rfl rfl rfl rfl (by simp) ?_ ?_,hk⟩
  ·have hrun:=uz hK (v:=v) hu hb ha
   unfold execOp
   rcases hop with e|e<;>rw [e]<;>simp only [hF.aU hm,hF.aU hx,hF.aU hy,Sem.run_bind,hrun]<;>rfl
  ·have hlt:=hS.lt hj
   simp [hlt]
  intro q _ hq
  simp [Ne.symm hq])
end
end Go.Proofs.Wit
namespace Go.Proofs.Wit
open Go Go.RowKit
def NV.v (n:NV):Value:=.agg #[bK n.op,bK n.i,bK n.e,bK n.g,bK n.x,bK n.y]
structure FA (w:World) (a:Option Addr) (f:List NV):Prop where
  at_:Sl w a (f.flatMap NV.cells)
theorem FA.ay {w0 w:World} {a:Option Addr} {f:List NV} (h:FA w0 a f) {S:List Nat} (e:Ex S w0 w) (hS:∀b o,a=some ⟨b,o,none⟩→b∉S:=by simp):FA w a f:=⟨Sl.ex h.at_ e hS⟩
abbrev eO (e:TypeId) (ns:List NV) (sp:List Value):Obj:=.cells (ns.flatMap NV.cells++sp).toArray e (0,0)
theorem ow {ns:List NV}:(ns.flatMap NV.cells).length=ns.length*6:=aD (enc:=NV.cells) (sz:=6) (fun _=>rfl)
theorem aL {w0 w:World} {S:List Nat} {h:Hl} {Y:List (Nat×Obj)} (s:St w0 S w h Y) (j:Nat) {q:Option Nat} {ns:List NV} {e:TypeId} {sp:List Value} (hj:h[j]?=some (q,eO e ns sp)) (hq:q=none→ns.length=0):FA w (q.map (fun b=>⟨b,0,none⟩)) ns:=by
 cases q with
 |none=>rw [List.eq_nil_of_length_eq_zero (hq rfl)];exact ⟨Sl.nil _ _⟩
 |some b=>exact ⟨Sl.dg (s.get hj)⟩
def aI (e:TypeId) (w w':World) (v:Value) (ns:List NV):Prop:=
 ∃q cap sp,v=cK q ns.length cap∧(q=none→ns.length=0∧cap=0)∧(ns.flatMap NV.cells++sp).length=cap*6∧∀b,q=some b→w.heap.size≤b∧w'.heap[b]?=some (eO e ns sp)
theorem ak {t:TypeId} {w0 w w':World} {S:List Nat} {h:Hl} {Y:List (Nat×Obj)} (s:St w0 S w h Y) (e:Ex [] w w') {v:Value} {ns:List NV} (ho:aI t w w' v ns):
  ∃q cap sp,v=cK q ns.length cap∧(q=none→ns.length=0∧cap=0)∧(ns.flatMap NV.cells++sp).length=cap*6∧St w0 S w' ((q,eO t ns sp)::h) Y:=by
 obtain ⟨q,cap,sp,h1,h2,h3,h4⟩:=ho
 refine ⟨q,cap,sp,h1,h2,h3,?_⟩
 cases q with
 |none=>exact (s.later e).none _
 |some b=>exact s.Bi e (h4 b rfl).2 rfl (h4 b rfl).1
theorem aI.mk {t:TypeId} {w0 w:World} {h:Hl} {Y:List (Nat×Obj)} (s:St w0 [] w h Y) (j:Nat) {q:Option Nat} {ns:List NV} {sp:List Value} {cap m:Nat} (hj:h[j]?=some (q,eO t ns sp)) (hm:m=ns.length)
  (hq:q=none→ns.length=0∧cap=0) (ao:(ns.flatMap NV.cells++sp).length=cap*6):aI t w0 w (cK q m cap) ns:=by
 subst hm
 refine ⟨q,cap,sp,rfl,hq,ao,fun b hb=>?_⟩
 subst hb
 exact ⟨s.fresh hj,s.get hj⟩
theorem aI.oI {t:TypeId} {w w':World}:aI t w w' (.slice none 0 0) []:=⟨none,0,[],rfl,fun _=>⟨rfl,rfl⟩,rfl,fun _ e=>by cases e⟩
section
variable {P:Program} {r:Option Nat} {f:FuncId} {R:Value→World→Prop} {w0:World} {S:List Nat} {Y:List (Nat×Obj)} {n:Nat} {k:List Item} {l:Fl} {h:Hl}
variable {ops:Array Oper} {i d:Nat} {rest:List Nat} {ty:TypeId} {pos:String} {aft:Array Edge} {g:Option (Nat×Bool)}
theorem ae.eg {x:Operand} {a:Addr} (ho:ops[i]?=some ⟨some d,.nilCheck x,ty,pos,aft,g⟩) (hw:au ops l g=true) (hx:aU l x=some (.pointer (some a))) (hd:Nat.blt d n=true):ae P w0 S n h ops i l d (.pointer (some a)):=
 .of ho hw rfl rfl hd (fun t' w Ds _ hF hS=>⟨.value (.pointer (some a)),by simp only [execOp,hF.aU hx];rfl,rfl⟩)
end
def pI (fs:Array Field) (it:TypeId):Prop:=∃f0 f1 f2 f3 f4 f5:Field,fs=#[f0,f1,f2,f3,f4,f5]∧
 (f0.name ≠ "_" ∧ f0.type = it ∧ f0.offset = 0) ∧ (f1.name ≠ "_" ∧ f1.type = it ∧ f1.offset = 1) ∧ (f2.name ≠ "_" ∧ f2.type = it ∧ f2.offset = 2) ∧
 (f3.name ≠ "_" ∧ f3.type = it ∧ f3.offset = 3) ∧ (f4.name ≠ "_" ∧ f4.type = it ∧ f4.offset = 4) ∧ (f5.name ≠ "_" ∧ f5.type = it ∧ f5.offset = 5)
theorem rk {P:Program} {t it:TypeId} {fs:Array Field} (hu:P.underlying t=some (.struct fs)) (hfs:pI fs it) (hi:P.underlying it=some (.int .i64)) (ha:∀w,(isAgg it).run P w=.ok false w) (mV:P.stoodInHeld t=false) (m:Nat) (a b:NV) (w:World):
  (Op.equalIn (m+2) t a.v b.v).run P w=.ok (a==b) w:=by
 obtain ⟨f0,f1,f2,f3,f4,f5,rfl,⟨n0,t0,o0⟩,⟨n1,t1,o1⟩,⟨n2,t2,o2⟩,⟨n3,t3,o3⟩,⟨n4,t4,o4⟩,⟨n5,t5,o5⟩⟩:=hfs
 have hp:∀(c:NV) (w:World),(part it c.v.cells 0).run P w=.ok (bK c.op) w∧(part it c.v.cells 1).run P w=.ok (bK c.i) w∧(part it c.v.cells 2).run P w=.ok (bK c.e) w∧(part it c.v.cells 3).run P w=.ok (bK c.g) w∧(part it c.v.cells 4).run P w=.ok (bK c.x) w∧(part it c.v.cells 5).run P w=.ok (bK c.y) w:=fun c w=>
  ⟨jZ ha rfl w,jZ ha rfl w,jZ ha rfl w,jZ ha rfl w,jZ ha rfl w,jZ ha rfl w⟩
 obtain ⟨a0,a1,a2,a3,a4,a5⟩:=hp a w
 obtain ⟨b0,b1,b2,b3,b4,b5⟩:=hp b w
 have hq:∀p q:Int,(Op.equalIn (m+1) it (.int .i64 p) (.int .i64 q)).run P w=.ok (p==q) w:=fun p q=>y9 m hi w
 have hv:∀c:NV,c.v=.agg c.v.cells:=fun c=>rfl
 rw [hv a,hv b,show m+2=(m+1)+1 from rfl,Op.equalIn]
 have hprog:(program:Sem Program).run P w=.ok P w:=rfl
 simp only [Sem.run_bind,run_underlying hu,Result.andThen_ok,hprog,mV,←Array.forIn_toList]
 have hab:(a==b)=(a.op==b.op && (a.i==b.i && (a.e==b.e && (a.g==b.g && (a.x==b.x && a.y==b.y))))):=by
  rw [Bool.eq_iff_iff]
  simp only [beq_iff_eq,Bool.and_eq_true]
  obtain ⟨_,_,_,_,_,_⟩:=a
  obtain ⟨_,_,_,_,_,_⟩:=b
  simp [NV.mk.injEq]
 rw [hab]
 cases h0:a.op==b.op
 ·simp [n0,t0,o0,a0,b0,hq,h0]
 cases h1:a.i==b.i
 ·simp [n0,t0,o0,a0,b0,hq,h0,n1,t1,o1,a1,b1,h1]
 cases h2:a.e==b.e
 ·simp [n0,t0,o0,a0,b0,hq,h0,n1,t1,o1,a1,b1,h1,n2,t2,o2,a2,b2,h2]
 cases h3:a.g==b.g
 ·simp [n0,t0,o0,a0,b0,hq,h0,n1,t1,o1,a1,b1,h1,n2,t2,o2,a2,b2,h2,n3,t3,o3,a3,b3,h3]
 cases h4:a.x==b.x
 ·simp [n0,t0,o0,a0,b0,hq,h0,n1,t1,o1,a1,b1,h1,n2,t2,o2,a2,b2,h2,n3,t3,o3,a3,b3,h3,n4,t4,o4,a4,b4,h4]
 cases h5:a.y==b.y
 ·simp [n0,t0,o0,a0,b0,hq,h0,n1,t1,o1,a1,b1,h1,n2,t2,o2,a2,b2,h2,n3,t3,o3,a3,b3,h3,n4,t4,o4,a4,b4,h4,n5,t5,o5,a5,b5,h5]
 simp [n0,t0,o0,a0,b0,hq,h0,n1,t1,o1,a1,b1,h1,n2,t2,o2,a2,b2,h2,n3,t3,o3,a3,b3,h3,n4,t4,o4,a4,b4,h4,n5,t5,o5,a5,b5,h5]
theorem zm {P:Program} {t it:TypeId} {fs:Array Field} (hu:P.underlying t=some (.struct fs)) (hfs:pI fs it) (hi:P.underlying it=some (.int .i64)) (ha:∀w,(isAgg it).run P w=.ok false w) (e:Bool) (m:Nat) (a:NV) (w:World):
  (Instr.checkKey e (m+2) t a.v).run P w=.ok () w:=by
 obtain ⟨f0,f1,f2,f3,f4,f5,rfl,⟨n0,t0,o0⟩,⟨n1,t1,o1⟩,⟨n2,t2,o2⟩,⟨n3,t3,o3⟩,⟨n4,t4,o4⟩,⟨n5,t5,o5⟩⟩:=hfs
 have a0:(part it a.v.cells 0).run P w=.ok (bK a.op) w:=jZ ha rfl w
 have a1:(part it a.v.cells 1).run P w=.ok (bK a.i) w:=jZ ha rfl w
 have a2:(part it a.v.cells 2).run P w=.ok (bK a.e) w:=jZ ha rfl w
 have a3:(part it a.v.cells 3).run P w=.ok (bK a.g) w:=jZ ha rfl w
 have a4:(part it a.v.cells 4).run P w=.ok (bK a.x) w:=jZ ha rfl w
 have a5:(part it a.v.cells 5).run P w=.ok (bK a.y) w:=jZ ha rfl w
 have hk:∀p:Int,(Instr.checkKey e (m+1) it (.int .i64 p)).run P w=.ok () w:=fun p=>Go.MapKept.run_checkKey hi (by simp [Go.MapKept.IsKey]) e m
 rw [show a.v=.agg a.v.cells from rfl,show m+2=(m+1)+1 from rfl,Instr.checkKey]
 simp only [Sem.run_bind,run_underlying hu,Result.andThen_ok,←Array.forIn_toList]
 simp [n0,t0,o0,a0,hk,n1,t1,o1,a1,n2,t2,o2,a2,n3,t3,o3,a3,n4,t4,o4,a4,n5,t5,o5,a5]
theorem jJ.node {P:Program} {t it:TypeId} {fs:Array Field} (hu:P.underlying t=some (.struct fs)) (hfs:pI fs it) (hi:P.underlying it=some (.int .i64)) (ha:∀w,(isAgg it).run P w=.ok false w) (mV:P.stoodInHeld t=false):jJ P t NV.v (fun a b=>a==b):=by
 refine ⟨fun e a w=>zm hu hfs hi ha e 9998 a w,fun ev L k w=>?_⟩
 have hq:∀a b:NV,(Op.equal t a.v b.v).run P w=.ok (a==b) w:=fun a b=>rk hu hfs hi ha mV 9998 a b w
 simp only [Instr.findKey,Sem.run_bind,run_underlying hu,Result.andThen_ok]
 cases L with
 |nil=>rfl
 |cons p L=>
  have h0:Instr.findNow (.struct fs) k.v (m6 NV.v ev (p::L) 0) 0=none:=rfl
  rw [h0]
  exact pY (q:=fun a b:NV=>a==b) hq
end Go.Proofs.Wit
namespace Go.Proofs.Wit
open Go Go.RowKit
/-- static: what only reads, and alone writes its slot -/
def jM (ops:Array Oper) (i:Nat):Bool:=match ops[i]? with
 |none=>false
 |some o=>eW o.op && match o.dst with
  |none=>false
  |some d=>(List.range ops.size).all (fun j=>Nat.beq j i||(!(bj ops j==some d) && (match ops[j]? with
   |none=>true
   |some p=>(!(fS ops p).contains d||(bP ops j).contains i||(bP ops i).contains j)) && (match bj ops j with
   |none=>true
   |some e=>(!(fS ops o).contains e||(bP ops i).contains j||(bP ops j).contains i))))
structure zL (ops:Array Oper) (i d:Nat):Prop where
  xS:∀o,ops[i]?=some o→eW o.op=true
  dst:bj ops i=some d
  one:∀j,j<ops.size→j≠i→bj ops j≠some d
  seen:∀j p,j<ops.size→j≠i→ops[j]?=some p→d∈fS ops p→i∈bP ops j∨j∈bP ops i
  CQ:∀j e o,j<ops.size→j≠i→bj ops j=some e→ops[i]?=some o→e∈fS ops o→j∈bP ops i∨i∈bP ops j
theorem sQ {ops:Array Oper} {i:Nat} (h:jM ops i=true):∃d,zL ops i d:=by
 unfold jM at h
 split at h
 ·cases h
 rename_i o ho
 rw [Bool.and_eq_true] at h
 obtain ⟨h1,h2⟩:=h
 split at h2
 ·cases h2
 rename_i d hd
 simp only [List.all_eq_true,List.mem_range,Bool.or_eq_true,Nat.beq_eq,Bool.and_eq_true,Bool.not_eq_true'] at h2
 refine ⟨d,fun p hp=>by rw [ho] at hp;cases hp;exact h1,by simp [bj,ho,hd],fun j hj hne=>?_,fun j p hj hne hp hm=>?_,fun j e p hj hne he hp hm=>?_⟩
 ·rcases h2 j hj with h|h
  ·exact absurd h hne
  ·simpa using h.1.1
 ·rcases h2 j hj with h|h
  ·exact absurd h hne
  ·have:=h.1.2
   rw [hp] at this
   simp only [Bool.or_eq_true,Bool.not_eq_true'] at this
   rcases this with (h3|h3)|h3
   ·rw [List.contains_eq_mem,decide_eq_false_iff_not] at h3;exact absurd hm h3
   ·exact .inl (by simpa using h3)
   exact .inr (by simpa using h3)
 rcases h2 j hj with h|h
 ·exact absurd h hne
 have:=h.2
 rw [he] at this
 simp only [Bool.or_eq_true,Bool.not_eq_true'] at this
 rw [ho] at hp;cases hp
 rcases this with (h3|h3)|h3
 ·rw [List.contains_eq_mem,decide_eq_false_iff_not] at h3;exact absurd hm h3
 ·exact .inl (by simpa using h3)
 exact .inr (by simpa using h3)
section
variable {P:Program} {r:Option Nat} {f:FuncId} {R:Value→World→Prop} {w0:World} {S:List Nat} {Y:List (Nat×Obj)} {n:Nat} {k:List Item} {l:Fl} {h:Hl} {ops:Array Oper}
def fV (P:Program) (w0:World) (S:List Nat) (n:Nat) (ops:Array Oper) (i:Nat) (t:Array Value) (h:Hl) (K:Array Value→Hl→Prop):Prop:=
 ∃o d,ops[i]?=some o∧o.dst=some d∧eZ o.op=false∧eW o.op=true∧d<n∧
  ((Region.wanted o (yielded ops t)=true∧∀(w:World) (Ds:List Nat) (Y':List (Nat×Obj)),St w0 S w h Y'→
   (∃v w' h',(execOp (Act.eval ⟨t,Ds.map mark⟩) o).run P w=.ok (.value v) w'∧St w0 S w' h' Y'∧K (t.setIfInBounds d v) h')∨
   (∃gf args,∃Rc:Value→World→Prop,(execOp (Act.eval ⟨t,Ds.map mark⟩) o).run P w=.ok (.enter gf args) w∧(Calls P gf args w fun e w'=>∃v,e=.returned v∧Rc v w')∧∀v w',Rc v w'→∃h',St w0 S w' h' Y'∧K (t.setIfInBounds d v) h'))∨
  (Region.wanted o (yielded ops t)=false∧K (t.setIfInBounds d undef) h))
theorem fV.of {i d:Nat} {K:Value→Hl→Prop} {K':Array Value→Hl→Prop} {t:Array Value} (hm:dk P w0 S n h ops i l d K) (hF:jv n t l) (hK:∀v h',K v h'→K' (t.setIfInBounds d v) h'):fV P w0 S n ops i t h K':=by
 obtain ⟨o,ho,hdst,hnd,hsel,hd,hr⟩:=hm
 refine ⟨o,d,ho,hdst,hnd,hsel,by simpa [Nat.blt_eq] using hd,?_⟩
 rcases hr with ⟨hw,hr⟩|⟨hs,hk⟩
 ·refine .inl ⟨eI hF hw,fun w Ds Y' hS=>?_⟩
  rcases hr t w Ds Y' hF hS with ⟨v,w',h',h1,h2,h3⟩|⟨gf,args,Rc,h1,h2,h3⟩
  ·exact .inl ⟨v,w',h',h1,h2,hK v h' h3⟩
  refine .inr ⟨gf,args,Rc,h1,h2,fun v w' hR=>?_⟩
  obtain ⟨h',h4,h5⟩:=h3 v w' hR
  exact ⟨h',h4,hK v h' h5⟩
 exact .inr ⟨mz hF hs,hK undef h hk⟩
theorem fV.congr {i:Nat} {t t':Array Value} {K K':Array Value→Hl→Prop} (hm:fV P w0 S n ops i t h K) (hs:t'.size=t.size) (he:∀o,ops[i]?=some o→∀s∈fS ops o,t'.getD s undef=t.getD s undef)
  (hK:∀d v h',bj ops i=some d→K (t.setIfInBounds d v) h'→K' (t'.setIfInBounds d v) h'):fV P w0 S n ops i t' h K':=by
 obtain ⟨o,d,ho,hdst,hnd,hsel,hd,hr⟩:=hm
 have hdo:bj ops i=some d:=by simp [bj,ho,hdst]
 have hw:=kl (ops:=ops) (o:=o) hs (he o ho)
 refine ⟨o,d,ho,hdst,hnd,hsel,hd,?_⟩
 rcases hr with ⟨hwant,hr⟩|⟨hskip,hk⟩
 ·refine .inl ⟨hw.trans hwant,fun w Ds Y' hS=>?_⟩
  have hexec:execOp (Act.eval ⟨t',Ds.map mark⟩) o=execOp (Act.eval ⟨t,Ds.map mark⟩) o:=execOp_congr (ρ':=Act.eval ⟨t,Ds.map mark⟩) o (fun cs bb e=>by rw [e] at hsel;cases hsel) (fun x hx=>by
   cases x with
   |tmp s=>exact he o ho s (by
     simp only [fS,List.mem_append]
     exact .inr (List.mem_filterMap.2 ⟨.tmp s,by simpa using hx,rfl⟩))
   |const v=>rfl
   |global g=>rfl
   |func g=>rfl)
  rw [hexec]
  rcases hr w Ds Y' hS with ⟨v,w',h',h1,h2,h3⟩|⟨gf,args,Rc,h1,h2,h3⟩
  ·exact .inl ⟨v,w',h',h1,h2,hK d v h' hdo h3⟩
  refine .inr ⟨gf,args,Rc,h1,h2,fun v w' hR=>?_⟩
  obtain ⟨h',h4,h5⟩:=h3 v w' hR
  exact ⟨h',h4,hK d v h' hdo h5⟩
 exact .inr ⟨hw.trans hskip,hK d undef h hdo hk⟩
theorem fV.pure {i d:Nat} {v:Value} {t:Array Value} {hb:Hl} {K:Array Value→Hl→Prop} (ho:jx P w0 S n hb ops i t d v) (hsel:∀o,ops[i]?=some o→eW o.op=true) (hs:hb.Sublist h) (hK:K (t.setIfInBounds d v) h):fV P w0 S n ops i t h K:=by
 obtain ⟨o,h1,h2,h3,h4,h5⟩:=ho
 refine ⟨o,d,h1,h2,h4,hsel o h1,h3,?_⟩
 rcases h5 with ⟨a,b⟩|⟨a,rfl⟩
 ·refine .inl ⟨a,fun w Ds Y' hS=>?_⟩
  rcases b w Ds Y' (hS.dH hs) with hb2|⟨gf,args,hb2,hcall⟩
  ·exact .inl ⟨v,w,h,hb2,hS,hK⟩
  exact .inr ⟨gf,args,_,hb2,hcall,fun u w' ⟨he,hu⟩=>⟨h,hS.later he,by rw [hu];exact hK⟩⟩
 exact .inr ⟨a,hK⟩
def Dt (P:Program) (r:Option Nat) (f:FuncId) (R:Value→World→Prop) (w0:World) (S:List Nat) (Y:List (Nat×Obj)) (n:Nat) (k:List Item) (ops:Array Oper) (hb:Hl):Nat→List Nat→Array Value→Hl→Prop
 |0,_,_,_=>False
 |q+1,D,t,h=>
  (aB ops D=[]∧∀w Ds,St w0 S w h (mR Ds++Y)→dN P r f R (.inRegion ops []::k) t (Ds.map mark) w)∨
  (aB ops D≠[]∧∀i∈aB ops D,fV P w0 S n ops i t h (fun t' h'=>hb.Sublist h'∧Dt P r f R w0 S Y n k ops hb q (i::D) t' h'))
theorem fV.mono {i:Nat} {t:Array Value} {K K':Array Value→Hl→Prop} (hm:fV P w0 S n ops i t h K) (hK:∀t' h',K t' h'→K' t' h'):fV P w0 S n ops i t h K':=hm.congr rfl (fun _ _ _ _=>rfl) (fun _ _ _ _ h=>hK _ _ h)
theorem Dt.perm {hb:Hl}:∀{q:Nat} {D D':List Nat} {t:Array Value} {h:Hl},(∀j,j∈D↔j∈D')→Dt P r f R w0 S Y n k ops hb q D t h→Dt P r f R w0 S Y n k ops hb q D' t h
 |0,_,_,_,_,_,hd=>hd
 |q+1,D,D',t,h,hp,hd=>by
  rw [Dt] at hd⊢
  rw [←mF hp]
  rcases hd with hd|⟨h1,h2⟩
  ·exact .inl hd
  exact .inr ⟨h1,fun i hi=>(h2 i hi).mono (fun t' h' ⟨e1,e2⟩=>⟨e1,e2.perm (fun j=>by rw [List.mem_cons,List.mem_cons,hp j])⟩)⟩
theorem set_comm {t:Array Value} {d e:Nat} {u v:Value} (hne:d≠e):(t.setIfInBounds d u).setIfInBounds e v=(t.setIfInBounds e v).setIfInBounds d u:=by
 apply Array.ext_getElem?
 intro j
 simp only [Array.getElem?_setIfInBounds,Array.size_setIfInBounds]
 by_cases h1:e=j
 ·by_cases h2:d=j
  ·exact absurd (h2.trans h1.symm) hne
  ·simp [h1,h2]
 by_cases h2:d=j<;>simp [h1,h2]
theorem Dt.pure {hb:Hl} {i d:Nat} (hf:zL ops i d) (hd:d<n):∀{q:Nat} {D:List Nat} {t:Array Value} {h:Hl} {v:Value},t.size=n→i∈aB ops D→jx P w0 S n hb ops i t d v→hb.Sublist h→Dt P r f R w0 S Y n k ops hb q (i::D) (t.setIfInBounds d v) h→Dt P r f R w0 S Y n k ops hb (q+1) D t h
 |0,_,_,_,_,_,_,_,_,hd=>hd.elim
 |q+1,D,t,h,v,hts,hi,ho,hs,hdt=>by
  have hme:fV P w0 S n ops i t h (fun t' h'=>hb.Sublist h'∧Dt P r f R w0 S Y n k ops hb (q+1) (i::D) t' h'):=fV.pure ho hf.xS hs ⟨hs,hdt⟩
  have hne:aB ops D≠[]:=fun e=>by rw [e] at hi;cases hi
  obtain ⟨hiS,hiD,hid⟩:=bL.1 hi
  rw [Dt]
  refine .inr ⟨hne,fun j hj=>?_⟩
  by_cases hji:j=i
  ·rw [hji];exact hme
  obtain ⟨hjS,hjD,hjd⟩:=bL.1 hj
  have hj2:j∈aB ops (i::D):=bL.2 ⟨hjS,by simp [hji,hjD],fun e he=>List.mem_cons_of_mem _ (hjd e he)⟩
  rw [Dt] at hdt
  rcases hdt with ⟨h1,_⟩|⟨_,h2⟩
  ·rw [h1] at hj2;cases hj2
  have hjo:∀o,ops[j]?=some o→d∉fS ops o:=fun o hoo hm=>(hf.seen j o hjS hji hoo hm).elim (fun h5=>hiD (hjd i h5)) (fun h5=>hjD (hid j h5))
  refine (h2 j hj2).congr (by simp) (fun o hoo s hse=>?_) (fun e u h' hde hk=>?_)
  ·have hds:d≠s:=fun e1=>hjo o hoo (by rw [e1];exact hse)
   rw [cu (by rw [hts];exact hd),if_neg hds]
  obtain ⟨hk1,hk2⟩:=hk
  refine ⟨hk1,?_⟩
  have hde2:d≠e:=fun e1=>hf.one j hjS hji (by rw [hde,e1])
  rw [set_comm hde2] at hk2
  have hi2:i∈aB ops (j::D):=bL.2 ⟨hiS,by simp [Ne.symm hji,hiD],fun e he=>List.mem_cons_of_mem _ (hid e he)⟩
  refine Dt.pure hf hd (by simpa using hts) hi2 (ho.congr hf.xS (by simp) (fun o hoo s hse=>?_)) hk1 (hk2.perm (fun x=>by simp only [List.mem_cons];exact or_left_comm))
  have hes:e≠s:=fun e1=>by
   subst e1
   rcases hf.CQ j e o hjS hji hde hoo hse with h5|h5
   ·exact hjD (hid j h5)
   exact hiD (hjd i h5)
  by_cases hlt:e<t.size
  ·rw [cu hlt,if_neg hes]
  rw [show t.setIfInBounds e u=t from Array.setIfInBounds_eq_of_size_le (Nat.le_of_not_lt hlt)]
theorem Dt.go {hb:Hl}:∀(fuel τ:Nat) (arr:Array Bool) (D:List Nat) (q:Nat) (t:Array Value) (h:Hl) (w:World) (Ds:List Nat),arr.size=ops.size→(∀j,arr.getD j false=D.contains j)→Dt P r f R w0 S Y n k ops hb q D t h→St w0 S w h (mR Ds++Y)→(List.range ops.size).countP (fun j=>!D.contains j)≤fuel→
  dN P r f R (.inRegion ops (Region.linearise.go .any ops fuel τ arr [])::k) t (Ds.map mark) w
 |_,_,_,_,0,_,_,_,_,_,_,hd,_,_=>hd.elim
 |fuel,τ,arr,D,q+1,t,h,w,Ds,hs,ha,hd,hS,hfu=>by
  rw [Dt] at hd
  rcases hd with ⟨h0,hg⟩|⟨h1,h2⟩
  ·have:Region.linearise.go .any ops fuel τ arr []=[]:=by
    cases fuel with
    |zero=>rfl
    |succ fuel=>
     simp only [Region.linearise.go]
     change (match (Region.ready .any ops arr)[_%(Region.ready .any ops arr).length]? with
      |some i=>_
      |none=>[].reverse)=[]
     rw [jY hs ha,h0];rfl
   rw [this];exact hg w Ds hS
  cases fuel with
  |zero=>
   exfalso
   obtain ⟨x,hx⟩:=List.exists_mem_of_ne_nil _ h1
   obtain ⟨e1,e2,_⟩:=bL.1 hx
   have:0<(List.range ops.size).countP (fun j=>!D.contains j):=List.countP_pos_iff.2 ⟨x,by simpa using e1,by simpa using e2⟩
   omega
  |succ fuel=>
   have hpos:0<(aB ops D).length:=List.length_pos_iff.2 h1
   simp only [Region.linearise.go]
   change dN P r f R (.inRegion ops (match (Region.ready .any ops arr)[τ%(Region.ready .any ops arr).length]? with
    |some i=>Region.linearise.go .any ops fuel (τ / (Region.ready .any ops arr).length) (arr.setIfInBounds i true) [i]
    |none=>[].reverse)::k) t (Ds.map mark) w
   rw [jY hs ha]
   have hlt:τ%(aB ops D).length<(aB ops D).length:=Nat.mod_lt _ hpos
   rw [List.getElem?_eq_getElem hlt]
   obtain ⟨x,hx⟩:∃x,x=(aB ops D)[τ%(aB ops D).length]:=⟨_,rfl⟩
   rw [←hx]
   have hxm:x∈aB ops D:=by rw [hx];exact List.getElem_mem hlt
   obtain ⟨e1,e2,_⟩:=bL.1 hxm
   dsimp only
   rw [linearise_go_acc,List.reverse_singleton,List.singleton_append]
   have hnext:∀(t':Array Value) (h':Hl) (w':World),hb.Sublist h'∧Dt P r f R w0 S Y n k ops hb q (x::D) t' h'→St w0 S w' h' (mR Ds++Y)→dN P r f R (.inRegion ops (Region.linearise.go .any ops fuel (τ / (aB ops D).length) (arr.setIfInBounds x true) [])::k) t' (Ds.map mark) w':=fun t' h' w' hK hS'=>by
    refine Dt.go fuel _ _ (x::D) q t' h' w' Ds (by simpa using hs) (fun j=>?_) hK.2 hS' ?_
    ·rw [aJ (by omega),ha j,List.contains_cons]
     split
     ·rename_i e;subst e;simp
     rename_i e;rw [beq_false_of_ne (Ne.symm e)];rfl
    have:=lP (l:=List.range ops.size) (p:=fun j=>!(x::D).contains j) (q:=fun j=>!D.contains j) (fun y _ hy=>by simp at hy⊢;exact hy.2) ⟨x,by simpa using e1,by simpa using e2,by simp⟩
    omega
   obtain ⟨o,d,ho,hdst,hnd,hsel,hdn,hr⟩:=h2 x hxm
   rcases hr with ⟨hw,hr⟩|⟨hw,hk⟩
   ·rcases hr w Ds _ hS with ⟨v,w',h',h3,h4,h5⟩|⟨gf,args,Rc,h3,h4,h5⟩
    ·refine dN.op ho hw (cS hnd) h3 (.inl rfl) ?_
     rw [hdst];exact hnext _ _ _ h5 h4
    ·refine dN.call ho hw (cS hnd) h3 h4 (fun u w2 hu=>?_)
     obtain ⟨h',h6,h7⟩:=h5 u w2 hu
     rw [hdst];exact hnext _ _ _ h7 h6
   refine dN.nM ho hw ?_
   rw [hdst];exact hnext _ _ _ hk hS
def aG (P:Program) (r:Option Nat) (f:FuncId) (R:Value→World→Prop) (w0:World) (S:List Nat) (Y:List (Nat×Obj)) (n:Nat) (k:List Item) (ops:Array Oper) (hb:Hl) (q:Nat) (D:List Nat) (l:Fl) (h:Hl):Prop:=
 ∀t,jv n t l→Dt P r f R w0 S Y n k ops hb q D t h
variable {hb:Hl} {q:Nat} {D:List Nat}
theorem ab.jG {id:Nat} (q:Nat) (hb:Hl) (hmix:P.follows .mixedOrders=true) (hg:aG P r f R w0 S Y n k ops hb q [] l h):ab P r f R w0 S Y n (.code (.region id ops true)::k) l h:=by
 intro t w Ds hF hS
 refine .i7 (fun τ=>?_)
 simp only [Region.schedule,hmix,Bool.true_or,if_true,Region.linearise]
 refine Dt.go ops.size τ _ [] q t h _ Ds (by simp) (fun j=>?_) (hg t hF) hS.drew ?_
 ·simp [Array.getD_eq_getD_getElem?,Array.getElem?_replicate];split<;>simp
 exact Nat.le_trans List.countP_le_length (by simp)
theorem ab.dK {id:Nat} (q:Nat) (hmix:P.follows .mixedOrders=true) (hg:aG P r f R w0 S Y n k ops h q [] l h):ab P r f R w0 S Y n (.code (.region id ops true)::k) l h:=ab.jG q h hmix hg
theorem ab.zc {id:Nat} {p:Option Nat×Obj} (q:Nat) (hmix:P.follows .mixedOrders=true) (hg:aG P r f R w0 S Y n k ops [p] q [] l (p::h)):ab P r f R w0 S Y n (.code (.region id ops true)::k) l (p::h):=ab.jG q [p] hmix hg
theorem aG.done (h0:aB ops D=[]) (hg:ab P r f R w0 S Y n (.inRegion ops []::k) l h):aG P r f R w0 S Y n k ops hb (q+1) D l h:=fun t hF=>.inl ⟨h0,fun w Ds hS=>hg t w Ds hF hS⟩
theorem aG.ye {i d:Nat} {v:Value} (hi:(aB ops D).contains i=true) (hp:jM ops i=true) (ho:∀t,jv n t l→jx P w0 S n hb ops i t d v) (hs:hb.Sublist h) (hg:aG P r f R w0 S Y n k ops hb q (i::D) ((d,v)::l) h):aG P r f R w0 S Y n k ops hb (q+1) D l h:=by
 intro t hF
 obtain ⟨d',hf⟩:=sQ hp
 have hO:=ho t hF
 obtain ⟨o,h1,h2,h3,_⟩:=hO
 have e:d'=d:=by
  have:=hf.dst
  simp [bj,h1,h2] at this;exact this.symm
 subst e
 exact Dt.pure hf h3 hF.1 (by simpa using hi) (ho t hF) hs (hg _ (hF.put v (by simpa [Nat.blt_eq] using h3)))
theorem aG.v {i d:Nat} {v:Value} (hv:ae P w0 S n hb ops i l d v) (hi:(aB ops D).contains i=true) (hp:jM ops i=true) (hs:hb.Sublist h) (hg:aG P r f R w0 S Y n k ops hb q (i::D) ((d,v)::l) h):aG P r f R w0 S Y n k ops hb (q+1) D l h:=by
 refine aG.ye hi hp (fun t hF=>?_) hs hg
 obtain ⟨o,ho,hw,hdst,hnd,hd,hr⟩:=hv
 exact ⟨o,ho,hdst,by simpa [Nat.blt_eq] using hd,hnd,.inl ⟨eI hF hw,fun w Ds Y' hS=>by
  obtain ⟨nx,h1,rfl⟩:=hr t w Ds Y' hF hS;exact .inl h1⟩⟩
theorem aG.no {i d:Nat} {o:Oper} (ho:ops[i]?=some o) (hw:mE ops l o.guard=true) (hdst:o.dst=some d) (hnd:eZ o.op=false) (hd:Nat.blt d n=true) (hi:(aB ops D).contains i=true) (hp:jM ops i=true) (hs:hb.Sublist h) (hg:aG P r f R w0 S Y n k ops hb q (i::D) ((d,undef)::l) h):aG P r f R w0 S Y n k ops hb (q+1) D l h:=
 aG.ye hi hp (fun _ hF=>⟨o,ho,hdst,by simpa [Nat.blt_eq] using hd,hnd,.inr ⟨mz hF hw,rfl⟩⟩) hs hg
theorem aG.cases {d:Nat} {b:Bool} (hv:look l d=some (.bool b)) (ht:b=true→aG P r f R w0 S Y n k ops hb q D ((d,.bool true)::l) h) (hf:b=false→aG P r f R w0 S Y n k ops hb q D ((d,.bool false)::l) h):aG P r f R w0 S Y n k ops hb q D l h:=by
 intro t hF
 cases hb2:b with
 |true=>exact ht hb2 t (mY hF hv hb2)
 |false=>exact hf hb2 t (mY hF hv hb2)
theorem aG.one {i d:Nat} (h1:aB ops D=[i]) (hm:dk P w0 S n h ops i l d (fun v h'=>hb.Sublist h'∧aG P r f R w0 S Y n k ops hb q (i::D) ((d,v)::l) h')) (hd:Nat.blt d n=true):aG P r f R w0 S Y n k ops hb (q+1) D l h:=by
 intro t hF
 rw [Dt]
 refine .inr ⟨by rw [h1];simp,fun j hj=>?_⟩
 rw [h1] at hj;obtain rfl:=List.mem_singleton.1 hj
 exact fV.of hm hF (fun v h' ⟨e1,e2⟩=>⟨e1,e2 _ (hF.put v hd)⟩)
theorem aG.call {i d:Nat} {ty:TypeId} {pos:String} {aft:Array Edge} {g:Option (Nat×Bool)} {az:Array Operand} {ts:Array TypeId} {cal:Operand} {gf:FuncId} {vs:List Value} (Rc:World→Value→World→Prop) (h1:aB ops D=[i]) (ho:ops[i]?=some ⟨some d,.call ⟨.value cal,az,ts⟩,ty,pos,aft,g⟩) (hw:au ops l g=true)
  (hc:aU l cal=some (.func (.func gf) #[] #[])) (hx:dq l az.toList=some vs) (hd:Nat.blt d n=true) (hcf:∀args w,(callFunc gf args).run P w=.ok (.enter gf args) w)
  (hcall:∀w Y',St w0 S w h Y'→Cn P gf vs w (Rc w))
  (hk:∀v w w' Y',St w0 S w h Y'→Ex [] w w'→Rc w v w'→∃h',St w0 S w' h' Y'∧hb.Sublist h'∧aG P r f R w0 S Y n k ops hb q (i::D) ((d,v)::l) h'):aG P r f R w0 S Y n k ops hb (q+1) D l h:=
 aG.one h1 (dk.call Rc ho hw hc hx hd hcf hcall (fun v w w' Y' hS he hr=>by
  obtain ⟨h',e1,e2,e3⟩:=hk v w w' Y' hS he hr;exact ⟨h',e1,e2,e3⟩)) hd
theorem aG.cC {i d:Nat} {v:Value} {ty:TypeId} {pos:String} {aft:Array Edge} {g:Option (Nat×Bool)} {az:Array Operand} {ts:Array TypeId} {cal:Operand} {gf:FuncId} {vs:List Value} (h1:aB ops D=[i]) (ho:ops[i]?=some ⟨some d,.call ⟨.value cal,az,ts⟩,ty,pos,aft,g⟩) (hw:au ops l g=true)
  (hc:aU l cal=some (.func (.func gf) #[] #[])) (hx:dq l az.toList=some vs) (hd:Nat.blt d n=true) (hcf:∀args w,(callFunc gf args).run P w=.ok (.enter gf args) w)
  (hcall:∀w Y',St w0 S w h Y'→Cn P gf vs w (fun u _=>u=v)) (hs:hb.Sublist h) (hg:aG P r f R w0 S Y n k ops hb q (i::D) ((d,v)::l) h):aG P r f R w0 S Y n k ops hb (q+1) D l h:=
 aG.call (fun _ u _=>u=v) h1 ho hw hc hx hd hcf hcall (fun _u _ _ _ hS he e=>⟨h,hS.later he,hs,e ▸ hg⟩)
end
end Go.Proofs.Wit
namespace Go.Proofs.Wit
open Go Go.RowKit
section
variable {P:Program} {r:Option Nat} {f:FuncId} {R:Value→World→Prop} {w0:World} {S:List Nat} {Y:List (Nat×Obj)} {n:Nat} {k:List Item} {l:Fl} {h:Hl} {ops:Array Oper} {i d m:Nat} {rest:List Nat} {ty:TypeId} {pos:String} {aft:Array Edge} {g:Option (Nat×Bool)}
theorem gE (hk:ab P r f R w0 S Y n k l h):ab P r f R w0 S Y n (.inRegion ops []::k) l h:=.lG hk
theorem gS {x y:Code} (hk:ab P r f R w0 S Y n (.code x::.code y::k) l h):ab P r f R w0 S Y n (.code (.seq x y)::k) l h:=.seq hk
theorem gR {id:Nat} (hk:ab P r f R w0 S Y n (.inRegion ops (List.range' 0 ops.size)::k) l h):ab P r f R w0 S Y n (.code (.region id ops false)::k) l h:=.region hk
theorem gK (hk:ab P r f R w0 S Y n k l h):ab P r f R w0 S Y n (.code .skip::k) l h:=.skip hk
theorem gB {id:Nat} {c:Code} (hk:ab P r f R w0 S Y n (.code c::.inBlock id::k) l h):ab P r f R w0 S Y n (.code (.block id c)::k) l h:=.block hk
theorem dQ {id:Nat} (hk:ab P r f R w0 S Y n k l h):ab P r f R w0 S Y n (.inBlock id::k) l h:=.inBlock hk
theorem ah {x:Operand} {v:Value} (hk:ab P r f R w0 S Y n (.inRegion ops rest::k) ((d,v)::l) h) (ho:ops[i]?=some ⟨some d,.move x,ty,pos,aft,g⟩:=by exact rfl) (hw:au ops l g=true:=by exact rfl) (hx:aU l x=some v:=by exact rfl) (hd:Nat.blt d n=true:=by exact rfl):ab P r f R w0 S Y n (.inRegion ops (i::rest)::k) l h:=ab.v (.mv ho hw hx hd) hk
theorem mH {x:Operand} {v:Value} (hk:aM P r f R w0 S Y n k ops (i+1) m ((d,v)::l) h) (ho:ops[i]?=some ⟨some d,.move x,ty,pos,aft,g⟩:=by exact rfl) (hw:au ops l g=true:=by exact rfl) (hx:aU l x=some v:=by exact rfl) (hd:Nat.blt d n=true:=by exact rfl):aM P r f R w0 S Y n k ops i (m+1) l h:=aM.v (.mv ho hw hx hd) hk
theorem ai {x:Operand} {v:Value} (hk:ab P r f R w0 S Y n (.inRegion ops rest::k) ((d,v)::l) h) (ho:ops[i]?=some ⟨some d,.assign x,ty,pos,aft,g⟩:=by exact rfl) (hw:au ops l g=true:=by exact rfl) (hx:aU l x=some v:=by exact rfl) (hd:Nat.blt d n=true:=by exact rfl):ab P r f R w0 S Y n (.inRegion ops (i::rest)::k) l h:=ab.v (.fh ho hw hx hd) hk
theorem AF {x:Operand} {v:Value} (hk:aM P r f R w0 S Y n k ops (i+1) m ((d,v)::l) h) (ho:ops[i]?=some ⟨some d,.assign x,ty,pos,aft,g⟩:=by exact rfl) (hw:au ops l g=true:=by exact rfl) (hx:aU l x=some v:=by exact rfl) (hd:Nat.blt d n=true:=by exact rfl):aM P r f R w0 S Y n k ops i (m+1) l h:=aM.v (.fh ho hw hx hd) hk
theorem cz {c x y:Operand} {u:Value} (hk:ab P r f R w0 S Y n (.inRegion ops rest::k) ((d,u)::l) h) (ho:ops[i]?=some ⟨some d,.pick c x y,ty,pos,aft,g⟩:=by exact rfl) (hw:au ops l g=true:=by exact rfl) (hc:aU l c=some (.bool true):=by exact rfl) (hx:aU l x=some u:=by exact rfl) (hd:Nat.blt d n=true:=by exact rfl):ab P r f R w0 S Y n (.inRegion ops (i::rest)::k) l h:=ab.v (.aT ho hw hc hx hd) hk
theorem GB {c x y:Operand} {u:Value} (hk:aM P r f R w0 S Y n k ops (i+1) m ((d,u)::l) h) (ho:ops[i]?=some ⟨some d,.pick c x y,ty,pos,aft,g⟩:=by exact rfl) (hw:au ops l g=true:=by exact rfl) (hc:aU l c=some (.bool true):=by exact rfl) (hx:aU l x=some u:=by exact rfl) (hd:Nat.blt d n=true:=by exact rfl):aM P r f R w0 S Y n k ops i (m+1) l h:=aM.v (.aT ho hw hc hx hd) hk
theorem bE {c x y:Operand} {u:Value} (hk:ab P r f R w0 S Y n (.inRegion ops rest::k) ((d,u)::l) h) (ho:ops[i]?=some ⟨some d,.pick c x y,ty,pos,aft,g⟩:=by exact rfl) (hw:au ops l g=true:=by exact rfl) (hc:aU l c=some (.bool false):=by exact rfl) (hx:aU l y=some u:=by exact rfl) (hd:Nat.blt d n=true:=by exact rfl):ab P r f R w0 S Y n (.inRegion ops (i::rest)::k) l h:=ab.v (.de ho hw hc hx hd) hk
theorem HG {c x y:Operand} {u:Value} (hk:aM P r f R w0 S Y n k ops (i+1) m ((d,u)::l) h) (ho:ops[i]?=some ⟨some d,.pick c x y,ty,pos,aft,g⟩:=by exact rfl) (hw:au ops l g=true:=by exact rfl) (hc:aU l c=some (.bool false):=by exact rfl) (hx:aU l y=some u:=by exact rfl) (hd:Nat.blt d n=true:=by exact rfl):aM P r f R w0 S Y n k ops i (m+1) l h:=aM.v (.de ho hw hc hx hd) hk
theorem kk {x:Operand} {a:Addr} (hk:ab P r f R w0 S Y n (.inRegion ops rest::k) ((d,.pointer (some a))::l) h) (ho:ops[i]?=some ⟨some d,.nilCheck x,ty,pos,aft,g⟩:=by exact rfl) (hw:au ops l g=true:=by exact rfl) (hx:aU l x=some (.pointer (some a)):=by exact rfl) (hd:Nat.blt d n=true:=by exact rfl):ab P r f R w0 S Y n (.inRegion ops (i::rest)::k) l h:=ab.v (.eg ho hw hx hd) hk
theorem xi {x:Operand} {a:Addr} (hk:aM P r f R w0 S Y n k ops (i+1) m ((d,.pointer (some a))::l) h) (ho:ops[i]?=some ⟨some d,.nilCheck x,ty,pos,aft,g⟩:=by exact rfl) (hw:au ops l g=true:=by exact rfl) (hx:aU l x=some (.pointer (some a)):=by exact rfl) (hd:Nat.blt d n=true:=by exact rfl):aM P r f R w0 S Y n k ops i (m+1) l h:=aM.v (.eg ho hw hx hd) hk
theorem fW {x:Operand} {j:Nat} {vs:Array Value} {v:Value} (hk:ab P r f R w0 S Y n (.inRegion ops rest::k) ((d,v)::l) h) (ho:ops[i]?=some ⟨some d,.extract x j,ty,pos,aft,g⟩:=by exact rfl) (hw:au ops l g=true:=by exact rfl) (hx:aU l x=some (.tuple vs):=by exact rfl) (hb:vs[j]?=some v:=by exact rfl) (hd:Nat.blt d n=true:=by exact rfl):ab P r f R w0 S Y n (.inRegion ops (i::rest)::k) l h:=ab.v (.ext ho hw hx hb hd) hk
theorem fe {o:UnOp} {tx:TypeId} {x:Operand} {a v:Value} (hb:Hk P o a v) (hk:ab P r f R w0 S Y n (.inRegion ops rest::k) ((d,v)::l) h) (ho:ops[i]?=some ⟨some d,.unOp o tx x,ty,pos,aft,g⟩:=by exact rfl) (hw:au ops l g=true:=by exact rfl) (hx:aU l x=some a:=by exact rfl) (hd:Nat.blt d n=true:=by exact rfl):ab P r f R w0 S Y n (.inRegion ops (i::rest)::k) l h:=ab.v (.un ho hw hx hb hd) hk
theorem aw {o:BinOp} {tx tyy:TypeId} {x y:Operand} {a b v:Value} (hb:kD P o tx a b v) (hk:ab P r f R w0 S Y n (.inRegion ops rest::k) ((d,v)::l) h) (ho:ops[i]?=some ⟨some d,.binOp o tx x y tyy,ty,pos,aft,g⟩:=by exact rfl) (hw:au ops l g=true:=by exact rfl) (hx:aU l x=some a:=by exact rfl) (hy:aU l y=some b:=by exact rfl) (hd:Nat.blt d n=true:=by exact rfl):ab P r f R w0 S Y n (.inRegion ops (i::rest)::k) l h:=ab.v (.bin ho hw hx hy hb hd) hk
theorem CT {o:BinOp} {tx tyy:TypeId} {x y:Operand} {a b v:Value} (hb:kD P o tx a b v) (hk:aM P r f R w0 S Y n k ops (i+1) m ((d,v)::l) h) (ho:ops[i]?=some ⟨some d,.binOp o tx x y tyy,ty,pos,aft,g⟩:=by exact rfl) (hw:au ops l g=true:=by exact rfl) (hx:aU l x=some a:=by exact rfl) (hy:aU l y=some b:=by exact rfl) (hd:Nat.blt d n=true:=by exact rfl):aM P r f R w0 S Y n k ops i (m+1) l h:=aM.v (.bin ho hw hx hy hb hd) hk
theorem aq {t:TypeId} {x:Operand} {b off:Nat} {cs:Array Value} {e:TypeId} {fr:Nat×Nat} {v:Value} (ha:∀w,(isAgg t).run P w=.ok false w) (j:Nat) (hk:ab P r f R w0 S Y n (.inRegion ops rest::k) ((d,v)::l) h) (ho:ops[i]?=some ⟨some d,.load t x,ty,pos,aft,g⟩:=by exact rfl) (hw:au ops l g=true:=by exact rfl) (hx:aU l x=some (.pointer (some ⟨b,off,none⟩)):=by exact rfl) (hd:Nat.blt d n=true:=by exact rfl) (hj:h[j]?=some (some b,.cells cs e fr):=by exact rfl) (hv:cs[off]?=some v:=by exact rfl):ab P r f R w0 S Y n (.inRegion ops (i::rest)::k) l h:=ab.v (.dw ho hw hx hd ha j hj hv) hk
theorem xj {t:TypeId} {x:Operand} {b off:Nat} {cs:Array Value} {e:TypeId} {fr:Nat×Nat} {v:Value} (ha:∀w,(isAgg t).run P w=.ok false w) (j:Nat) (hk:aM P r f R w0 S Y n k ops (i+1) m ((d,v)::l) h) (ho:ops[i]?=some ⟨some d,.load t x,ty,pos,aft,g⟩:=by exact rfl) (hw:au ops l g=true:=by exact rfl) (hx:aU l x=some (.pointer (some ⟨b,off,none⟩)):=by exact rfl) (hd:Nat.blt d n=true:=by exact rfl) (hj:h[j]?=some (some b,.cells cs e fr):=by exact rfl) (hv:cs[off]?=some v:=by exact rfl):aM P r f R w0 S Y n k ops i (m+1) l h:=aM.v (.dw ho hw hx hd ha j hj hv) hk
theorem al {s tt:TypeId} {x:Operand} {b o q:Nat} {fs:Array Field} {fd:Field} {sz:Nat} (hu:P.underlying s=some (.struct fs)) (he:∀w,(sizeOf tt).run P w=.ok (sz+1) w) (o':Nat) (hk:ab P r f R w0 S Y n (.inRegion ops rest::k) ((d,.pointer (some ⟨b,o',none⟩))::l) h) (ho:ops[i]?=some ⟨some d,.fieldAddr s x q,ty,pos,aft,g⟩:=by exact rfl) (hw:au ops l g=true:=by exact rfl) (hx:aU l x=some (.pointer (some ⟨b,o,none⟩)):=by exact rfl) (hd:Nat.blt d n=true:=by exact rfl) (hq:fs[q]?=some fd:=by exact rfl) (ht:fd.type=tt:=by exact rfl) (hO:o+fd.offset=o':=by exact rfl):ab P r f R w0 S Y n (.inRegion ops (i::rest)::k) l h:=ab.v (.aH ho hw hx hd hu hq (ht ▸ he) o' hO) hk
theorem mI {s tt:TypeId} {x:Operand} {b o q:Nat} {fs:Array Field} {fd:Field} {sz:Nat} (hu:P.underlying s=some (.struct fs)) (he:∀w,(sizeOf tt).run P w=.ok (sz+1) w) (o':Nat) (hk:aM P r f R w0 S Y n k ops (i+1) m ((d,.pointer (some ⟨b,o',none⟩))::l) h) (ho:ops[i]?=some ⟨some d,.fieldAddr s x q,ty,pos,aft,g⟩:=by exact rfl) (hw:au ops l g=true:=by exact rfl) (hx:aU l x=some (.pointer (some ⟨b,o,none⟩)):=by exact rfl) (hd:Nat.blt d n=true:=by exact rfl) (hq:fs[q]?=some fd:=by exact rfl) (ht:fd.type=tt:=by exact rfl) (hO:o+fd.offset=o':=by exact rfl):aM P r f R w0 S Y n k ops i (m+1) l h:=aM.v (.aH ho hw hx hd hu hq (ht ▸ he) o' hO) hk
theorem dY {t e:TypeId} {az:Operand} {a:Option Addr} {q c:Nat} (hu:P.underlying t=some (.slice e)) (hk:ab P r f R w0 S Y n (.inRegion ops rest::k) ((d,.int .i64 q)::l) h) (ho:ops[i]?=some ⟨some d,.call ⟨.builtin .len,#[az],#[t]⟩,ty,pos,aft,g⟩:=by exact rfl) (hw:au ops l g=true:=by exact rfl) (hx:dq l [az]=some [.slice a q c]:=by exact rfl) (hd:Nat.blt d n=true:=by exact rfl):ab P r f R w0 S Y n (.inRegion ops (i::rest)::k) l h:=ab.v (.blt ho hw hx (dC hu) hd) hk
theorem HH {t e:TypeId} {az:Operand} {a:Option Addr} {q c:Nat} (hu:P.underlying t=some (.slice e)) (hk:aM P r f R w0 S Y n k ops (i+1) m ((d,.int .i64 q)::l) h) (ho:ops[i]?=some ⟨some d,.call ⟨.builtin .len,#[az],#[t]⟩,ty,pos,aft,g⟩:=by exact rfl) (hw:au ops l g=true:=by exact rfl) (hx:dq l [az]=some [.slice a q c]:=by exact rfl) (hd:Nat.blt d n=true:=by exact rfl):aM P r f R w0 S Y n k ops i (m+1) l h:=aM.v (.blt ho hw hx (dC hu) hd) hk
theorem cy {o:Oper} (hk:ab P r f R w0 S Y n (.inRegion ops rest::k) ((d,undef)::l) h) (ho:ops[i]?=some o:=by exact rfl) (hw:mE ops l o.guard=true:=by exact rfl) (hdst:o.dst=some d:=by exact rfl) (hd:Nat.blt d n=true:=by exact rfl):ab P r f R w0 S Y n (.inRegion ops (i::rest)::k) l h:=ab.no ho hw hdst hd hk
theorem GC {o:Oper} (hk:aM P r f R w0 S Y n k ops (i+1) m ((d,undef)::l) h) (ho:ops[i]?=some o:=by exact rfl) (hw:mE ops l o.guard=true:=by exact rfl) (hdst:o.dst=some d:=by exact rfl) (hnd:eZ o.op=false:=by exact rfl) (hd:Nat.blt d n=true:=by exact rfl):aM P r f R w0 S Y n k ops i (m+1) l h:=aM.no ho hw hdst hnd hd hk
theorem gP {az:Array Operand} {ts:Array TypeId} {cal:Operand} {gf:FuncId} {vs:List Value} {v:Value} (ho:ops[i]?=some ⟨some d,.call ⟨.value cal,az,ts⟩,ty,pos,aft,g⟩) (hw:au ops l g=true) (hc:aU l cal=some (.func (.func gf) #[] #[])) (hx:dq l az.toList=some vs) (hd:Nat.blt d n=true) (hcf:∀args w,(callFunc gf args).run P w=.ok (.enter gf args) w) (hcall:∀w Y',St w0 S w h Y'→Cn P gf vs w (fun u _=>u=v)) (hk:ab P r f R w0 S Y n (.inRegion ops rest::k) ((d,v)::l) h):ab P r f R w0 S Y n (.inRegion ops (i::rest)::k) l h:=.cC ho hw hc hx hd hcf hcall hk
theorem gM {az:Array Operand} {ts:Array TypeId} {cal:Operand} {gf:FuncId} {vs:List Value} {Rc:World→Value→World→Prop} (ho:ops[i]?=some ⟨some d,.call ⟨.value cal,az,ts⟩,ty,pos,aft,g⟩) (hw:au ops l g=true) (hc:aU l cal=some (.func (.func gf) #[] #[])) (hx:dq l az.toList=some vs) (hd:Nat.blt d n=true) (hcf:∀args w,(callFunc gf args).run P w=.ok (.enter gf args) w) (hcall:∀w Y',St w0 S w h Y'→Cn P gf vs w (Rc w)) (hk:∀v w w' Y',St w0 S w h Y'→Ex [] w w'→Rc w v w'→∃h',St w0 S w' h' Y'∧ab P r f R w0 S Y n (.inRegion ops rest::k) ((d,v)::l) h'):ab P r f R w0 S Y n (.inRegion ops (i::rest)::k) l h:=.ni Rc ho hw hc hx hd hcf hcall hk
theorem gT {fn:Func} {vs:List Value} (hf:P.funcs[f]?=some fn) (hR:∀w,St w0 S w h Y→R (jX vs) w) (hres:wo l fn.results.toList=some vs:=by exact rfl):ab P none f R w0 S Y n (.code .ret::k) l h:=.ret fn hf hres hR
theorem gC {c:Operand} {x y:Code} {b:Bool} (ht:b=true→ab P r f R w0 S Y n (.code x::k) l h) (hf:b=false→ab P r f R w0 S Y n (.code y::k) l h) (hc:aU l c=some (.bool b):=by exact rfl):ab P r f R w0 S Y n (.code (.cond c x y)::k) l h:=.cond hc ht hf
theorem eD (d:Nat) {b:Bool} (ht:b=true→ab P r f R w0 S Y n k ((d,.bool true)::l) h) (hf:b=false→ab P r f R w0 S Y n k ((d,.bool false)::l) h) (hv:look l d=some (.bool b):=by exact rfl):ab P r f R w0 S Y n k l h:=.cases hv ht hf
theorem df {o:BinOp} {tx tyy:TypeId} {x y:Operand} {a b v:Value} (ho:ops[i]?=some ⟨some d,.binOp o tx x y tyy,ty,pos,aft,g⟩) (hw:au ops l g=true) (hx:aU l x=some a) (hy:aU l y=some b) (hb:kD P o tx a b v) (hk:ab P r f R w0 S Y n (.inRegion ops rest::k) ((d,v)::l) h) (hd:Nat.blt d n=true:=by exact rfl):ab P r f R w0 S Y n (.inRegion ops (i::rest)::k) l h:=.v (.bin ho hw hx hy hb hd) hk
theorem cV {q:Nat} {D:List Nat} {hb:Hl} {d:Nat} {v:Value} (i:Nat) (hv:ae P w0 S n hb ops i l d v) (hg:aG P r f R w0 S Y n k ops hb q (i::D) ((d,v)::l) h) (hi:(aB ops D).contains i=true:=by exact rfl) (hp:jM ops i=true:=by exact rfl) (hs:hb.Sublist h:=by repeat (first|exact List.Sublist.refl _|exact List.nil_sublist _|refine List.Sublist.cons_cons _ ?_|refine List.Sublist.cons _ ?_)):aG P r f R w0 S Y n k ops hb (q+1) D l h:=.v hv hi hp hs hg
theorem cN {q:Nat} {D:List Nat} {hb:Hl} {d:Nat} {o:Oper} (i:Nat) (hg:aG P r f R w0 S Y n k ops hb q (i::D) ((d,undef)::l) h) (ho:ops[i]?=some o:=by exact rfl) (hw:mE ops l o.guard=true:=by exact rfl) (hdst:o.dst=some d:=by exact rfl) (hnd:eZ o.op=false:=by exact rfl) (hd:Nat.blt d n=true:=by exact rfl) (hi:(aB ops D).contains i=true:=by exact rfl) (hp:jM ops i=true:=by exact rfl) (hs:hb.Sublist h:=by repeat (first|exact List.Sublist.refl _|exact List.nil_sublist _|refine List.Sublist.cons_cons _ ?_|refine List.Sublist.cons _ ?_)):aG P r f R w0 S Y n k ops hb (q+1) D l h:=.no ho hw hdst hnd hd hi hp hs hg
theorem sL {a b:Hl} (hs:a.Sublist b:=by repeat (first|exact List.Sublist.refl _|exact List.nil_sublist _|refine List.Sublist.cons_cons _ ?_|refine List.Sublist.cons _ ?_)):a.Sublist b:=hs
theorem sM {a b:Hl} (hs:a.Sublist b:=by repeat (first|exact List.Sublist.refl _|refine List.Sublist.cons _ ?_)):a.Sublist b:=hs
theorem sF {a b:Fl} (hs:bB a b:=by repeat (first|exact bB.nil|refine bB.cons rfl ?_)):bB a b:=hs
end
end Go.Proofs.Wit
