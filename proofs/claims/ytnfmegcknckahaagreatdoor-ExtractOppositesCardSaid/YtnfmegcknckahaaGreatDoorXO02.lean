/- Laws of walks, for any program, under the conditions that each theorem states. -/
import Derived.Test.YtnfmegcknckahaaGreatDoorXO01
namespace Go.Proofs.Wit
open Go Go.RowKit
structure Le (r s:List ax):Prop where
  len:r.length=s.length
  sub:∀u v,Rl r u v→Rl s u v
structure HV (g:List ax→List ax) (F:List ax→Prop):Prop where
  val:∀{l},xe l→xe (g l)
  Ii:∀{l},xe l→Le l (g l)
  mono:∀{l m},xe l→xe m→Le l m→Le (g l) (g m)
  fix:∀{l},xe l→(g l=l↔F l)
structure HU (F:List ax→Prop) (r out:List ax):Prop where
  val:xe out
  le:Le r out
  has:F out
  least:∀c,xe c→Le r c→F c→Le out c
def EJ (l:List ax):Prop:=∀u v x,Rl l u v→Rl l v x→Rl l u x
def FG (l:List ax):Prop:=∀u v x,Rl l u v→Rl l u x→Rl l v x
end Go.Proofs.Wit
namespace Go.Proofs.Wit
end Go.Proofs.Wit
namespace Go.Proofs.Wit
open Go Go.RowKit
/-- a callee that turns the block q at most -/
def IP (P:Program) (gf:FuncId) (args:List Value) (w:World) (q:Option Nat) (Rc:Value→World→Prop):Prop:=
 Calls P gf args.toArray w fun e w'=>∃v,e=.returned v∧Ex q.toList w w'∧Rc v w'
section
variable {w0 w w':World} {S:List Nat} {h:Hl} {Y:List (Nat×Obj)}
variable {P:Program} {f:FuncId} {R:Value→World→Prop} {r:Option Nat} {n:Nat} {k:List Item} {l:Fl} {fn:Func}
variable {ops:Array Oper} {i d:Nat} {rest:List Nat} {ty:TypeId} {pos:String} {aft:Array Edge} {g:Option (Nat×Bool)}
end
end Go.Proofs.Wit
namespace Go.Proofs.Wit
open Go Go.RowKit
section
variable {P:Program} {r:Option Nat} {f:FuncId} {R:Value→World→Prop} {w0:World} {S:List Nat} {Y:List (Nat×Obj)} {n:Nat} {k:List Item} {l:Fl} {h:Hl}
variable {ops:Array Oper} {i d:Nat} {rest:List Nat} {ty:TypeId} {pos:String} {aft:Array Edge} {g:Option (Nat×Bool)}
end
end Go.Proofs.Wit
namespace Go.Proofs.Wit
open Go Go.RowKit
theorem ab.cQ {P:Program} {r:Option Nat} {f:FuncId} {R:Value→World→Prop} {w0:World} {S:List Nat} {Y:List (Nat×Obj)} {n:Nat} {k:List Item} {l:Fl} {h:Hl} (o:Obj)
  (hg:ab P r f R w0 S Y n k l ((none,o)::h)):ab P r f R w0 S Y n k l h:=fun t w Ds hF hS=>hg t w Ds hF (hS.none o)
end Go.Proofs.Wit
namespace Go.Proofs.Wit
open Go Go.RowKit
section
variable {P:Program} {r:Option Nat} {f:FuncId} {R:Value→World→Prop} {w0:World} {S:List Nat} {Y:List (Nat×Obj)} {n:Nat} {k:List Item} {l:Fl} {h:Hl}
variable {ops:Array Oper} {i d:Nat} {rest:List Nat} {ty:TypeId} {pos:String} {aft:Array Edge} {g:Option (Nat×Bool)}
end
section
variable {P:Program} {t:TypeId} {a b:Int} {x y:ax} {v:Bool}
theorem w7 {k:IntKind} (e:(a==b)=v):kD P .eql t (.int k a) (.int k b) (.bool v):=e ▸ bh
theorem np {k:IntKind} (e:(a !=b)=v):kD P .neq t (.int k a) (.int k b) (.bool v):=e ▸ gO
theorem FW {k:IntKind} (e:decide (a<b)=v):kD P .lss t (.int k a) (.int k b) (.bool v):=e ▸ jl
theorem G8 {k:IntKind} (e:decide (a>b)=v):kD P .gtr t (.int k a) (.int k b) (.bool v):=e ▸ w6
theorem zy (e:(x==y)=v):kD P .eql t (U x) (U y) (.bool v):=e ▸ w8
end
end Go.Proofs.Wit
namespace Go.Proofs.Wit
open Go Go.RowKit
/-- the points from which k steps lead to a point of t -/
def Dd (r:List ax) (t:ax):Nat→ax
 |0=>t
 |k+1=>uA (Gz r) (Dd r t k)
structure HQ (r:List ax) (f t:ax) (k:Nat):Prop where
  one:1≤k
  ne:f &&& Dd r t k≠0#64
  least:∀j,1≤j→j<k→f &&& Dd r t j=0#64
section
variable {r:List ax} {t:ax}
end
theorem lP {α:Type} {p q:α→Bool}:∀{l:List α},(∀x∈l,p x=true→q x=true)→(∃x∈l,q x=true∧p x=false)→l.countP p<l.countP q
 |[],_,⟨_,h,_⟩=>by cases h
 |a::l,h,⟨x,hx,h1,h2⟩=>by
  have hle:l.countP p≤l.countP q:=List.countP_mono_left (fun y hy=>h y (List.mem_cons_of_mem _ hy))
  rw [List.countP_cons,List.countP_cons]
  rcases List.mem_cons.1 hx with rfl|hx
  ·rw [h1,h2];simp;omega
  have:=lP (fun y hy=>h y (List.mem_cons_of_mem _ hy)) ⟨x,hx,h1,h2⟩
  have h3:=h a (List.mem_cons_self ..)
  cases hp:p a with
  |false=>simp;split<;>omega
  |true=>rw [h3 hp];omega
end Go.Proofs.Wit
namespace Go.Proofs.Wit
open Go Go.RowKit
/-- blocks that are new since w, as they lie in w' -/
structure gm (w w':World) (H:Hl):Prop where
  own:∀p∈H,∀b,p.1=some b→w'.heap[b]?=some p.2∧ou p.2=false∧w.heap.size≤b
  apart:H.Pairwise mn
theorem gm.of {w w':World} {h:Hl} {Y:List (Nat×Obj)} (s:St w [] w' h Y):gm w w' h:=
 ⟨fun p hp b hb=>by
  obtain ⟨h1,h2,h3⟩:=s.own p hp b hb
  exact ⟨h1,h2,h3.resolve_right (by simp)⟩,s.apart⟩
theorem gm.sub {w w':World} {H H':Hl} (g:gm w w' H) (hs:H'.Sublist H):gm w w' H':=⟨fun p hp=>g.own p (hs.subset hp),g.apart.sublist hs⟩
theorem St.eU {w0 w w':World} {S:List Nat} {h:Hl} {Y:List (Nat×Obj)} (s:St w0 S w h Y) (e:Ex [] w w') {H:Hl} (g:gm w w' H):St w0 S w' (H++h) Y:=by
 have s':=s.later e
 refine ⟨s'.ext,fun p hp b hb=>?_,List.pairwise_append.2 ⟨g.apart,s.apart,fun p hp q hq b hb hqb=>?_⟩,s'.sys,s'.v5⟩
 ·rcases List.mem_append.1 hp with hp|hp
  ·obtain ⟨h1,h2,h3⟩:=g.own p hp b hb
   exact ⟨h1,h2,.inl (Nat.le_trans s.ext.size h3)⟩
  ·exact s'.own p hp b hb
 have h1:=(g.own p hp b hb).2.2
 have h2:=(Array.getElem?_eq_some_iff.1 (s.own q hq b hqb).1).1
 omega
theorem St.aT {w0 w:World} {S:List Nat} {pre pre' HR:Hl} {Y:List (Nat×Obj)} (s:St w0 S w (pre++HR) Y) (is:List Nat) (hn:is.Nodup) (e:is.map (fun i=>pre[i]?)=pre'.map some):St w0 S w (pre'++HR) Y:=by
 have hlen:is.length=pre'.length:=by have:=congrArg List.length e;simpa using this
 have hat:∀j (hj:j<pre'.length),∃i,is[j]?=some i∧pre[i]?=some pre'[j]:=fun j hj=>by
  have h1:=congrArg (fun l=>l[j]?) e
  have hj2:j<is.length:=by omega
  simp only [List.getElem?_map,List.getElem?_eq_getElem hj,List.getElem?_eq_getElem hj2,Option.map_some,Option.some.injEq] at h1
  exact ⟨is[j],List.getElem?_eq_getElem hj2,h1⟩
 have hmem:∀p∈pre',p∈pre:=fun p hp=>by
  obtain ⟨j,hj,rfl⟩:=List.mem_iff_getElem.1 hp
  obtain ⟨i,_,h2⟩:=hat j hj
  exact List.mem_of_getElem? h2
 have hap:=List.pairwise_append.1 s.apart
 refine ⟨s.ext,fun p hp=>?_,List.pairwise_append.2 ⟨?_,hap.2.1,fun p hp q hq=>hap.2.2 p (hmem p hp) q hq⟩,s.sys,s.v5⟩
 ·rcases List.mem_append.1 hp with hp|hp
  ·exact s.own p (List.mem_append_left _ (hmem p hp))
  ·exact s.own p (List.mem_append_right _ hp)
 rw [List.pairwise_iff_getElem]
 intro j j' hj hj' hlt
 obtain ⟨i,h1,h2⟩:=hat j hj
 obtain ⟨i',h1',h2'⟩:=hat j' hj'
 have hne:i≠i':=by
  rintro rfl
  obtain ⟨a1,a2⟩:=List.getElem?_eq_some_iff.1 h1
  obtain ⟨b1,b2⟩:=List.getElem?_eq_some_iff.1 h1'
  have:=(List.nodup_iff_pairwise_ne.1 hn)
  exact absurd (a2.trans b2.symm) (List.pairwise_iff_getElem.1 this j j' a1 b1 hlt)
 obtain ⟨a1,a2⟩:=List.getElem?_eq_some_iff.1 h2
 obtain ⟨b1,b2⟩:=List.getElem?_eq_some_iff.1 h2'
 rw [←a2,←b2]
 rcases Nat.lt_or_gt_of_ne hne with hx|hx
 ·exact List.pairwise_iff_getElem.1 hap.1 i i' a1 b1 hx
 exact oC (List.pairwise_iff_getElem.1 hap.1 i' i b1 a1 hx)
theorem ab.aT {P:Program} {r:Option Nat} {f:FuncId} {R:Value→World→Prop} {w0:World} {S:List Nat} {Y:List (Nat×Obj)} {n:Nat} {k:List Item} {l:Fl} {pre pre':Hl} (HR:Hl) (is:List Nat) (hn:is.Nodup) (e:is.map (fun i=>pre[i]?)=pre'.map some)
  (hg:ab P r f R w0 S Y n k l (pre'++HR)):ab P r f R w0 S Y n k l (pre++HR):=fun t w Ds hF hS=>hg t w Ds hF (hS.aT is hn e)
theorem ab.pick {P:Program} {r:Option Nat} {f:FuncId} {R:Value→World→Prop} {w0:World} {S:List Nat} {Y:List (Nat×Obj)} {n:Nat} {k:List Item} {l:Fl} {pre pre':Hl} (is:List Nat) (hn:is.Nodup) (e:is.map (fun i=>pre[i]?)=pre'.map some)
  (hg:ab P r f R w0 S Y n k l pre'):ab P r f R w0 S Y n k l pre:=by
 have:=ab.aT (pre:=pre) (pre':=pre') [] is hn e (by rw [List.append_nil];exact hg)
 rwa [List.append_nil] at this
def Gp {α:Type} (enc:α→Value) (H:Hl) (a:Option Addr) (xs:List α):Prop:=
 xs=[]∨∃b e sp,a=some ⟨b,0,none⟩∧(some b,ob enc e xs sp)∈H
structure Row where
  a:Option Addr
  cap:Nat
  xs:List ax
def Row.v (r:Row):Value:=.slice r.a r.xs.length r.cap
structure Row.At (r:Row) (w:World):Prop where
  at_:xg w r.a r.xs
  len:r.xs.length≤maxLen
  cap:r.xs.length≤r.cap
structure MV where
  n:Int
  ra:Option Addr
  rc:Nat
  rows:List Row
  va:Option Addr
  vc:Nat
  val:List ax
abbrev MV.cs (m:MV):Array Value:=#[.int .i64 m.n,.slice m.va m.val.length m.vc,.slice m.ra m.rows.length m.rc]
def MV.v (m:MV):Value:=.agg #[.int .i64 m.n,.slice m.va m.val.length m.vc,.slice m.ra m.rows.length m.rc]
def MV.rel (m:MV):List (List ax):=m.rows.map Row.xs
def HP (w:World) (a:Option Addr) (rs:List Row):Prop:=Sl w a (rs.map Row.v)
structure MV.At (m:MV) (w:World):Prop where
  rel:HP w m.ra m.rows
  row:∀r∈m.rows,r.At w
  val:xg w m.va m.val
  lr:m.rows.length≤maxLen
  lv:m.val.length≤maxLen
  cr:m.rows.length≤m.rc
  cv:m.val.length≤m.vc
theorem Sl.at {α:Type} {enc:α→Value} {w:World} {a:Option Addr} {xs:List α} (h:Sl w a (xs.map enc)) (k:Nat) (hk:k<xs.length):w.cell? (nr a k)=some (enc xs[k]):=by
 rw [Sl.cell h k (by simpa using hk)]
 simp [List.getD_eq_getElem?_getD,hk]
theorem Ex.gG {w w':World} (e:Ex [] w w') {b:Nat} {o:Obj} (h:w.heap[b]?=some o):w'.heap[b]?=some o:=by
 rw [e.block b (Array.getElem?_eq_some_iff.1 h).1 (by simp)];exact h
theorem Ex.cell {w w':World} (e:Ex [] w w') {b j:Nat} {cs:Array Value} {t:TypeId} {fr:Nat×Nat} {v:Value} (h:w.heap[b]?=some (.cells cs t fr)) (hv:cs[j]?=some v):w'.cell? ⟨b,j,none⟩=some v:=by
 rw [cell_of_row w' b j cs t fr (e.gG h),hv]
abbrev bK:Int→Value:=Value.int .i64
def jU (w:World) (a:Option Addr) (xs:List Int):Prop:=Sl w a (xs.map bK)
theorem jU.ay {w0 w:World} {a:Option Addr} {xs:List Int} (h:jU w0 a xs) {S:List Nat} (e:Ex S w0 w) (hS:∀b o,a=some ⟨b,o,none⟩→b∉S:=by simp):jU w a xs:=Sl.ex h e hS
theorem jU.at {w:World} {a:Option Addr} {xs:List Int} (h:jU w a xs) (k:Nat) (hk:k<xs.length):w.cell? (nr a k)=some (.int .i64 xs[k]):=Sl.at h k hk
def nu {α:Type} (enc:α→Value) (e:TypeId) (w w':World) (v:Value) (xs:List α):Prop:=
 ∃q cap sp,v=cK q xs.length cap∧(q=none→xs.length=0∧cap=0)∧(xs.map enc++sp).length=cap∧∀b,q=some b→w.heap.size≤b∧w'.heap[b]?=some (ob enc e xs sp)
theorem re {α:Type} {enc:α→Value} {t:TypeId} {w0 w w':World} {S:List Nat} {h:Hl} {Y:List (Nat×Obj)} (s:St w0 S w h Y) (e:Ex [] w w') {v:Value} {xs:List α} (ho:nu enc t w w' v xs):
  ∃q cap sp,v=cK q xs.length cap∧(q=none→xs.length=0∧cap=0)∧(xs.map enc++sp).length=cap∧St w0 S w' ((q,ob enc t xs sp)::h) Y:=by
 obtain ⟨q,cap,sp,h1,h2,h3,h4⟩:=ho
 refine ⟨q,cap,sp,h1,h2,h3,?_⟩
 cases q with
 |none=>exact (s.later e).none _
 |some b=>exact s.Bi e (h4 b rfl).2 rfl (h4 b rfl).1
theorem nu.mk {α:Type} {enc:α→Value} {t:TypeId} {w0 w:World} {h:Hl} {Y:List (Nat×Obj)} (s:St w0 [] w h Y) (j:Nat) {q:Option Nat} {xs:List α} {sp:List Value} {cap m:Nat} (hj:h[j]?=some (q,ob enc t xs sp)) (hm:m=xs.length)
  (hq:q=none→xs.length=0∧cap=0) (ao:(xs.map enc++sp).length=cap):nu enc t w0 w (cK q m cap) xs:=by
 subst hm
 refine ⟨q,cap,sp,rfl,hq,ao,fun b hb=>?_⟩
 subst hb
 exact ⟨s.fresh hj,s.get hj⟩
theorem ES {w0 w:World} {S:List Nat} {h:Hl} {Y:List (Nat×Obj)} (s:St w0 S w h Y) (j:Nat) {q:Option Nat} {xs:List Int} {e:TypeId} {sp:List Value} (hj:h[j]?=some (q,ob bK e xs sp)) (hq:q=none→xs.length=0):jU w (q.map (fun b=>⟨b,0,none⟩)) xs:=by
 cases q with
 |none=>rw [List.eq_nil_of_length_eq_zero (hq rfl)];exact Sl.nil _ _
 |some b=>exact Sl.dg (s.get hj)
structure MV.In (m:MV) (H:Hl):Prop where
  rel:Gp Row.v H m.ra m.rows
  row:∀r∈m.rows,Gp U H r.a r.xs∧r.xs.length≤maxLen∧r.xs.length≤r.cap
  val:Gp U H m.va m.val
  lr:m.rows.length≤maxLen
  lv:m.val.length≤maxLen
  cr:m.rows.length≤m.rc
  cv:m.val.length≤m.vc
end Go.Proofs.Wit
namespace Go.Proofs.Wit
open Go Go.RowKit
end Go.Proofs.Wit
namespace Go.Proofs.Wit
def C1 (e:Bool) (w u:Nat):Nat:=if e=true then u else w
def AM (e:Bool) (w u:Nat):Nat:=if e=true then w else u
def Im (e:Bool) (w u:Nat) (l:List ax):Prop:=Rl l w u→∀x,Rl l (AM e w u) x→Rl l (C1 e w u) x
def Hf (e:Bool) (l:List ax):Prop:=if e=true then FG l else EJ l
structure Pass (e:Bool) (r o0 out:List ax) (again:Bool) (k j:Nat):Prop where
  val:xe out
  le:Le r out
  min:∀c,xe c→Le r c→Hf e c→Le out c
  up:Le o0 out
  yes:again=true→o0≠out
  no:again=false→out=o0∧∀w u,(w<k∨(w=k∧u<j))→Im e w u out
end Go.Proofs.Wit
namespace Go.Proofs.Wit
end Go.Proofs.Wit
namespace Go.Proofs.Wit
open Go Go.RowKit
def C2 (n:Nat) (l:List ax):Bool:=l.any (fun s=>s &&& ~~~ zC n !=0#64)
def zn (n:Int) (val:List ax) (rel:List (List ax)):Int:=
 if n<1∨64<n then 2 else if 4<rel.length∨8<val.length then 8 else if rel.any (fun r=>(r.length:Int) !=n) then 3 else if C2 n.toNat val||rel.any (C2 n.toNat) then 2 else 0
structure FY (n:Int) (val:List ax) (rel:List (List ax)):Prop where
  n1:1≤n
  Ib:n≤64
  zF:rel.length≤4
  facts:val.length≤8
  len:∀r∈rel,(r.length:Int)=n
  oF:∀r∈rel,xe r
  out:C2 n.toNat val=false
end Go.Proofs.Wit
namespace Go.Proofs.Wit
open Go Go.RowKit
end Go.Proofs.Wit
namespace Go.Proofs.Wit
open Go Go.RowKit
end Go.Proofs.Wit
namespace Go.Proofs.Wit
open Go Go.RowKit
end Go.Proofs.Wit
namespace Go.Proofs.Wit
open Go Go.RowKit
section
variable {P:Program} {r:Option Nat} {f:FuncId} {R:Value→World→Prop} {w0:World} {S:List Nat} {Y:List (Nat×Obj)} {n:Nat} {k:List Item} {l:Fl} {h:Hl}
variable {ops:Array Oper} {i d:Nat} {rest:List Nat} {ty:TypeId} {pos:String} {aft:Array Edge} {g:Option (Nat×Bool)}
theorem lB (b o q:Nat):(⟨b,o,none⟩:Addr).add q=⟨b,o+q,none⟩:=by
 unfold Addr.add;split
 ·rename_i h0;subst h0;rfl
 rfl
theorem sh (a:Option Addr) (i q:Nat):(nr a i).add q=nr a (i+q):=by
 unfold nr;rw [lB,Nat.add_assoc]
theorem ae.aH {s:TypeId} {x:Operand} {b o q:Nat} {fs:Array Field} {fd:Field} {sz:Nat} (ho:ops[i]?=some ⟨some d,.fieldAddr s x q,ty,pos,aft,g⟩) (hw:au ops l g=true)
  (hx:aU l x=some (.pointer (some ⟨b,o,none⟩))) (hd:Nat.blt d n=true) (hu:P.underlying s=some (.struct fs)) (hq:fs[q]?=some fd) (he:∀w,(sizeOf fd.type).run P w=.ok (sz+1) w) (o':Nat) (hO:o+fd.offset=o'):
  ae P w0 S n h ops i l d (.pointer (some ⟨b,o',none⟩)):=by
 subst hO
 exact .of ho hw rfl rfl hd (fun t w Ds _ hF hS=>⟨.value (.pointer (some ⟨b,o+fd.offset,none⟩)),by
  simp only [execOp,hF.aU hx,Instr.fieldAt,Sem.run_bind,run_underlying hu,Result.andThen_ok,hq,Instr.sureAddr,Sem.run_pure,fieldPlace,he]
  rw [if_neg (by omega)]
  simp [lB],rfl⟩)
theorem oo {t:TypeId} {w:World} {a:Addr} {cs:List Value} (ha:∀w,(isAgg t).run P w=.ok true w) (hz:∀w,(sizeOf t).run P w=.ok cs.length w) (hc:∀j v,cs[j]?=some v→w.cell? (a.add j)=some v):
  (Instr.loadAt t (.pointer (some a))).run P w=.ok (.agg cs.toArray) w:=by
 simp only [Instr.loadAt,Instr.sureAddr,loadVar,Sem.run_bind,Sem.run_pure,Result.andThen_ok,ha,hz,if_true,run_loadCells_list w a cs hc]
theorem ae.nR {t:TypeId} {x:Operand} {p:Addr} {cs:List Value} (ho:ops[i]?=some ⟨some d,.load t x,ty,pos,aft,g⟩) (hw:au ops l g=true)
  (hx:aU l x=some (.pointer (some p))) (hd:Nat.blt d n=true) (ha:∀w,(isAgg t).run P w=.ok true w) (hz:∀w,(sizeOf t).run P w=.ok cs.length w) (hc:∀w Y',St w0 S w h Y'→∀j v,cs[j]?=some v→w.cell? (p.add j)=some v):ae P w0 S n h ops i l d (.agg cs.toArray):=
 .of ho hw rfl rfl hd (fun t w Ds _ hF hS=>⟨.value (.agg cs.toArray),by
  simp only [execOp,hF.aU hx,Sem.run_bind,oo ha hz (hc w _ hS)];rfl,rfl⟩)
theorem ae.iR {t:TypeId} {x:Operand} {b:Nat} {cs:Array Value} {e:TypeId} {fr:Nat×Nat} {m:Nat} (ho:ops[i]?=some ⟨some d,.load t x,ty,pos,aft,g⟩) (hw:au ops l g=true)
  (hx:aU l x=some (.pointer (some ⟨b,0,none⟩))) (hd:Nat.blt d n=true) (ha:∀w,(isAgg t).run P w=.ok true w) (j:Nat) (hj:h[j]?=some (some b,.cells cs e fr)) (hz:∀w,(sizeOf t).run P w=.ok m w) (hm:cs.size=m):ae P w0 S n h ops i l d (.agg cs):=by
 subst hm
 have:=ae.nR (P:=P) (w0:=w0) (S:=S) (h:=h) (cs:=cs.toList) ho hw hx hd ha (fun w=>by rw [hz];simp) (fun w Y' hS q v hv=>by
  rw [lB,Nat.zero_add]
  simp [World.cell?,hS.get hj] at hv⊢
  exact hv)
 rw [Array.toArray_toList] at this
 exact this
theorem ab.dG {t:TypeId} {x y:Operand} {b:Nat} {cs:Array Value} {e:TypeId} {v:Value} {m:Nat} (ho:ops[i]?=some ⟨none,.store t x y,ty,pos,aft,g⟩) (hw:au ops l g=true)
  (hx:aU l x=some (.pointer (some ⟨b,0,none⟩))) (hy:aU l y=some v) (hz:∀w,(sizeOf t).run P w=.ok m w) (j:Nat) (hj:h[j]?=some (some b,.cells cs e (0,0))) (hm:cs.size=m) (hv:v.cells.size=m) (h1:v.cells.toList.all Value.oneCell'=true)
  (hk:ab P r f R w0 S Y n (.inRegion ops rest::k) l (h.set j (some b,.cells v.cells e (0,0)))):ab P r f R w0 S Y n (.inRegion ops (i::rest)::k) l h:=
 .GX ho hw rfl rfl (fun t' w Ds _ hF hS=>by
  have hb:=hS.get hj
  have hrun:=run_storeCells_at (P:=P) b 0 e v.cells.toList 0 cs w hb (by simp;omega) (fun u hu=>List.all_eq_true.1 h1 u hu)
  have hrow:(cs.toList.take (0+0)++v.cells.toList++cs.toList.drop (0+0+v.cells.toList.length)).toArray=v.cells:=by
   rw [←Array.toList_inj]
   simp
   omega
  rw [hrow] at hrun
  refine ⟨w.setRow b v.cells,_,?_,hS.pf hj (o':=.cells v.cells e (0,0)) rfl rfl rfl rfl (by simp [World.setRow]) (setRow_heap w b _ _ e _ hb) (fun q _ hq=>setRow_other w b q _ hq),hk⟩
  simp only [execOp,hF.aU hx,hF.aU hy,Sem.run_bind,Instr.storeAt,Instr.sureAddr,storeVar,Sem.run_pure,Result.andThen_ok,hz,hv]
  simp only [ne_eq,not_true_eq_false,if_false,hrun];rfl)

def setAt (cells:List Value) (off:Nat) (vs:List Value):List Value:=cells.take off++vs++cells.drop (off+vs.length)
def ox (place:Nat→Option (Nat×Nat)) (cells:List Value):List (Nat×Value)→Option (List Value)
 |[]=>some cells
 |(i,v)::rest=>match place i with
  |none=>none
  |some (off,size)=>match Nat.beq v.cells.toList.length size && Nat.ble (off+size) cells.length with
   |true=>ox place (setAt cells off v.cells.toList) rest
   |false=>none
theorem ri:∀(vs:List Value) (cs:List Value) (off j:Nat),off+j+vs.length≤cs.length→
  (vs.zipIdx j).foldl (fun (cs:Array Value) (c:Value×Nat)=>cs.setIfInBounds (off+c.2) c.1) cs.toArray=(setAt cs (off+j) vs).toArray
 |[],cs,off,j,_=>by simp [setAt]
 |v::vs,cs,off,j,hl=>by
  simp only [List.length_cons] at hl
  rw [List.zipIdx_cons,List.foldl_cons]
  have h1:cs.toArray.setIfInBounds (off+j) v=(cs.set (off+j) v).toArray:=by simp
  rw [h1,ri vs (cs.set (off+j) v) off (j+1) (by simp;omega)]
  congr 1
  have hlt:off+j<cs.length:=by omega
  have hset:cs.set (off+j) v=cs.take (off+j)++v::cs.drop (off+j+1):=by
   rw [List.set_eq_take_append_cons_drop,if_pos hlt]
  have hlen:(cs.take (off+j)).length=off+j:=by simp;omega
  have t1:(cs.set (off+j) v).take (off+(j+1))=cs.take (off+j)++[v]:=by
   rw [hset,List.take_append,List.take_of_length_le (by omega),hlen,show off+(j+1) - (off+j)=1 from by omega];simp
  have t2:(cs.set (off+j) v).drop (off+(j+1)+vs.length)=cs.drop (off+j+(vs.length+1)):=by
   rw [hset,List.drop_append,List.drop_eq_nil_of_le (by omega),hlen,show off+(j+1)+vs.length - (off+j)=vs.length+1 from by omega]
   simp [Nat.add_assoc,Nat.add_comm 1]
  unfold setAt
  rw [t1,t2];simp
theorem fill_eq {place:Nat→Option (Nat×Nat)}:∀{ps:List (Nat×Value)} {cells c:List Value},ox place cells ps=some c→Instr.fill place cells.toArray ps=some c.toArray
 |[],cells,c,e=>by cases e;rfl
 |(i,v)::rest,cells,c,e=>by
  unfold ox at e
  unfold Instr.fill
  split at e
  ·cases e
  rename_i off size hp
  rw [hp]
  split at e
  ·rename_i hb
   rw [Bool.and_eq_true,Nat.beq_eq,Nat.ble_eq] at hb
   obtain ⟨h1,h2⟩:=hb
   rw [Array.length_toList] at h1
   simp only
   rw [if_neg (by simp;omega)]
   have h3:=ri v.cells.toList cells off 0 (by simp;omega)
   rw [Nat.add_zero] at h3
   have h4:v.cells.zipIdx.foldl (fun cs (x:Value×Nat)=>cs.setIfInBounds (off+x.2) x.1) cells.toArray=(setAt cells off v.cells.toList).toArray:=by
    rw [←h3,←Array.foldl_toList];simp
   rw [h4]
   exact fill_eq e
  cases e
def Cs (P:Program):List Field→List Nat→Prop
 |[],[]=>True
 |f::fs,s::ss=>(∀w,(sizeOf f.type).run P w=.ok s w)∧Cs P fs ss
 |_,_=>False
theorem Cs.nil:Cs P [] []:=trivial
theorem Cs.cons {f:Field} {fs:List Field} {s:Nat} {ss:List Nat} (h:∀w,(sizeOf f.type).run P w=.ok s w) (hs:Cs P fs ss):Cs P (f::fs) (s::ss):=⟨h,hs⟩
theorem ve:∀{fs:List Field} {ss:List Nat},Cs P fs ss→∀w,(fs.mapM (m:=Sem) fun f=>do pure (f.offset,←sizeOf f.type)).run P w=.ok ((fs.zip ss).map fun x=>(x.1.offset,x.2)) w
 |[],[],_,w=>rfl
 |f::fs,s::ss,hs,w=>by
  rw [List.mapM_cons]
  simp only [Sem.run_bind,Sem.run_pure,Result.andThen_ok,hs.1,ve hs.2];rfl
 |[],_::_,hs,_=>hs.elim
 |_::_,[],hs,_=>hs.elim
def HC (P:Program) (t:TypeId) (ps:List (Nat×Value)) (v:Value):Prop:=∀w,(Instr.build t ps.toArray).run P w=.ok v w
theorem eM {t:TypeId} {fs:Array Field} {ss:List Nat} {z:Value} {ps:List (Nat×Value)} {c:List Value} (hu:P.underlying t=some (.struct fs)) (hs:Cs P fs.toList ss) (hz:∀w,(zeroValue t).run P w=.ok z w)
  (hf:ox (fun i=>((fs.toList.zip ss)[i]?).map fun x=>(x.1.offset,x.2)) z.cells.toList ps=some c):HC P t ps (.agg c.toArray):=by
 intro w
 have h1:=fill_eq hf
 rw [Array.toArray_toList] at h1
 simp only [Instr.build,Sem.run_bind,hz,Result.andThen_ok,run_underlying hu]
 rw [Array.mapM_eq_mapM_toList]
 simp only [Sem.run_map,ve hs]
 have h2:(fun (i:Nat)=>(List.map (fun x=>(x.1.offset,x.2)) (fs.toList.zip ss)).toArray[i]?)=fun i=>((fs.toList.zip ss)[i]?).map fun x=>(x.1.offset,x.2):=by
  funext i;simp
 show ((match Instr.fill (fun (i:Nat)=>(List.map (fun x=>(x.1.offset,x.2)) (fs.toList.zip ss)).toArray[i]?) z.cells ps with
  |some cells=>pure (.agg cells)
  | _ => stuck "build: no such field, or a part of the wrong size" : Sem Value)).run P w = _
 rw [h2,h1];rfl
def l7 (l:Fl):List (Nat×Operand)→Option (List (Nat×Value))
 |[]=>some []
 |(q,x)::xs=>match Wit.aU l x,l7 l xs with
  |some v,some vs=>some ((q,v)::vs)
  |_,_=>none
theorem jv.parts {t:Array Value} (hF:jv n t l) (ds:List Deferred):∀{xs:List (Nat×Operand)} {vs:List (Nat×Value)},l7 l xs=some vs→xs.map (fun x=>(x.1,Act.eval ⟨t,ds⟩ x.2))=vs
 |[],vs,e=>by cases e;rfl
 |(q,x)::xs,vs,e=>by
  simp only [l7] at e
  split at e
  ·rename_i v us hx hxs
   cases e
   rw [List.map_cons,hF.aU hx,hF.parts ds hxs]
  cases e
theorem ae.eM {t:TypeId} {az:Array (Nat×Operand)} {ps:List (Nat×Value)} {v:Value} (ho:ops[i]?=some ⟨some d,.build t az,ty,pos,aft,g⟩) (hw:au ops l g=true) (hx:l7 l az.toList=some ps) (hd:Nat.blt d n=true) (hb:HC P t ps v):
  ae P w0 S n h ops i l d v:=
 .of ho hw rfl rfl hd (fun t w Ds _ hF hS=>⟨.value v,by
  have e1:az.map (fun (x:Nat×Operand)=>(x.1,Act.eval ⟨t,Ds.map mark⟩ x.2))=ps.toArray:=by rw [←Array.toList_inj];simp [hF.parts (Ds.map mark) hx]
  have:=hb w
  rw [←e1] at this
  simp only [execOp,Sem.run_bind]
  refine (congrArg (fun x=>Result.andThen x _) this).trans ?_
  rfl,rfl⟩)
theorem vW {t e:TypeId} {len:Nat} {az:Array (Nat×Operand)} {ps:List (Nat×Value)} {z:Value} {size:Nat} {c:List Value} {t':Array Value} (hF:jv n t' l) (hx:l7 l az.toList=some ps)
  (hu:P.underlying t=some (.slice e)) (hs:∀w,(sizeOf e).run P w=.ok size w) (hz:∀w,(zeroValue e).run P w=.ok z w) (hm:Nat.ble (len*size) 16777216=true)
  (hf:ox (fun i=>some (i*size,size)) ((List.range (len*size)).map fun i=>z.cells.toList.getD (i%z.cells.toList.length) default) ps=some c) (Ds:List Nat) (w:World):
  (execOp (Act.eval ⟨t',Ds.map mark⟩) ⟨some d,.buildSlice t len az,ty,pos,aft,g⟩).run P w=.ok (.value (.slice (some ⟨w.heap.size,0,none⟩) len len)) (w.alloc (.cells (c++[]).toArray e)):=by
 have e1:az.map (fun (x:Nat×Operand)=>(x.1,Act.eval ⟨t',Ds.map mark⟩ x.2))=ps.toArray:=by rw [←Array.toList_inj];simp [hF.parts (Ds.map mark) hx]
 have h1:=fill_eq hf
 have h2:(Array.range (len*size)).map (fun i=>(if len*size=0 then #[] else z.cells)[i%(if len*size=0 then #[] else z.cells).size]!)=((List.range (len*size)).map fun i=>z.cells.toList.getD (i%z.cells.toList.length) default).toArray:=by
  by_cases h0:len*size=0
  ·rw [h0];simp
  rw [if_neg h0,←Array.toList_inj];simp
  intro a _
  rw [getElem!_def]
  cases z.cells[a%z.cells.size]?<;>rfl
 rw [←h2] at h1
 have hrun:(Instr.buildSlice t len ps.toArray).run P w=.ok (.slice (some ⟨w.heap.size,0,none⟩) len len) (w.alloc (.cells (c++[]).toArray e)):=by
  have hm':¬len*size>2^24:=by have:=Nat.le_of_ble_eq_true hm;omega
  by_cases h0:len*size=0
  ·simp only [if_pos h0] at h1
   simp only [Instr.buildSlice,Sem.run_bind,run_underlying hu,Result.andThen_ok,hs,if_neg hm',if_pos h0,Sem.run_pure]
   rw [h1];simp [newRow]
  simp only [if_neg h0] at h1
  simp only [Instr.buildSlice,Sem.run_bind,run_underlying hu,Result.andThen_ok,hs,if_neg hm',if_neg h0,Sem.run_pure,hz]
  rw [h1];simp [newRow]
 rw [←e1] at hrun
 simp only [execOp,Sem.run_bind]
 refine (congrArg (fun x=>Result.andThen x _) hrun).trans ?_
 rfl
theorem ab.eh {t e:TypeId} {len:Nat} {az:Array (Nat×Operand)} {ps:List (Nat×Value)} {z:Value} {size:Nat} {c:List Value} (ho:ops[i]?=some ⟨some d,.buildSlice t len az,ty,pos,aft,g⟩) (hw:au ops l g=true) (hx:l7 l az.toList=some ps) (hd:Nat.blt d n=true)
  (hu:P.underlying t=some (.slice e)) (hs:∀w,(sizeOf e).run P w=.ok size w) (hz:∀w,(zeroValue e).run P w=.ok z w) (hm:Nat.ble (len*size) 16777216=true)
  (hf:ox (fun i=>some (i*size,size)) ((List.range (len*size)).map fun i=>z.cells.toList.getD (i%z.cells.toList.length) default) ps=some c)
  (hk:∀b,ab P r f R w0 S Y n (.inRegion ops rest::k) ((d,.slice (some ⟨b,0,none⟩) len len)::l) ((some b,.cells (c++[]).toArray e)::h)):ab P r f R w0 S Y n (.inRegion ops (i::rest)::k) l h:=
 .mem ho hw rfl rfl hd (fun _ w Ds _ hF hS=>⟨.slice (some ⟨w.heap.size,0,none⟩) len len,w.alloc (.cells (c++[]).toArray e),_,vW hF hx hu hs hz hm hf Ds w,hS.alloc rfl,hk _⟩)
theorem ae.EU {t e:TypeId} {x y:Operand} {a:Option Addr} {m cap hi:Nat} {kd:IntKind} {j:Int} {sz:Nat} (ho:ops[i]?=some ⟨some d,.slice t x none (some y) none,ty,pos,aft,g⟩) (hw:au ops l g=true)
  (hx:aU l x=some (.slice a m cap)) (hy:aU l y=some (.int kd j)) (hd:Nat.blt d n=true) (hu:P.underlying t=some (.slice e)) (he:∀w,(sizeOf e).run P w=.ok sz w) (hj:j=hi) (hc:hi≤cap):
  ae P w0 S n h ops i l d (.slice a hi cap):=
 .of ho hw rfl rfl hd (fun t w Ds _ hF hS=>⟨.value (.slice a hi cap),by
  subst hj
  simp only [execOp,hF.aU hx,hF.aU hy,Option.map_some,Option.map_none,Instr.sliceAt,Sem.run_bind,run_underlying hu,Result.andThen_ok,Instr.slice,Instr.sliceBounds,Instr.sliceBound,asIntOf,Sem.run_pure]
  rw [if_pos ⟨by omega,by omega⟩]
  simp only [Sem.run_pure,Result.andThen_ok,he,Int.toNat_natCast]
  cases a<;>simp [Addr.add_zero'],rfl⟩)

theorem ab.FP {az:Array Operand} {ts:Array TypeId} {cal:Operand} {gf:FuncId} {fs cs vs:List Value} (Rc:World→Value→World→Prop) (ho:ops[i]?=some ⟨some d,.call ⟨.value cal,az,ts⟩,ty,pos,aft,g⟩) (hw:au ops l g=true)
  (hc:aU l cal=some (.func (.func gf) fs.toArray cs.toArray)) (hx:dq l az.toList=some vs) (hd:Nat.blt d n=true) (hcf:∀args w,(callFunc gf args).run P w=.ok (.enter gf args) w)
  (hcall:∀w Y',St w0 S w h Y'→Cn P gf (fs++vs++cs) w (Rc w))
  (hk:∀v w w' Y',St w0 S w h Y'→Ex [] w w'→Rc w v w'→∃h',St w0 S w' h' Y'∧ab P r f R w0 S Y n (.inRegion ops rest::k) ((d,v)::l) h'):ab P r f R w0 S Y n (.inRegion ops (i::rest)::k) l h:=
 .vV ho hw hc hx hd hcf (fun w Ds hS=>⟨fun u w'=>Ex [] w w'∧Rc w u w',by
  have:=hcall w Ds hS
  unfold Cn at this
  simpa using this,fun u w' ⟨he,hu⟩=>hk u w w' Ds hS he hu⟩)
theorem ab.uW {az:Array Operand} {ts:Array TypeId} {cal:Operand} {gf:FuncId} {fs cs vs:List Value} {v:Value} (ho:ops[i]?=some ⟨some d,.call ⟨.value cal,az,ts⟩,ty,pos,aft,g⟩) (hw:au ops l g=true)
  (hc:aU l cal=some (.func (.func gf) fs.toArray cs.toArray)) (hx:dq l az.toList=some vs) (hd:Nat.blt d n=true) (hcf:∀args w,(callFunc gf args).run P w=.ok (.enter gf args) w)
  (hcall:∀w Y',St w0 S w h Y'→Cn P gf (fs++vs++cs) w (fun u _=>u=v))
  (hk:ab P r f R w0 S Y n (.inRegion ops rest::k) ((d,v)::l) h):ab P r f R w0 S Y n (.inRegion ops (i::rest)::k) l h:=
 .FP (fun _ u _=>u=v) ho hw hc hx hd hcf hcall (fun _ _ _ _ hS he e=>⟨h,hS.later he,e ▸ hk⟩)
end
def aP (P:Program) (l:Fl) (h:Hl):List ResultVar→List Value→Prop
 |[],[]=>True
 |.tmp t::rs,v::vs=>look l t=some v∧aP P l h rs vs
 |.cell a ty::rs,v::vs=>(∃b,look l a=some (.pointer (some ⟨b,0,none⟩))∧∃(j:Nat) (cs:Array Value) (e:TypeId) (fr:Nat×Nat),h[j]?=some (some b,Obj.cells cs e fr)∧
  ((∀w,(isAgg ty).run P w=.ok true w)∧(∀w,(sizeOf ty).run P w=.ok cs.size w)∧v=.agg cs∨(∀w,(isAgg ty).run P w=.ok false w)∧cs[0]?=some v))∧aP P l h rs vs
 |_,_=>False
section
variable {P:Program} {f:FuncId} {R:Value→World→Prop} {w0:World} {S:List Nat} {Y:List (Nat×Obj)} {n:Nat} {k:List Item} {l:Fl} {h:Hl} {fn:Func}
theorem aP.nil:aP P l h [] []:=trivial
theorem aP.tmp {t:Tmp} {v:Value} {rs:List ResultVar} {vs:List Value} (hv:look l t=some v) (hr:aP P l h rs vs):aP P l h (.tmp t::rs) (v::vs):=⟨hv,hr⟩
theorem aP.cell {a:Tmp} {ty:TypeId} {b m j:Nat} {cs:Array Value} {e:TypeId} {fr:Nat×Nat} {rs:List ResultVar} {vs:List Value} (ha:look l a=some (.pointer (some ⟨b,0,none⟩))) (h1:∀w,(isAgg ty).run P w=.ok true w) (h2:∀w,(sizeOf ty).run P w=.ok m w) (hj:h[j]?=some (some b,Obj.cells cs e fr)) (hm:cs.size=m) (hr:aP P l h rs vs):aP P l h (.cell a ty::rs) (.agg cs::vs):=
 ⟨⟨b,ha,j,cs,e,fr,hj,.inl ⟨h1,fun w=>by rw [h2,hm],rfl⟩⟩,hr⟩
theorem nQ {w:World} {t:Array Value} (hF:jv n t l) (hS:St w0 S w h Y):∀{rs:List ResultVar} {vs:List Value},aP P l h rs vs→
  (rs.mapM (m:=Sem) fun|.tmp t'=>pure (t.getD t' undef)|.cell a ty=>do loadVar ty (←asAddr (t.getD a undef))).run P w=.ok vs w
 |[],[],_=>rfl
 |.tmp q::rs,v::vs,⟨hv,hr⟩=>by
  rw [List.mapM_cons]
  simp only [Sem.run_bind,Sem.run_pure,Result.andThen_ok,nQ hF hS hr,hF.2 _ _ hv]
 |.cell a ty::rs,v::vs,⟨⟨b,ha,j,cs,e,fr,hj,hv⟩,hr⟩=>by
  rw [List.mapM_cons]
  have hl2:(loadVar ty ⟨b,0,none⟩).run P w=.ok v w:=by
   rcases hv with ⟨hag,hsz,rfl⟩|⟨hag,hv⟩
   ·have hl:=oo (P:=P) (w:=w) (a:=⟨b,0,none⟩) (cs:=cs.toList) hag (fun w=>by rw [hsz];simp) (fun q v hv=>by
     rw [lB,Nat.zero_add]
     simp [World.cell?,hS.get hj] at hv⊢
     exact hv)
    rw [Array.toArray_toList] at hl
    simpa only [Instr.loadAt,Instr.sureAddr,Sem.run_bind,Sem.run_pure,Result.andThen_ok] using hl
   have hc:=cell_of_row w b 0 cs e fr (hS.get hj)
   rw [hv] at hc
   simp [loadVar,hag,hc]
  have hA:(asAddr (t.getD a undef)).run P w=.ok ⟨b,0,none⟩ w:=by rw [hF.2 _ _ ha];rfl
  simp only [Sem.run_bind,Sem.run_pure,Result.andThen_ok,hA,hl2,nQ hF hS hr]
 |[],_::_,hr=>hr.elim
 |.tmp _::_,[],hr=>hr.elim
 |.cell _ _::_,[],hr=>hr.elim
theorem ab.fH (fn:Func) (hf:P.funcs[f]?=some fn) (vs:List Value) (hres:aP P l h fn.results.toList vs) (hR:∀w,St w0 S w h Y→R (jX vs) w):ab P none f R w0 S Y n (.code .ret::k) l h:=fun t w Ds hF hS=>by
 refine qZ hf hS (fun cs=>by rw [dv];exact stepR_ret rfl) ?_ (hR _ hS.shut)
 unfold results
 rw [Array.mapM_eq_mapM_toList]
 have hm:=nQ (P:=P) hF hS.shut hres
 simp only [Sem.run_bind,Sem.run_map,Sem.run_pure]
 refine (congrArg (fun x=>(x.andThen fun a w'=>Result.ok a.toArray w').andThen fun a w'=>Result.ok (if h:a.size=1 then a[0] else Value.tuple a) w') hm).trans ?_
 simp only [Result.andThen_ok]
 cases vs with
 |nil=>rfl
 |cons v us=>cases us with
  |nil=>rfl
  |cons u us=>simp [jX]
end
end Go.Proofs.Wit
namespace Go.Proofs.Wit
open Go Go.RowKit
def vG {α:Type} (f:Nat→Option α):Nat→Option α
 |0=>none
 |k+1=>match vG f k with
  |some x=>some x
  |none=>f k
theorem pV {α:Type} {enc:α→List Value} {sz:Nat} (hsz:∀x,(enc x).length=sz):∀{xs:List α} {j i:Nat} (hj:j<xs.length),i<sz→(xs.flatMap enc)[j*sz+i]?=(enc xs[j])[i]?
 |[],j,i,hj,_=>by simp at hj
 |x::xs,0,i,_,hi=>by
  rw [List.flatMap_cons,Nat.zero_mul,Nat.zero_add,List.getElem?_append_left (by rw [hsz];exact hi)];rfl
 |x::xs,j+1,i,hj,hi=>by
  rw [List.flatMap_cons,List.getElem?_append_right (by rw [hsz,Nat.add_mul];omega),hsz]
  rw [show (j+1)*sz+i - sz=j*sz+i from by rw [Nat.add_mul];omega]
  exact pV hsz (by simpa using hj) hi
theorem aD {α:Type} {enc:α→List Value} {sz:Nat} (hsz:∀x,(enc x).length=sz):∀{xs:List α},(xs.flatMap enc).length=xs.length*sz
 |[]=>by simp
 |x::xs=>by rw [List.flatMap_cons,List.length_append,hsz,aD hsz,List.length_cons,Nat.add_mul];omega
section
variable {P:Program} {r:Option Nat} {f:FuncId} {R:Value→World→Prop} {w0:World} {S:List Nat} {Y:List (Nat×Obj)} {n:Nat} {k:List Item} {l:Fl} {h:Hl}
variable {ops:Array Oper} {i d:Nat} {rest:List Nat} {ty:TypeId} {pos:String} {aft:Array Edge} {g:Option (Nat×Bool)}
theorem ae.ez {t e:TypeId} {x y:Operand} {a:Option Addr} {m cap sz:Nat} {kd:IntKind} {j:Int} {xs:List Value} (ho:ops[i]?=some ⟨some d,.indexAddr t x y,ty,pos,aft,g⟩) (hw:au ops l g=true)
  (hx:aU l x=some (.slice a m cap)) (hy:aU l y=some (.int kd j)) (hd:Nat.blt d n=true) (hu:P.underlying t=some (.slice e)) (he:∀w,(sizeOf e).run P w=.ok sz w)
  (hs:∃w,Sl w a xs) (hm:xs.length=m*sz) (hsz:0<sz) (j':Nat) (hj:j=j'∧j'<m):ae P w0 S n h ops i l d (.pointer (some (nr a (j'*sz)))):=by
 obtain ⟨w1,hs⟩:=hs
 obtain ⟨rfl,hj⟩:=hj
 have h0:0<xs.length:=by rw [hm];exact Nat.mul_pos (by omega) hsz
 obtain ⟨b,o,rfl,_⟩:=hs.isSome h0
 exact .of ho hw rfl rfl hd (fun t' w Ds _ hF hS=>⟨.value (.pointer (some ⟨b,o+j'*sz,none⟩)),by
  simp only [execOp,hF.aU hx,hF.aU hy,Sem.run_bind,tD hu he b o m cap kd j' hj w];rfl,rfl⟩)
theorem Sl.many {α:Type} {enc:α→List Value} {sz:Nat} {w:World} {a:Option Addr} {xs:List α} (hs:Sl w a (xs.flatMap enc)) (hsz:∀x,(enc x).length=sz) {j:Nat} (hj:j<xs.length):∀q v,(enc xs[j])[q]?=some v→w.cell? ((nr a (j*sz)).add q)=some v:=by
 intro q v hv
 have hq:q<sz:=by have:=(List.getElem?_eq_some_iff.1 hv).1;rwa [hsz] at this
 have h1:=pV hsz hj hq
 rw [hv] at h1
 obtain ⟨h2,h3⟩:=List.getElem?_eq_some_iff.1 h1
 rw [sh,hs.cell _ h2,List.getD_eq_getElem?_getD,h1];rfl
theorem Sl.kO {α:Type} {enc:α→List Value} {sz:Nat} {w:World} {a:Option Addr} {xs:List α} (hs:Sl w a (xs.flatMap enc)) (hsz:∀x,(enc x).length=sz) {j:Nat} (hj:j<xs.length) {q:Nat} {v:Value} (hv:(enc xs[j])[q]?=some v):w.cell? (nr a (j*sz+q))=some v:=by
 have:=Sl.many hs hsz hj q v hv
 rwa [sh] at this
theorem ae.fQ {s:TypeId} {x:Operand} {a:Option Addr} {o q:Nat} {fs:Array Field} {fd:Field} {sz:Nat} (ho:ops[i]?=some ⟨some d,.fieldAddr s x q,ty,pos,aft,g⟩) (hw:au ops l g=true)
  (hx:aU l x=some (.pointer (some (nr a o)))) (hd:Nat.blt d n=true) (hu:P.underlying s=some (.struct fs)) (hq:fs[q]?=some fd) (he:∀w,(sizeOf fd.type).run P w=.ok (sz+1) w) (o':Nat) (hO:o+fd.offset=o'):
  ae P w0 S n h ops i l d (.pointer (some (nr a o'))):=by
 subst hO
 exact .of ho hw rfl rfl hd (fun t w Ds _ hF hS=>⟨.value (.pointer (some (nr a (o+fd.offset)))),by
  simp only [execOp,hF.aU hx,Instr.fieldAt,Sem.run_bind,run_underlying hu,Result.andThen_ok,hq,Instr.sureAddr,Sem.run_pure,fieldPlace,he]
  rw [if_neg (by omega)]
  simp [sh],rfl⟩)
end
end Go.Proofs.Wit
namespace Go.Proofs.Wit
open Go Go.RowKit
structure DV where
  Cp:Int
  prop:Int
  a:Option Addr
  cap:Nat
  ws:List Int
def DV.cells (d:DV):List Value:=[.int .i64 d.Cp,.int .i64 d.prop,.slice d.a d.ws.length d.cap]
def DV.plain (d:DV):Int×Int×List Int:=(d.Cp,d.prop,d.ws)
structure DV.At (d:DV) (w:World):Prop where
  at_:jU w d.a d.ws
  len:d.ws.length≤maxLen
structure Hy (w:World) (a:Option Addr) (ds:List DV):Prop where
  at_:Sl w a (ds.flatMap DV.cells)
  len:ds.length≤maxLen
  each:∀d∈ds,d.At w
end Go.Proofs.Wit
namespace Go.Proofs.Wit
open Go Go.RowKit
structure Hw (H:Hl) (a:Option Addr) (ds:List DV):Prop where
  at_:ds=[]∨∃b e sp,a=some ⟨b,0,none⟩∧(some b,Obj.cells (ds.flatMap DV.cells++sp).toArray e (0,0))∈H
  len:ds.length≤maxLen
  each:∀d∈ds,Gp bK H d.a d.ws∧d.ws.length≤maxLen
end Go.Proofs.Wit
namespace Go.Proofs.Wit
structure NV where
  op:Int
  i:Int
  e:Int
  g:Int
  x:Int
  y:Int
deriving DecidableEq
def NV.cells (n:NV):List Value:=[bK n.op,bK n.i,bK n.e,bK n.g,bK n.x,bK n.y]
def cF (op:Int):Bool:=decide (4≤op) && decide (op≤21)
def cm (op:Int):Bool:=decide (5≤op) && decide (op≤8)||op==13||op==14||op==16||op==19||op==21
def o8 (op:Int):Bool:=op==9||op==10||op==14||op==15
def lN (op:Int):Bool:=decide (11≤op) && decide (op≤13)
theorem ep {op:Int} (h:cm op=true):cF op=true:=by
 simp only [cm,cF,Bool.or_eq_true,Bool.and_eq_true,decide_eq_true_eq,beq_iff_eq] at h⊢
 omega
inductive Tr where
  |leaf (op i e g:Int)
  |un (op i e g:Int) (a:Tr)
  |bin (op i e g:Int) (a b:Tr)
deriving DecidableEq
def Tr.op:Tr→Int
 |.leaf op _ _ _=>op
 |.un op _ _ _ _=>op
 |.bin op _ _ _ _ _=>op
def kids:Tr→List Tr
 |.leaf ..=>[]
 |.un _ _ _ _ a=>[a]
 |.bin _ _ _ _ a b=>[a,b]
def Tr.wf:Tr→Prop
 |.leaf op _ _ _=>cF op=false
 |.un op _ _ _ a=>cF op=true∧cm op=false∧a.wf
 |.bin op _ _ _ a b=>cm op=true∧a.wf∧b.wf
def lV:Tr:=.leaf 0 0 0 0
def sY (n:NV) (a b:Tr):Tr:=if cm n.op=true then .bin n.op n.i n.e n.g a b else if cF n.op=true then .un n.op n.i n.e n.g a else .leaf n.op n.i n.e n.g
theorem fO {n:NV} {a b:Tr} (h:cF n.op=false):sY n a b=.leaf n.op n.i n.e n.g:=by
 unfold sY
 rw [if_neg (by intro h2;rw [ep h2] at h;cases h),if_neg (by rw [h];simp)]
theorem jN {n:NV} {a b:Tr} (h:cF n.op=true) (h2:cm n.op=false):sY n a b=.un n.op n.i n.e n.g a:=by
 unfold sY
 rw [if_neg (by rw [h2];simp),if_pos h]
theorem ie {n:NV} {a b:Tr} (h:cm n.op=true):sY n a b=.bin n.op n.i n.e n.g a b:=by
 unfold sY
 rw [if_pos h]
theorem De {n:NV} {a b:Tr} (ha:a.wf) (hb:b.wf):(sY n a b).wf:=by
 unfold sY
 split
 ·rename_i h;exact ⟨h,ha,hb⟩
 rename_i h
 split
 ·rename_i h2;exact ⟨h2,by simpa using h,ha⟩
 rename_i h2;show cF n.op=false;simpa using h2
theorem xC:lV.wf:=by show cF 0=false;decide
def zQ (acc:List Tr):List NV→List Tr
 |[]=>acc
 |n::ns=>zQ (acc++[sY n (acc.getD n.x.toNat lV) (acc.getD n.y.toNat lV)]) ns
def trees (f:List NV):List Tr:=zQ [] f
theorem sG:∀{ns:List NV} {acc:List Tr} {n:NV},zQ acc (ns++[n])=zQ acc ns++[sY n ((zQ acc ns).getD n.x.toNat lV) ((zQ acc ns).getD n.y.toNat lV)]
 |[],_,_=>rfl
 |m::ns,acc,n=>by rw [List.cons_append,zQ,sG,zQ]
theorem fi {f:List NV} {n:NV}:trees (f++[n])=trees f++[sY n ((trees f).getD n.x.toNat lV) ((trees f).getD n.y.toNat lV)]:=sG
theorem gq {α:Type} {p:List α→Prop} (h0:p []) (h1:∀l a,p l→p (l++[a])) (l:List α):p l:=by
 have:∀n (l:List α),l.length=n→p l:=by
  intro n
  induction n with
  |zero=>intro l hl;rw [List.eq_nil_of_length_eq_zero hl];exact h0
  |succ n ih=>
   intro l hl
   have hne:l≠[]:=by rintro rfl;simp at hl
   rw [←List.dropLast_concat_getLast hne]
   exact h1 _ _ (ih _ (by simp [hl]))
 exact this _ l rfl
theorem cH (f:List NV):(trees f).length=f.length:=by
 induction f using gq with
 |h0=>rfl
 |h1 f n ih=>rw [fi];simp [ih]
theorem pg (f:List NV) (k:Nat):(trees f).take k=trees (f.take k):=by
 induction f using gq with
 |h0=>simp [trees,zQ]
 |h1 f n ih=>
  by_cases hk:k≤f.length
  ·rw [fi,List.take_append_of_le_length (by rw [cH];exact hk),List.take_append_of_le_length hk,ih]
  rw [List.take_of_length_le (by rw [cH];simp;omega),List.take_of_length_le (by simp;omega)]
theorem wa {f:List NV} {k:Nat} (hk:k<f.length):(trees f)[k]'(by rw [cH];exact hk)=sY f[k] (((trees f).take k).getD f[k].x.toNat lV) (((trees f).take k).getD f[k].y.toNat lV):=by
 have h1:f.take (k+1)=f.take k++[f[k]]:=List.take_succ_eq_append_getElem hk
 have h2:=pg f (k+1)
 rw [h1,fi,←pg] at h2
 have h3:((trees f).take (k+1))[k]?=some (sY f[k] (((trees f).take k).getD f[k].x.toNat lV) (((trees f).take k).getD f[k].y.toNat lV)):=by
  rw [h2,List.getElem?_append_right (by rw [List.length_take,cH];omega),List.length_take,cH,Nat.min_eq_left (by omega),Nat.sub_self];rfl
 rw [List.getElem?_take,if_pos (by omega),List.getElem?_eq_getElem (by rw [cH];exact hk)] at h3
 exact Option.some.inj h3
theorem xA (f:List NV):∀t∈trees f,t.wf:=by
 induction f using gq with
 |h0=>intro t h;cases h
 |h1 f n ih=>
  have hd:∀k,((trees f).getD k lV).wf:=fun k=>by
   by_cases hk:k<(trees f).length
   ·rw [show (trees f).getD k lV=(trees f)[k] from by simp [List.getD_eq_getElem?_getD,hk]]
    exact ih _ (List.getElem_mem hk)
   rw [show (trees f).getD k lV=lV from by simp [List.getD_eq_getElem?_getD,List.getElem?_eq_none (Nat.le_of_not_lt hk)]]
   exact xC
  intro t h
  rw [fi] at h
  rcases List.mem_append.1 h with h|h
  ·exact ih t h
  rw [List.mem_singleton.1 h];exact De (hd _) (hd _)
def visit:Tr→List Tr→List Tr
 |.leaf op i e g,ts=>if Tr.leaf op i e g∈ts then ts else ts++[.leaf op i e g]
 |.un op i e g a,ts=>if Tr.un op i e g a∈ts then ts else visit a ts++[.un op i e g a]
 |.bin op i e g a b,ts=>if Tr.bin op i e g a b∈ts then ts else visit b (visit a ts)++[.bin op i e g a b]
def lY (ts:List Tr):Prop:=∀(k:Nat) (hk:k<ts.length),∀c∈kids ts[k],c∈ts.take k
theorem lY.nil:lY []:=fun _k hk=>absurd hk (Nat.not_lt_zero _)
theorem lY.snoc {ts:List Tr} {t:Tr} (h:lY ts) (ht:∀c∈kids t,c∈ts):lY (ts++[t]):=fun k hk c hc=>by
 rw [List.length_append,List.length_singleton] at hk
 by_cases hlt:k<ts.length
 ·rw [List.getElem_append_left hlt] at hc
  rw [List.take_append_of_le_length (by omega)]
  exact h k hlt c hc
 obtain rfl:k=ts.length:=by omega
 rw [List.getElem_append_right (Nat.le_refl _)] at hc
 simp only [Nat.sub_self,List.getElem_cons_zero] at hc
 rw [List.take_left']
 ·exact ht c hc
 rfl
theorem lY.mem {ts:List Tr} (h:lY ts) {t:Tr} (ht:t∈ts):∀c∈kids t,c∈ts:=fun c hc=>by
 obtain ⟨k,hk,rfl⟩:=List.mem_iff_getElem.1 ht
 exact List.mem_of_mem_take (h k hk c hc)
def size:Tr→Nat
 |.leaf ..=>1
 |.un _ _ _ _ a=>size a+1
 |.bin _ _ _ _ a b=>size a+size b+1
theorem iU (t:Tr):∀{ts:List Tr} {u:Tr},u∈visit t ts→u∈ts∨size u≤size t:=by
 induction t with
 |leaf op i e g=>
  intro ts u h
  rw [visit] at h
  split at h
  ·exact .inl h
  rcases List.mem_append.1 h with h|h
  ·exact .inl h
  rw [List.mem_singleton.1 h];exact .inr (Nat.le_refl _)
 |un op i e g a iha=>
  intro ts u h
  rw [visit] at h
  split at h
  ·exact .inl h
  rcases List.mem_append.1 h with h|h
  ·rcases iha h with h|h
   ·exact .inl h
   ·exact .inr (by simp only [size];omega)
  rw [List.mem_singleton.1 h];exact .inr (Nat.le_refl _)
 |bin op i e g a b iha ihb=>
  intro ts u h
  rw [visit] at h
  split at h
  ·exact .inl h
  rcases List.mem_append.1 h with h|h
  ·rcases ihb h with h|h
   ·rcases iha h with h|h
    ·exact .inl h
    ·exact .inr (by simp only [size];omega)
   ·exact .inr (by simp only [size];omega)
  rw [List.mem_singleton.1 h];exact .inr (Nat.le_refl _)
structure HO (t:Tr) (ts us:List Tr):Prop where
  oL:lY us
  nd:us.Nodup
  pre:ts<+:us
  mem:t∈us
theorem kq {ts:List Tr} {t:Tr} (h:ts.Nodup) (ht:t∉ts):(ts++[t]).Nodup:=by
 rw [List.nodup_append]
 exact ⟨h,by simp,fun a ha b hb=>by rw [List.mem_singleton.1 hb];rintro rfl;exact ht ha⟩
theorem ir (t:Tr):∀{ts:List Tr},lY ts→ts.Nodup→HO t ts (visit t ts):=by
 induction t with
 |leaf op i e g=>
  intro ts hc hn
  rw [visit]
  split
  ·rename_i h;exact ⟨hc,hn,List.prefix_refl _,h⟩
  rename_i h;exact ⟨hc.snoc (fun c hc=>by cases hc),kq hn h,List.prefix_append _ _,by simp⟩
 |un op i e g a iha=>
  intro ts hc hn
  rw [visit]
  split
  ·rename_i h;exact ⟨hc,hn,List.prefix_refl _,h⟩
  rename_i h
  obtain ⟨h1,h2,h3,h4⟩:=iha hc hn
  have hnew:Tr.un op i e g a∉visit a ts:=fun hm=>by
   rcases iU a hm with h5|h5
   ·exact h h5
   simp only [size] at h5;omega
  exact ⟨h1.snoc (fun c hc=>by rw [List.mem_singleton.1 hc];exact h4),kq h2 hnew,h3.trans (List.prefix_append _ _),by simp⟩
 |bin op i e g a b iha ihb=>
  intro ts hc hn
  rw [visit]
  split
  ·rename_i h;exact ⟨hc,hn,List.prefix_refl _,h⟩
  rename_i h
  obtain ⟨h1,h2,h3,h4⟩:=iha hc hn
  obtain ⟨k1,k2,k3,k4⟩:=ihb h1 h2
  have hnew:Tr.bin op i e g a b∉visit b (visit a ts):=fun hm=>by
   rcases iU b hm with h5|h5
   ·rcases iU a h5 with h5|h5
    ·exact h h5
    ·simp only [size] at h5;omega
   simp only [size] at h5;omega
  refine ⟨k1.snoc (fun c hc=>?_),kq k2 hnew,(h3.trans k3).trans (List.prefix_append _ _),by simp⟩
  simp only [kids,List.mem_cons,List.not_mem_nil,or_false] at hc
  rcases hc with rfl|rfl
  ·exact k3.subset h4
  exact k4
def br (ts:List Tr):Tr→NV
 |.leaf op i e g=>⟨op,i,e,g,0,0⟩
 |.un op i e g a=>⟨op,i,e,g,(ts.idxOf a:Int),0⟩
 |.bin op i e g a b=>⟨op,i,e,g,(ts.idxOf a:Int),(ts.idxOf b:Int)⟩
def aS (ts:List Tr):List NV:=ts.map (br ts)
theorem jE {ts:List Tr}:(aS ts).length=ts.length:=by simp [aS]
theorem lM {ts us:List Tr} (h:ts<+:us) {t:Tr} (ht:t∈ts):us.idxOf t=ts.idxOf t:=by
 obtain ⟨vs,rfl⟩:=h
 rw [List.idxOf_append,if_pos ht]
theorem pG {ts us:List Tr} (h:ts<+:us) {t:Tr} (ht:∀c∈kids t,c∈ts):br us t=br ts t:=by
 cases t with
 |leaf=>rfl
 |un op i e g a=>simp only [br];rw [lM h (ht a (by simp [kids]))]
 |bin op i e g a b=>simp only [br];rw [lM h (ht a (by simp [kids])),lM h (ht b (by simp [kids]))]
theorem ku {ts:List Tr} (hc:lY ts) {t:Tr} (ht:∀c∈kids t,c∈ts):aS (ts++[t])=aS ts++[br ts t]:=by
 unfold aS
 rw [List.map_append,List.map_singleton,pG (List.prefix_append _ _) ht]
 congr 1
 exact List.map_congr_left (fun u hu=>pG (List.prefix_append _ _) (hc.mem hu))
theorem rQ {ts:List Tr} {a b:Tr} (ha:a∈ts) (hb:b∈ts) (h:ts.idxOf a=ts.idxOf b):a=b:=by
 have h1:=List.getElem_idxOf (List.idxOf_lt_length_iff.2 ha)
 have h2:=List.getElem_idxOf (List.idxOf_lt_length_iff.2 hb)
 rw [←h1,←h2]
 congr 1
theorem pH {ts:List Tr} {t u:Tr} (ht:t.wf) (hu:u.wf) (h1:∀c∈kids t,c∈ts) (h2:∀c∈kids u,c∈ts) (h:br ts t=br ts u):t=u:=by
 cases t with
 |leaf op i e g=>
  cases u with
  |leaf op' i' e' g'=>simp only [br,NV.mk.injEq] at h;obtain ⟨rfl,rfl,rfl,rfl,_⟩:=h;rfl
  |un op' i' e' g' a'=>simp only [br,NV.mk.injEq] at h;obtain ⟨rfl,_⟩:=h;simp only [Tr.wf] at ht hu;rw [ht] at hu;cases hu.1
  |bin op' i' e' g' a' b'=>simp only [br,NV.mk.injEq] at h;obtain ⟨rfl,_⟩:=h;simp only [Tr.wf] at ht hu;rw [ep hu.1] at ht;cases ht
 |un op i e g a=>
  cases u with
  |leaf op' i' e' g'=>simp only [br,NV.mk.injEq] at h;obtain ⟨rfl,_⟩:=h;simp only [Tr.wf] at ht hu;rw [ht.1] at hu;cases hu
  |un op' i' e' g' a'=>
   simp only [br,NV.mk.injEq] at h;obtain ⟨rfl,rfl,rfl,rfl,hx,_⟩:=h
   rw [rQ (h1 a (by simp [kids])) (h2 a' (by simp [kids])) (by omega)]
  |bin op' i' e' g' a' b'=>simp only [br,NV.mk.injEq] at h;obtain ⟨rfl,_⟩:=h;simp only [Tr.wf] at ht hu;rw [hu.1] at ht;cases ht.2.1
 |bin op i e g a b=>
  cases u with
  |leaf op' i' e' g'=>simp only [br,NV.mk.injEq] at h;obtain ⟨rfl,_⟩:=h;simp only [Tr.wf] at ht hu;rw [ep ht.1] at hu;cases hu
  |un op' i' e' g' a'=>simp only [br,NV.mk.injEq] at h;obtain ⟨rfl,_⟩:=h;simp only [Tr.wf] at ht hu;rw [ht.1] at hu;cases hu.2.1
  |bin op' i' e' g' a' b'=>
   simp only [br,NV.mk.injEq] at h;obtain ⟨rfl,rfl,rfl,rfl,hx,hy⟩:=h
   rw [rQ (h1 a (by simp [kids])) (h2 a' (by simp [kids])) (by omega),rQ (h1 b (by simp [kids])) (h2 b' (by simp [kids])) (by omega)]
theorem AG {ts:List Tr} (hc:lY ts) (hn:ts.Nodup) (hw:∀u∈ts,u.wf) {t:Tr} (ht:t∈ts):
  (aS ts)[ts.idxOf t]?=some (br ts t)∧∀k,k<ts.idxOf t→(aS ts)[k]?≠some (br ts t):=by
 have hlt:=List.idxOf_lt_length_iff.2 ht
 refine ⟨by rw [aS,List.getElem?_map,List.getElem?_eq_getElem hlt,List.getElem_idxOf hlt];rfl,fun k hk h=>?_⟩
 have hkl:k<ts.length:=by omega
 rw [aS,List.getElem?_map,List.getElem?_eq_getElem hkl,Option.map_some,Option.some.injEq] at h
 have h1:=pH (hw _ (List.getElem_mem hkl)) (hw t ht) (hc.mem (List.getElem_mem hkl)) (hc.mem ht) h
 have h2:ts.idxOf t=k:=by rw [←h1];exact hn.idxOf_getElem k hkl
 omega
theorem AH {ts:List Tr} (hc:lY ts) (hw:∀u∈ts,u.wf) {t:Tr} (htw:t.wf) (hk:∀c∈kids t,c∈ts) (ht:t∉ts):∀k:Nat,(aS ts)[k]?≠some (br ts t):=fun k h=>by
 rw [aS,List.getElem?_map] at h
 obtain ⟨u,hu,he⟩:=Option.map_eq_some_iff.1 h
 have hm:=List.mem_of_getElem? hu
 rw [pH (hw u hm) htw (hc.mem hm) hk he] at hm
 exact ht hm
theorem xy (t:Tr) (ht:t.wf):∀{ts:List Tr},(∀u∈ts,u.wf)→∀u∈visit t ts,u.wf:=by
 induction t with
 |leaf op i e g=>
  intro ts h u hu
  rw [visit] at hu
  split at hu
  ·exact h u hu
  rcases List.mem_append.1 hu with hu|hu
  ·exact h u hu
  rw [List.mem_singleton.1 hu];exact ht
 |un op i e g a iha=>
  intro ts h u hu
  rw [visit] at hu
  split at hu
  ·exact h u hu
  rcases List.mem_append.1 hu with hu|hu
  ·exact iha ht.2.2 h u hu
  rw [List.mem_singleton.1 hu];exact ht
 |bin op i e g a b iha ihb=>
  intro ts h u hu
  rw [visit] at hu
  split at hu
  ·exact h u hu
  rcases List.mem_append.1 hu with hu|hu
  ·exact ihb ht.2.2 (iha ht.2.1 h) u hu
  rw [List.mem_singleton.1 hu];exact ht
theorem qy {ts:List Tr} (hc:lY ts) (hw:∀u∈ts,u.wf):trees (aS ts)=ts:=by
 induction ts using gq with
 |h0=>rfl
 |h1 ts t ih=>
  have hk:∀c∈kids t,c∈ts:=fun c h=>by
   have:=hc ts.length (by simp) c (by simpa using h)
   rwa [List.take_left' rfl] at this
  have hc':lY ts:=fun k hk c h=>by
   have:=hc k (by simp;omega) c (by rw [List.getElem_append_left hk];exact h)
   rwa [List.take_append_of_le_length (by omega)] at this
  rw [ku hc' hk,fi,ih hc' (fun u hu=>hw u (List.mem_append_left _ hu))]
  congr 2
  have htw:=hw t (by simp)
  have hg:∀c∈ts,ts.getD ((ts.idxOf c:Int)).toNat lV=c:=fun c h=>by
   have hlt:=List.idxOf_lt_length_iff.2 h
   rw [Int.toNat_natCast,List.getD_eq_getElem?_getD,List.getElem?_eq_getElem hlt,List.getElem_idxOf hlt];rfl
  cases t with
  |leaf op i e g=>exact (fO (n:=⟨op,i,e,g,0,0⟩) htw)
  |un op i e g a=>
   refine (jN (n:=⟨op,i,e,g,(ts.idxOf a:Int),0⟩) htw.1 htw.2.1).trans ?_
   dsimp only [br]
   rw [hg a (hk a (by simp [kids]))]
  |bin op i e g a b=>
   refine (ie (n:=⟨op,i,e,g,(ts.idxOf a:Int),(ts.idxOf b:Int)⟩) htw.1).trans ?_
   dsimp only [br]
   rw [hg a (hk a (by simp [kids])),hg b (hk b (by simp [kids]))]
theorem iT (t:Tr):∀{ts us:List Tr},lY us→t∈us→ts⊆us→visit t ts⊆us:=by
 induction t with
 |leaf op i e g=>
  intro ts us hc ht hs
  rw [visit]
  split
  ·exact hs
  exact List.append_subset.2 ⟨hs,by simpa using ht⟩
 |un op i e g a iha=>
  intro ts us hc ht hs
  rw [visit]
  split
  ·exact hs
  exact List.append_subset.2 ⟨iha hc (hc.mem ht a (by simp [kids])) hs,by simpa using ht⟩
 |bin op i e g a b iha ihb=>
  intro ts us hc ht hs
  rw [visit]
  split
  ·exact hs
  exact List.append_subset.2 ⟨ihb hc (hc.mem ht b (by simp [kids])) (iha hc (hc.mem ht a (by simp [kids])) hs),by simpa using ht⟩
def gl (t:Tr):List Tr:=visit t []
def bS (t:Tr):List NV:=aS (gl t)
theorem ia (t:Tr):HO t [] (gl t):=ir t lY.nil List.nodup_nil
theorem Ap {t:Tr} (h:t.wf):∀u∈gl t,u.wf:=xy t h (fun u hu=>by cases hu)
theorem l0 {t:Tr} (h:t.wf):trees (bS t)=gl t:=qy (ia t).oL (Ap h)
theorem fT {t:Tr}:(bS t).length=(gl t).length:=jE
theorem nJ (t:Tr):∃l,gl t=l++[t]:=by
 cases t with
 |leaf op i e g=>exact ⟨[],by simp [gl,visit]⟩
 |un op i e g a=>exact ⟨visit a [],by simp [gl,visit]⟩
 |bin op i e g a b=>exact ⟨visit b (visit a []),by simp [gl,visit]⟩
def aO (f:List NV):Tr:=(trees f).getD (f.length - 1) lV
theorem iV {t:Tr} (h:t.wf):aO (bS t)=t:=by
 unfold aO
 rw [l0 h,fT]
 obtain ⟨l,hl⟩:=nJ t
 rw [hl]
 simp
end Go.Proofs.Wit
namespace Go.Proofs.Wit
def GG:NV:=⟨0,0,0,0,0,0⟩
def iJ (used:Bool) (v at_:Int):Bool:=used && decide (0≤v) && decide (v<at_)||!used && v==0
def iO (op:Int):Bool:=op==3||o8 op||op==17
def eX (op i e g:Int):Int:=
 if (!iO op && i !=0||op !=17 && e !=0||!lN op && g !=0)=true then 3
 else if (op==3 && !(decide (0≤i) && decide (i<8))||o8 op && !(decide (0≤i) && decide (i<4))||op==17 && !(decide (0≤i) && decide (i<8) && decide (0≤e) && decide (e<8))||lN op && !(decide (1≤g) && decide (g<16)))=true then 2 else 0
def aK (n:NV) (at_:Int):Int:=
 if ¬(1≤n.op∧n.op≤21) then 10
 else if ¬(iJ (cF n.op) n.x at_=true∧iJ (cm n.op) n.y at_=true) then 3 else eX n.op n.i n.e n.g
def fA (e:Nat→Int):Nat→Int
 |0=>0
 |n+1=>if fA e n≠0 then fA e n else e n
theorem jF {e:Nat→Int}:∀{n:Nat},fA e n=0↔∀i,i<n→e i=0
 |0=>by simp [fA]
 |n+1=>by
  rw [fA]
  constructor
  ·intro h i hi
   split at h
   ·rename_i h2;exact absurd h h2
   rename_i h2
   rcases Nat.lt_succ_iff_lt_or_eq.1 hi with hi|rfl
   ·exact jF.1 (Classical.not_not.1 h2) i hi
   exact h
  intro h
  have h1:fA e n=0:=jF.2 (fun i hi=>h i (Nat.lt_succ_of_lt hi))
  rw [if_neg (by simp [h1])]
  exact h n (Nat.lt_succ_self n)
theorem tH {e:Nat→Int} {n:Nat} (h:fA e n≠0):∀m,n≤m→fA e m=fA e n:=fun m hm=>by
 obtain ⟨k,rfl⟩:∃k,m=n+k:=⟨m - n,by omega⟩
 clear hm
 induction k with
 |zero=>rfl
 |succ k ih=>rw [←Nat.add_assoc,fA,if_pos (by rw [ih];exact h),ih]
theorem uN {e:Nat→Int} {n m:Nat} (h:fA e n=0) (he:e n≠0) (hm:n<m):fA e m=e n:=by
 have h1:fA e (n+1)=e n:=by rw [fA,if_neg (by simp [h])]
 rw [tH (n:=n+1) (by rw [h1];exact he) m hm,h1]
def wT (f:List NV) (i:Nat):Int:=aK (f.getD i GG) i
def aV (f:List NV):Int:=if f.length=0 then 3 else if 200<f.length then 8 else fA (wT f) f.length
structure xm (f:List NV):Prop where
  pos:0<f.length
  len:f.length≤200
  node:∀(i:Nat) (hi:i<f.length),aK f[i] i=0
theorem aA {f:List NV}:aV f=0↔xm f:=by
 unfold aV
 have hg:∀(i:Nat) (hi:i<f.length),wT f i=aK f[i] i:=fun i hi=>by simp [wT,List.getD_eq_getElem?_getD,hi]
 constructor
 ·intro h
  split at h
  ·cases h
  rename_i h1
  split at h
  ·cases h
  rename_i h2
  exact ⟨by omega,by omega,fun i hi=>by rw [←hg i hi];exact jF.1 h i hi⟩
 rintro ⟨h1,h2,h3⟩
 rw [if_neg (by omega),if_neg (by omega)]
 exact jF.2 (fun i hi=>by rw [hg i hi];exact h3 i hi)
structure zW (n:NV) (at_:Int):Prop where
  op:1≤n.op∧n.op≤21
  x:cF n.op=true→0≤n.x∧n.x<at_
  x0:cF n.op=false→n.x=0
  y:cm n.op=true→0≤n.y∧n.y<at_
  y0:cm n.op=false→n.y=0
  kO:eX n.op n.i n.e n.g=0
theorem mP {used:Bool} {v at_:Int}:iJ used v at_=true↔(used=true→0≤v∧v<at_)∧(used=false→v=0):=by
 cases used<;>simp [iJ]
theorem gW {n:NV} {at_:Int}:aK n at_=0↔zW n at_:=by
 unfold aK
 constructor
 ·intro h
  split at h
  ·cases h
  rename_i h1
  split at h
  ·cases h
  rename_i h2
  obtain ⟨h3,h4⟩:=Classical.not_not.1 h2
  obtain ⟨a1,a2⟩:=mP.1 h3
  obtain ⟨b1,b2⟩:=mP.1 h4
  exact ⟨Classical.not_not.1 h1,a1,a2,b1,b2,h⟩
 rintro ⟨h1,a1,a2,b1,b2,h⟩
 rw [if_neg (by simp [h1]),if_neg (by simp [mP.2 ⟨a1,a2⟩,mP.2 ⟨b1,b2⟩])]
 exact h
theorem xm.at {f:List NV} (h:xm f) (i:Nat) (hi:i<f.length):zW f[i] i:=gW.1 (h.node i hi)
def aa (f:List NV) (i:Nat):Tr:=(trees f).getD i lV
theorem ga {f:List NV} {i:Nat} (hi:i<f.length):aa f i=(trees f)[i]'(by rw [cH];exact hi):=by
 simp [aa,List.getD_eq_getElem?_getD,show i<(trees f).length from by rw [cH];exact hi]
theorem kU {f:List NV} {i:Nat} (hi:i<f.length) (hx:cF f[i].op=true→f[i].x.toNat<i) (hy:cm f[i].op=true→f[i].y.toNat<i):
  aa f i=sY f[i] (aa f f[i].x.toNat) (aa f f[i].y.toNat):=by
 rw [ga hi,wa hi]
 have ht:∀k,k<i→((trees f).take i).getD k lV=aa f k:=fun k hk=>by
  unfold aa
  simp [List.getD_eq_getElem?_getD,hk]
 by_cases h1:cm f[i].op=true
 ·rw [ie h1,ie h1,ht _ (hx (ep h1)),ht _ (hy h1)]
 by_cases h2:cF f[i].op=true
 ·rw [jN h2 (by simpa using h1),jN h2 (by simpa using h1),ht _ (hx h2)]
 rw [fO (by simpa using h2),fO (by simpa using h2)]
theorem nH (f:List NV) (i:Nat):(aa f i).wf:=by
 unfold aa
 by_cases hi:i<(trees f).length
 ·rw [show (trees f).getD i lV=(trees f)[i] from by simp [List.getD_eq_getElem?_getD,hi]];exact xA f _ (List.getElem_mem hi)
 rw [show (trees f).getD i lV=lV from by simp [List.getD_eq_getElem?_getD,List.getElem?_eq_none (Nat.le_of_not_lt hi)]];exact xC
def sr (f:List NV):Prop:=∀(i:Nat) (hi:i<f.length),(cF f[i].op=true→0≤f[i].x∧f[i].x<i)∧(cm f[i].op=true→0≤f[i].y∧f[i].y<i)
theorem xm.ord {f:List NV} (h:xm f):sr f:=fun i hi=>⟨(h.at i hi).x,(h.at i hi).y⟩
theorem sr.oL {f:List NV} (h:sr f):lY (trees f):=fun k hk c hc=>by
 rw [cH] at hk
 obtain ⟨hx,hy⟩:=h k hk
 have h1:=kU hk (fun hu=>by have:=hx hu;omega) (fun hu=>by have:=hy hu;omega)
 rw [←ga hk,h1] at hc
 have ht:∀j,j<k→aa f j∈(trees f).take k:=fun j hj=>by
  rw [ga (by omega:j<f.length)]
  rw [List.mem_take_iff_getElem]
  exact ⟨j,by rw [cH];omega,rfl⟩
 by_cases h2:cm f[k].op=true
 ·rw [ie h2] at hc
  simp only [kids,List.mem_cons,List.not_mem_nil,or_false] at hc
  rcases hc with rfl|rfl
  ·exact ht _ (by have:=hx (ep h2);omega)
  exact ht _ (by have:=hy h2;omega)
 by_cases h3:cF f[k].op=true
 ·rw [jN h3 (by simpa using h2)] at hc
  rw [List.mem_singleton.1 hc]
  exact ht _ (by have:=hx h3;omega)
 rw [fO (by simpa using h3)] at hc;cases hc
theorem oc {f:List NV} (h:sr f) {i:Nat} (hi:i<f.length):(bS (aa f i)).length≤i+1:=by
 have hclo:lY ((trees f).take (i+1)):=fun k hk c hc=>by
  rw [List.length_take] at hk
  rw [List.getElem_take] at hc
  have:=h.oL k (by omega) c hc
  rw [List.take_take,Nat.min_eq_left (by omega)];exact this
 have hm:aa f i∈(trees f).take (i+1):=by
  rw [ga hi,List.mem_take_iff_getElem]
  exact ⟨i,by rw [cH];omega,rfl⟩
 have hs:=iT (aa f i) (ts:=[]) hclo hm (List.nil_subset _)
 have hn:=(ia (aa f i)).nd
 rw [fT]
 have hle:=hn.length_le_of_subset hs
 rw [List.length_take] at hle
 omega
end Go.Proofs.Wit
namespace Go.Proofs.Wit
theorem yp {n:NV} {a:Int} (h:¬(1≤n.op∧n.op≤21)):aK n a=10:=if_pos h
theorem iQ {n:NV} {a:Int} (h:1≤n.op∧n.op≤21) (hb:iJ (cF n.op) n.x a=false):aK n a=3:=by
 rw [aK,if_neg (by simp [h]),if_pos (by rw [hb];simp)]
theorem iP {n:NV} {a:Int} (h:1≤n.op∧n.op≤21) (hb:iJ (cm n.op) n.y a=false):aK n a=3:=by
 rw [aK,if_neg (by simp [h]),if_pos (by rw [hb];simp)]
theorem aZ {n:NV} {a:Int} (h:1≤n.op∧n.op≤21) (hx:iJ (cF n.op) n.x a=true) (hy:iJ (cm n.op) n.y a=true):aK n a=eX n.op n.i n.e n.g:=by
 rw [aK,if_neg (by simp [h]),if_neg (by rw [hx,hy];simp)]
theorem eA {op i e g:Int} (h:(!iO op && i !=0||op !=17 && e !=0||!lN op && g !=0)=true):eX op i e g=3:=if_pos h
theorem mh {op i e g:Int} (h:(!iO op && i !=0||op !=17 && e !=0||!lN op && g !=0)=false) (h2:(op==3 && !(decide (0≤i) && decide (i<8))||o8 op && !(decide (0≤i) && decide (i<4))||op==17 && !(decide (0≤i) && decide (i<8) && decide (0≤e) && decide (e<8))||lN op && !(decide (1≤g) && decide (g<16)))=true):eX op i e g=2:=by
 rw [eX,if_neg (by rw [h];simp),if_pos h2]
theorem kC {op i e g:Int} (h:(!iO op && i !=0||op !=17 && e !=0||!lN op && g !=0)=false) (h2:(op==3 && !(decide (0≤i) && decide (i<8))||o8 op && !(decide (0≤i) && decide (i<4))||op==17 && !(decide (0≤i) && decide (i<8) && decide (0≤e) && decide (e<8))||lN op && !(decide (1≤g) && decide (g<16)))=false):eX op i e g=0:=by
 rw [eX,if_neg (by rw [h];simp),if_neg (by rw [h2];simp)]
end Go.Proofs.Wit
namespace Go.Proofs.Wit
open Go Go.RowKit
def reach (ops:Array Oper):Nat→List Nat→List Nat
 |0,acc=>acc
 |j+1,acc=>reach ops j (cond (acc.any fun z=>(bP ops z).contains j) (j::acc) acc)
def below (ops:Array Oper) (x:Nat):List Nat:=reach ops x [x]
def forced (ops:Array Oper):List Nat→List Nat→Bool
 |listed,[]=>(aB ops listed).isEmpty
 |listed,x::rest=>(aB ops listed==[x]) && forced ops (x::listed) rest
def uc (ops:Array Oper) (_l:Fl) (m:Nat):Bool:=
 Nat.ble m ops.size &&
 (List.range ops.size).all (fun i=>(bP ops i).all (fun j=>Nat.blt j i)) &&
 (List.range m).all (fun i=>match ops[i]? with
  |none=>false
  |some o=>eW o.op && match o.dst with
   |none=>false
   |some d=>(List.range ops.size).all (fun j=>Nat.beq j i||!(bj ops j==some d)) &&
    (fS ops o).all (fun s=>(List.range ops.size).all (fun j=>!(bj ops j==some s)||(bP ops i).contains j||(Nat.ble m j && (below ops j).contains i)))) &&
 (List.range' m (ops.size - m)).all (fun i=>match ops[i]? with
  |none=>false
  |some o=>(fS ops o).all (fun s=>(List.range m).all (fun j=>!(bj ops j==some s)||(bP ops i).contains j)))
section
variable {P:Program} {r:Option Nat} {f:FuncId} {R:Value→World→Prop} {w0:World} {S:List Nat} {Y:List (Nat×Obj)} {n:Nat} {k:List Item} {l:Fl} {h:Hl} {ops:Array Oper}
def dk (P:Program) (w0:World) (S:List Nat) (n:Nat) (h:Hl) (ops:Array Oper) (i:Nat) (l:Fl) (d:Nat) (K:Value→Hl→Prop):Prop:=
 ∃o,ops[i]?=some o∧o.dst=some d∧eZ o.op=false∧eW o.op=true∧Nat.blt d n=true∧
  ((au ops l o.guard=true∧∀(t:Array Value) (w:World) (Ds:List Nat) (Y':List (Nat×Obj)),jv n t l→St w0 S w h Y'→
   (∃v w' h',(execOp (Act.eval ⟨t,Ds.map mark⟩) o).run P w=.ok (.value v) w'∧St w0 S w' h' Y'∧K v h')∨
   (∃gf args,∃Rc:Value→World→Prop,(execOp (Act.eval ⟨t,Ds.map mark⟩) o).run P w=.ok (.enter gf args) w∧(Calls P gf args w fun e w'=>∃v,e=.returned v∧Rc v w')∧∀v w',Rc v w'→∃h',St w0 S w' h' Y'∧K v h'))∨
  (mE ops l o.guard=true∧K undef h))
theorem dk.v {i d:Nat} {v:Value} {K:Value→Hl→Prop} (hv:ae P w0 S n h ops i l d v) (hsel:∀o,ops[i]?=some o→eW o.op=true) (hk:K v h):dk P w0 S n h ops i l d K:=by
 obtain ⟨o,ho,hw,hdst,hnd,hd,hr⟩:=hv
 exact ⟨o,ho,hdst,hnd,hsel o ho,hd,.inl ⟨hw,fun t w Ds Y' hF hS=>.inl (by
  obtain ⟨nx,h1,rfl⟩:=hr t w Ds Y' hF hS;exact ⟨v,w,h,h1,hS,hk⟩)⟩⟩
section
variable {i d:Nat} {ty:TypeId} {pos:String} {aft:Array Edge} {g:Option (Nat×Bool)} {K:Value→Hl→Prop}
theorem dk.eN {e:TypeId} {z:Value} (ho:ops[i]?=some ⟨some d,.alloc e,ty,pos,aft,g⟩) (hw:au ops l g=true) (hd:Nat.blt d n=true) (hz:∀w,(zeroValue e).run P w=.ok z w)
  (hk:∀b,K (.pointer (some ⟨b,0,none⟩)) ((some b,.cells z.cells e)::h)):dk P w0 S n h ops i l d K:=
 ⟨_,ho,rfl,rfl,rfl,hd,.inl ⟨hw,fun t w Ds Y' hF hS=>.inl ⟨.pointer (some ⟨w.heap.size,0,none⟩),w.alloc (.cells z.cells e),_,by
  simp [execOp,Instr.alloc,hz,newVar,newRow],hS.alloc rfl,hk _⟩⟩⟩
theorem dk.bx {e:TypeId} {x:Operand} {v:Value} (ho:ops[i]?=some ⟨some d,.box e x,ty,pos,aft,g⟩) (hw:au ops l g=true) (hx:aU l x=some v) (hd:Nat.blt d n=true)
  (hk:∀b,K (.pointer (some ⟨b,0,none⟩)) ((some b,.cells v.cells e)::h)):dk P w0 S n h ops i l d K:=
 ⟨_,ho,rfl,rfl,rfl,hd,.inl ⟨hw,fun t w Ds Y' hF hS=>.inl ⟨.pointer (some ⟨w.heap.size,0,none⟩),w.alloc (.cells v.cells e),_,by
  simp [execOp,Instr.box,hF.aU hx,newVar,newRow],hS.alloc rfl,hk _⟩⟩⟩
theorem dk.eh {t e:TypeId} {len:Nat} {az:Array (Nat×Operand)} {ps:List (Nat×Value)} {z:Value} {size:Nat} {c:List Value} (ho:ops[i]?=some ⟨some d,.buildSlice t len az,ty,pos,aft,g⟩) (hw:au ops l g=true) (hx:l7 l az.toList=some ps) (hd:Nat.blt d n=true)
  (hu:P.underlying t=some (.slice e)) (hs:∀w,(sizeOf e).run P w=.ok size w) (hz:∀w,(zeroValue e).run P w=.ok z w) (hm:Nat.ble (len*size) 16777216=true)
  (hf:ox (fun i=>some (i*size,size)) ((List.range (len*size)).map fun i=>z.cells.toList.getD (i%z.cells.toList.length) default) ps=some c)
  (hk:∀b,K (.slice (some ⟨b,0,none⟩) len len) ((some b,.cells (c++[]).toArray e)::h)):dk P w0 S n h ops i l d K:=
 ⟨_,ho,rfl,rfl,rfl,hd,.inl ⟨hw,fun _ w Ds _ hF hS=>.inl ⟨.slice (some ⟨w.heap.size,0,none⟩) len len,w.alloc (.cells (c++[]).toArray e),_,
  vW hF hx hu hs hz hm hf Ds w,hS.alloc rfl,hk _⟩⟩⟩
theorem dk.ni {az:Array Operand} {ts:Array TypeId} {cal:Operand} {gf:FuncId} {fs cs vs:List Value} (Rc:World→Value→World→Prop) (ho:ops[i]?=some ⟨some d,.call ⟨.value cal,az,ts⟩,ty,pos,aft,g⟩) (hw:au ops l g=true)
  (hc:aU l cal=some (.func (.func gf) fs.toArray cs.toArray)) (hx:dq l az.toList=some vs) (hd:Nat.blt d n=true) (hcf:∀args w,(callFunc gf args).run P w=.ok (.enter gf args) w)
  (hcall:∀w Y',St w0 S w h Y'→Cn P gf (fs++vs++cs) w (Rc w))
  (hk:∀v w w' Y',St w0 S w h Y'→Ex [] w w'→Rc w v w'→∃h',St w0 S w' h' Y'∧K v h'):dk P w0 S n h ops i l d K:=
 ⟨_,ho,rfl,rfl,rfl,hd,.inl ⟨hw,fun t w Ds Y' hF hS=>.inr ⟨gf,(fs++vs++cs).toArray,fun u w'=>Ex [] w w'∧Rc w u w',by
  have e1:=gh (P:=P) (ty:=ty) (ts:=ts) (Ds:=Ds) (w:=w) hF hc hx
  simp only [execOp,Sem.run_bind,e1,Result.andThen_ok,invoke,hcf]
  simp,hcall w Y' hS,fun u w' ⟨he,hu⟩=>hk u w w' Y' hS he hu⟩⟩⟩
end
theorem dk.call {i d:Nat} {ty:TypeId} {pos:String} {aft:Array Edge} {g:Option (Nat×Bool)} {K:Value→Hl→Prop} {az:Array Operand} {ts:Array TypeId} {cal:Operand} {gf:FuncId} {vs:List Value} (Rc:World→Value→World→Prop) (ho:ops[i]?=some ⟨some d,.call ⟨.value cal,az,ts⟩,ty,pos,aft,g⟩) (hw:au ops l g=true)
  (hc:aU l cal=some (.func (.func gf) #[] #[])) (hx:dq l az.toList=some vs) (hd:Nat.blt d n=true) (hcf:∀args w,(callFunc gf args).run P w=.ok (.enter gf args) w)
  (hcall:∀w Y',St w0 S w h Y'→Cn P gf vs w (Rc w))
  (hk:∀v w w' Y',St w0 S w h Y'→Ex [] w w'→Rc w v w'→∃h',St w0 S w' h' Y'∧K v h'):dk P w0 S n h ops i l d K:=
 .ni (fs:=[]) (cs:=[]) Rc ho hw hc hx hd hcf (fun w Y' hS=>by rw [List.nil_append,List.append_nil];exact hcall w Y' hS) hk
def tV (ops:Array Oper) (m:Nat):List Nat→Bool
 |[]=>true
 |x::_=>(List.range m).all (fun i=>(below ops x).contains i && !(Nat.beq i x))
def Tl (P:Program) (r:Option Nat) (f:FuncId) (R:Value→World→Prop) (w0:World) (S:List Nat) (Y:List (Nat×Obj)) (n:Nat) (k:List Item) (ops:Array Oper) (m:Nat) (hb:Hl):Nat→List Nat→Fl→Hl→Prop
 |0,_,_,_=>False
 |q+1,TL,l,h=>
  (∃rest,forced ops (TL++List.range m) rest=true∧tV ops m rest=true∧ab P r f R w0 S Y n (.inRegion ops rest::k) l h)∨
  (aB ops (TL++List.range m)≠[]∧∀i∈aB ops (TL++List.range m),∃d,dk P w0 S n h ops i l d (fun v h'=>hb.Sublist h'∧Tl P r f R w0 S Y n k ops m hb q (i::TL) ((d,v)::l) h'))
def lT (P:Program) (w0:World) (S:List Nat) (n:Nat) (ops:Array Oper) (h:Hl) (F:Fl→Prop) (i m:Nat) (l:Fl):Prop:=
 ∀t,jv n t l→EC P w0 S n h ops (fun t'=>∃l',jv n t' l'∧F l') i m t
theorem lT.nil {F:Fl→Prop} {i:Nat} (hg:F l):lT P w0 S n ops h F i 0 l:=fun _ hF=>⟨l,hF,hg⟩
theorem lT.v {F:Fl→Prop} {i m d:Nat} {v:Value} (hv:ae P w0 S n h ops i l d v) (hg:lT P w0 S n ops h F (i+1) m ((d,v)::l)):lT P w0 S n ops h F i (m+1) l:=by
 intro t hF
 obtain ⟨o,ho,hw,hdst,hnd,hd,hr⟩:=hv
 exact ⟨d,v,⟨o,ho,hdst,by simpa [Nat.blt_eq] using hd,hnd,.inl ⟨eI hF hw,fun w Ds Y' hS=>by
  obtain ⟨nx,h1,rfl⟩:=hr t w Ds Y' hF hS;exact .inl h1⟩⟩,hg _ (hF.put v hd)⟩
theorem qV {x:Nat} {listed:List Nat} (hc:∀j∈listed,∀e∈bP ops j,e∈listed) (hx:∀e∈bP ops x,e∈listed):∀{j:Nat} {acc:List Nat},(∀z∈acc,z=x∨z∈listed)→∀y∈reach ops j acc,y=x∨y∈listed
 |0,_,ha,y,hy=>ha y hy
 |j+1,acc,ha,y,hy=>by
  rw [reach] at hy
  refine qV hc hx (acc:=cond (acc.any fun z=>(bP ops z).contains j) (j::acc) acc) (fun z hz=>?_) y hy
  cases hb:acc.any fun z=>(bP ops z).contains j with
  |false=>rw [hb] at hz;exact ha z hz
  |true=>
   rw [hb] at hz
   rcases List.mem_cons.1 hz with rfl|hz
   ·obtain ⟨u,hu,hd⟩:=List.any_eq_true.1 hb
    have hd:=List.contains_iff_mem.1 hd
    rcases ha u hu with rfl|h
    ·exact .inr (hx _ hd)
    exact .inr (hc u h _ hd)
   exact ha z hz
theorem qW {x:Nat} {listed:List Nat} (hc:∀j∈listed,∀e∈bP ops j,e∈listed) (hx:∀e∈bP ops x,e∈listed):∀y∈below ops x,y=x∨y∈listed:=
 qV hc hx (fun _ hz=>.inl (List.mem_singleton.1 hz))
theorem bL {listed:List Nat} {i:Nat}:i∈aB ops listed↔i<ops.size∧i∉listed∧∀e∈bP ops i,e∈listed:=by
 simp [aB,List.mem_filter]
structure rr (ops:Array Oper) (m:Nat):Prop where
  size:m≤ops.size
  lt:∀i,i<ops.size→∀j∈bP ops i,j<i
  xS:∀i,i<m→∀o,ops[i]?=some o→eW o.op=true
  inj:∀i j d,i<m→j<ops.size→bj ops i=some d→bj ops j=some d→i=j
  zU:∀i,i<m→∀o,ops[i]?=some o→∀s∈fS ops o,∀j,j<ops.size→bj ops j=some s→j∈bP ops i∨(m≤j∧i∈below ops j)
  GS:∀i,m≤i→∀o,ops[i]?=some o→∀s∈fS ops o,∀j,j<m→bj ops j=some s→j∈bP ops i
theorem rC {m:Nat} (hc:uc ops l m=true):rr ops m:=by
 simp only [uc,Bool.and_eq_true,List.all_eq_true,List.mem_range,List.mem_range'_1,Nat.blt_eq,Nat.ble_eq] at hc
 obtain ⟨⟨⟨hsz,hlt⟩,hr⟩,ht⟩:=hc
 have hat:∀i,i<m→∃o d,ops[i]?=some o∧o.dst=some d∧eW o.op=true∧(∀j,j<ops.size→j=i∨bj ops j≠some d)∧(∀s∈fS ops o,∀j,j<ops.size→(bj ops j≠some s∨j∈bP ops i)∨(m≤j∧i∈below ops j)):=by
  intro i hi
  have:=hr i hi
  cases ho:ops[i]? with
  |none=>simp [ho] at this
  |some o=>
   cases hd:o.dst with
   |none=>simp [ho,hd] at this
   |some d=>
    simp only [ho,hd,Bool.and_eq_true,List.all_eq_true,List.mem_range,Bool.or_eq_true,Nat.beq_eq,Bool.not_eq_true',beq_eq_false_iff_ne,List.contains_iff_mem,Nat.ble_eq] at this
    exact ⟨o,d,rfl,hd,this.1,this.2.1,this.2.2⟩
 refine ⟨hsz,hlt,fun i hi o ho=>?_,fun i j d hi hj h1 h2=>?_,fun i hi o ho s hs j hj hd=>?_,fun i hi o ho s hs j hj hd=>?_⟩
 ·obtain ⟨o',d,h1,_,h3,_⟩:=hat i hi
  rw [ho] at h1;cases h1;exact h3
 ·obtain ⟨o,d',e1,e2,_,e5,_⟩:=hat i hi
  have:d'=d:=by simp [bj,e1,e2] at h1;exact h1
  subst this
  rcases e5 j hj with e|e
  ·exact e.symm
  exact absurd h2 e
 ·obtain ⟨o',d,e1,_,_,_,e6⟩:=hat i hi
  rw [ho] at e1;cases e1
  rcases e6 s hs j hj with (e|e)|e
  ·exact absurd hd e
  ·exact .inl e
  exact .inr e
 have hiN:=(Array.getElem?_eq_some_iff.1 ho).1
 have:=ht i ⟨hi,by omega⟩
 simp only [ho,List.all_eq_true,Bool.or_eq_true,Bool.not_eq_true',beq_eq_false_iff_ne,List.contains_iff_mem,List.mem_range] at this
 rcases this s hs j hj with e|e
 ·exact absurd hd e
 exact e
theorem mF {a b:List Nat} (h:∀j,j∈a↔j∈b):aB ops a=aB ops b:=by
 have:∀j,a.contains j=b.contains j:=fun j=>by rw [Bool.eq_iff_iff];simp [h j]
 unfold aB
 simp only [this]
theorem nT:∀{rest listed:List Nat} {fuel τ:Nat} {arr:Array Bool},forced ops listed rest=true→arr.size=ops.size→(∀j,arr.getD j false=listed.contains j)→rest.length≤fuel→
  Region.linearise.go .any ops fuel τ arr []=rest
 |[],listed,fuel,τ,arr,hf,hs,h,_=>by
  have h0:aB ops listed=[]:=by simpa [forced] using hf
  cases fuel with
  |zero=>rfl
  |succ fuel=>
   simp only [Region.linearise.go]
   change (match (Region.ready .any ops arr)[_%(Region.ready .any ops arr).length]? with
    |some i=>_
    |none=>[].reverse)=[]
   rw [jY hs h,h0];rfl
 |x::rest,listed,0,τ,arr,hf,hs,h,hl=>by simp at hl
 |x::rest,listed,fuel+1,τ,arr,hf,hs,h,hl=>by
  simp only [forced,Bool.and_eq_true,beq_iff_eq] at hf
  simp only [Region.linearise.go]
  change (match (Region.ready .any ops arr)[_%(Region.ready .any ops arr).length]? with
   |some i=>Region.linearise.go .any ops fuel (τ / (Region.ready .any ops arr).length) (arr.setIfInBounds i true) [i]
   |none=>[].reverse)=_
  rw [jY hs h,hf.1]
  simp only [List.length_singleton,Nat.mod_one,List.getElem?_cons_zero]
  rw [linearise_go_acc,List.reverse_singleton,List.singleton_append]
  have hx:x∈aB ops listed:=by rw [hf.1];simp
  have hxl:=(bL.1 hx).1
  rw [nT (listed:=x::listed) hf.2 (by simpa using hs) (fun j=>?_) (by simpa using hl)]
  rw [aJ (by omega),h j,List.contains_cons]
  split
  ·rename_i e;subst e;simp
  rename_i e;rw [beq_false_of_ne (Ne.symm e)];rfl
theorem mg:∀{rest listed:List Nat},forced ops listed rest=true→rest.length≤(List.range ops.size).countP (fun j=>!listed.contains j)
 |[],_,_=>Nat.zero_le _
 |x::rest,listed,hf=>by
  simp only [forced,Bool.and_eq_true,beq_iff_eq] at hf
  have hx:x∈aB ops listed:=by rw [hf.1];simp
  obtain ⟨h1,h2,_⟩:=bL.1 hx
  have ih:=mg hf.2
  have:=lP (l:=List.range ops.size) (p:=fun j=>!(x::listed).contains j) (q:=fun j=>!listed.contains j) (fun y _ hy=>by simp at hy⊢;exact hy.2) ⟨x,by simpa using h1,by simpa using h2,by simp⟩
  simp only [List.length_cons];omega
theorem jx.Ij {i d:Nat} {v:Value} {t:Array Value} {rest:List Nat} {w:World} {Ds:List Nat} {hb:Hl} (ho:jx P w0 S n hb ops i t d v) (hs:hb.Sublist h) (hS:St w0 S w h (mR Ds++Y))
  (hk:∀w',St w0 S w' h (mR Ds++Y)→dN P r f R (.inRegion ops rest::k) (t.setIfInBounds d v) (Ds.map mark) w'):dN P r f R (.inRegion ops (i::rest)::k) t (Ds.map mark) w:=by
 obtain ⟨o,h1,h2,h3,h4,h5⟩:=ho
 rcases h5 with ⟨a,b⟩|⟨a,rfl⟩
 ·rcases b w Ds _ (hS.dH hs) with hb|⟨gf,args,hb,hcall⟩
  ·refine dN.op h1 a (cS h4) hb (.inl rfl) ?_
   rw [h2];exact hk w hS
  ·refine dN.call h1 a (cS h4) hb hcall (fun u w2 hu=>?_)
   obtain ⟨he,rfl⟩:=hu
   rw [h2];exact hk w2 (hS.later he)
 refine dN.nM h1 a ?_
 rw [h2];exact hk w hS
theorem kl {o:Oper} {t t':Array Value} (hs:t'.size=t.size) (he:∀s∈fS ops o,t'.getD s undef=t.getD s undef):Region.wanted o (yielded ops t')=Region.wanted o (yielded ops t):=by
 unfold Region.wanted
 cases hg:o.guard with
 |none=>rfl
 |some p=>
  obtain ⟨j,want⟩:=p
  have:yielded ops t' j=yielded ops t j:=by
   unfold yielded
   cases hd:(ops[j]?).bind (·.dst) with
   |none=>rfl
   |some dj=>
    simp only [Option.bind_some]
    rw [iw hs (he dj (by simp [fS,hg,bj,hd]))]
  simp only [this]
theorem dk.go {i d:Nat} {K:Value→Hl→Prop} {T t:Array Value} {rest:List Nat} {w:World} {Ds:List Nat} (hm:dk P w0 S n h ops i l d K) (hF:jv n T l) (hs:t.size=T.size)
  (he:∀o,ops[i]?=some o→∀s∈fS ops o,t.getD s undef=T.getD s undef) (hS:St w0 S w h (mR Ds++Y))
  (hk:∀v w' h',K v h'→St w0 S w' h' (mR Ds++Y)→dN P r f R (.inRegion ops rest::k) (t.setIfInBounds d v) (Ds.map mark) w'):dN P r f R (.inRegion ops (i::rest)::k) t (Ds.map mark) w:=by
 obtain ⟨o,ho,hdst,hnd,hsel,hd,hr⟩:=hm
 have hw:=kl (ops:=ops) (o:=o) hs (he o ho)
 rcases hr with ⟨hwant,hr⟩|⟨hskip,hK⟩
 ·have hexec:execOp (Act.eval ⟨t,Ds.map mark⟩) o=execOp (Act.eval ⟨T,Ds.map mark⟩) o:=execOp_congr (ρ':=Act.eval ⟨T,Ds.map mark⟩) o (fun cs bb e=>by rw [e] at hsel;cases hsel) (fun x hx=>by
   cases x with
   |tmp s=>exact he o ho s (by
     simp only [fS,List.mem_append]
     exact .inr (List.mem_filterMap.2 ⟨.tmp s,by simpa using hx,rfl⟩))
   |const v=>rfl
   |global g=>rfl
   |func g=>rfl)
  rcases hr T w Ds _ hF hS with ⟨v,w',h',h1,h2,h3⟩|⟨gf,args,Rc,h1,h2,h3⟩
  ·refine dN.op ho (hw.trans (eI hF hwant)) (cS hnd) (by rw [hexec];exact h1) (.inl rfl) ?_
   rw [hdst];exact hk v w' h' h3 h2
  refine dN.call ho (hw.trans (eI hF hwant)) (cS hnd) (by rw [hexec];exact h1) h2 (fun u w2 hu=>?_)
  obtain ⟨h',h4,h5⟩:=h3 u w2 hu
  rw [hdst];exact hk u w2 h' h5 h4
 refine dN.nM ho (hw.trans (mz hF hskip)) ?_
 rw [hdst];exact hk undef w h hK hS
theorem wc {m:Nat} (hf:rr ops m) {D:Nat→Nat} {V:Nat→Value} {t0:Array Value} {hB:Hl} (ht0:t0.size=n)
  (hout:∀j,j<m→jx P w0 S n hB ops j (oE D V t0 j) (D j) (V j)):
  ∀(fuel τ:Nat) (arr:Array Bool) (TL:List Nat) (q:Nat) (l:Fl) (h:Hl) (t T:Array Value),arr.size=ops.size→(∀j,arr.getD j false=true→∀e∈bP ops j,arr.getD e false=true)→
   (∀j,m≤j→(arr.getD j false=true↔j∈TL))→(∀j∈TL,m≤j)→jv n T l→Tl P r f R w0 S Y n k ops m hB q TL l h→hB.Sublist h→t.size=n→
   (∀j,j<m→T.getD (D j) undef=V j)→(∀s,(∀j,j<m→arr.getD j false=false→D j≠s)→t.getD s undef=T.getD s undef)→(∀s,(∀j,j<m→D j≠s)→(∀j,m≤j→j<ops.size→bj ops j=some s→arr.getD j false=false)→T.getD s undef=t0.getD s undef)→
   (List.range ops.size).countP (fun j=>!arr.getD j false)≤fuel→∀w Ds,St w0 S w h (mR Ds++Y)→dN P r f R (.inRegion ops (Region.linearise.go .any ops fuel τ arr [])::k) t (Ds.map mark) w:=by
 have hDst:∀j,j<m→bj ops j=some (D j):=fun j hj=>by
  obtain ⟨o,h1,h2,_⟩:=hout j hj
  simp [bj,h1,h2]
 have hDlt:∀j,j<m→D j<t0.size:=fun j hj=>by
  obtain ⟨o,_,_,h3,_⟩:=hout j hj;omega
 have hmN:=hf.size
 have hDinj:∀i j,i<m→j<m→D i=D j→i=j:=fun i j hi hj e=>hf.inj i j (D i) hi (by omega) (hDst i hi) (by rw [hDst j hj,e])
 have hsw:∀{fuel τ:Nat} {arr:Array Bool} {TL rest:List Nat} {l:Fl} {h:Hl} {t T:Array Value},arr.size=ops.size→(∀j,m≤j→(arr.getD j false=true↔j∈TL))→(∀j∈TL,m≤j)→jv n T l→t.size=n→
   (∀s,(∀j,j<m→arr.getD j false=false→D j≠s)→t.getD s undef=T.getD s undef)→(∀j,j<m→arr.getD j false=true)→forced ops (TL++List.range m) rest=true→
   ab P r f R w0 S Y n (.inRegion ops rest::k) l h→(List.range ops.size).countP (fun j=>!arr.getD j false)≤fuel→∀w Ds,St w0 S w h (mR Ds++Y)→dN P r f R (.inRegion ops (Region.linearise.go .any ops fuel τ arr [])::k) t (Ds.map mark) w:=by
  intro fuel τ arr TL rest l h t T hls hTL hTm hF hts hb hall hfo hg hc w Ds hS
  have hcont:∀j,arr.getD j false=(TL++List.range m).contains j:=fun j=>by
   rw [Bool.eq_iff_iff,List.contains_iff_mem,List.mem_append,List.mem_range]
   rcases Nat.lt_or_ge j m with hj|hj
   ·exact ⟨fun _=>.inr hj,fun _=>hall j hj⟩
   exact ⟨fun x=>.inl ((hTL j hj).1 x),fun x=>(hTL j hj).2 (by rcases x with x|x;exact x;omega)⟩
  have hlen:=mg hfo
  have e1:(fun j=>!(TL++List.range m).contains j)=fun j=>!arr.getD j false:=by funext j;rw [hcont]
  rw [e1] at hlen
  rw [nT hfo hls hcont (by omega)]
  have ht:t=T:=Array.ext_getElem? (fun s=>iw (by rw [hts,hF.1]) (hb s (fun j hj hu=>by rw [hall j hj] at hu;cases hu)))
  rw [ht];exact hg T w Ds hF hS
 intro fuel
 induction fuel with
 |zero=>
  intro τ arr TL q l h t T hls hcl hTL hTm hF htl hsub hts ha hb hcb hc w Ds hS
  have hl:∀j,j<ops.size→arr.getD j false=true:=fun j hj=>by
   have:=List.countP_eq_zero.1 (Nat.le_zero.1 hc) j (by simpa using hj)
   simpa using this
  cases q with
  |zero=>exact htl.elim
  |succ q=>
   rcases htl with ⟨rest,h1,_,h3⟩|⟨hne,_⟩
   ·exact hsw hls hTL hTm hF hts hb (fun j hj=>hl j (by omega)) h1 h3 hc w Ds hS
   exfalso
   apply hne
   rw [List.eq_nil_iff_forall_not_mem]
   intro j hj
   obtain ⟨a1,a2,_⟩:=bL.1 hj
   apply a2
   rw [List.mem_append,List.mem_range]
   rcases Nat.lt_or_ge j m with hj|hj
   ·exact .inr hj
   exact .inl ((hTL j hj).1 (hl j a1))
 |succ fuel ih=>
  intro τ arr TL q l h t T hls hcl hTL hTm hF htl hsub hts ha hb hcb hc w Ds hS
  have hready:(∃j,j<ops.size∧arr.getD j false=false)→Region.ready .any ops arr≠[]:=by
   rintro ⟨j,hj,hu⟩
   have key:∀q,q<ops.size→arr.getD q false=false→Region.ready .any ops arr≠[]:=by
    intro q
    induction q using Nat.strongRecOn with
    |_ q ihq=>
     intro hq hqu
     by_cases hb:∃e∈bP ops q,arr.getD e false=false
     ·obtain ⟨e,he,heu⟩:=hb
      have hlt:=hf.lt q hq e he
      exact ihq e hlt (by omega) heu
     obtain ⟨o,ho⟩:∃o,ops[q]?=some o:=⟨ops[q],Array.getElem?_eq_getElem hq⟩
     have:q∈Region.ready .any ops arr:=by
      rw [mem_ready]
      refine ⟨by rw [kB (by omega)];exact hqu,o,ho,fun e he hbd=>?_⟩
      cases hx:arr.getD e.on false with
      |true=>rfl
      |false=>exact absurd ⟨e.on,(j7 ho).2 ⟨e,he,hbd,rfl⟩,hx⟩ hb
     exact List.ne_nil_of_mem this
   exact key j hj hu
  have hrT:∀i,m≤i→i<ops.size→arr.getD i false=false→(∀e∈bP ops i,arr.getD e false=true)→i∈aB ops (TL++List.range m):=fun i him hiN hu hd=>by
   rw [bL]
   refine ⟨hiN,fun hx=>?_,fun e he=>?_⟩
   ·rw [List.mem_append,List.mem_range] at hx
    rcases hx with hx|hx
    ·rw [(hTL i him).2 hx] at hu;cases hu
    omega
   rw [List.mem_append,List.mem_range]
   rcases Nat.lt_or_ge e m with hj|hj
   ·exact .inr hj
   exact .inl ((hTL e hj).1 (hd e he))
  by_cases hdone:∃rest,forced ops (TL++List.range m) rest=true∧ab P r f R w0 S Y n (.inRegion ops rest::k) l h∧∀j,j<m→arr.getD j false=true
  ·obtain ⟨rest,h1,h2,h3⟩:=hdone
   exact hsw hls hTL hTm hF hts hb h3 h1 h2 hc w Ds hS
  simp only [Region.linearise.go]
  change dN P r f R (.inRegion ops (match (Region.ready .any ops arr)[τ%(Region.ready .any ops arr).length]? with
   |some i=>Region.linearise.go .any ops fuel (τ / (Region.ready .any ops arr).length) (arr.setIfInBounds i true) [i]
   |none=>[].reverse)::k) t (Ds.map mark) w
  cases hi:(Region.ready .any ops arr)[τ%(Region.ready .any ops arr).length]? with
  |none=>
   exfalso
   have hnil:Region.ready .any ops arr=[]:=by
    cases hr:Region.ready .any ops arr with
    |nil=>rfl
    |cons x xs=>
     rw [hr] at hi
     have hlt:τ%(x::xs).length<(x::xs).length:=Nat.mod_lt _ (by simp)
     rw [List.getElem?_eq_getElem hlt] at hi;cases hi
   have hl:∀j,j<ops.size→arr.getD j false=true:=fun j hj=>by
    cases hx:arr.getD j false with
    |true=>rfl
    |false=>exact absurd hnil (hready ⟨j,hj,hx⟩)
   cases q with
   |zero=>exact htl.elim
   |succ q=>
    rcases htl with ⟨rest,h1,_,h3⟩|⟨hne,_⟩
    ·exact hdone ⟨rest,h1,h3,fun j hj=>hl j (by omega)⟩
    apply hne
    rw [List.eq_nil_iff_forall_not_mem]
    intro j hj
    obtain ⟨a1,a2,_⟩:=bL.1 hj
    apply a2
    rw [List.mem_append,List.mem_range]
    rcases Nat.lt_or_ge j m with hj|hj
    ·exact .inr hj
    exact .inl ((hTL j hj).1 (hl j a1))
  |some i=>
   have hmem:=List.mem_of_getElem? hi
   rw [mem_ready] at hmem
   obtain ⟨hu,o,ho,hdep⟩:=hmem
   have hiN:i<ops.size:=(Array.getElem?_eq_some_iff.1 ho).1
   rw [kB (by omega)] at hu
   simp only []
   rw [linearise_go_acc,List.reverse_singleton,List.singleton_append]
   have hdl:∀e∈bP ops i,arr.getD e false=true:=fun e he=>by
    obtain ⟨e',he',hb,rfl⟩:=(j7 ho).1 he
    exact hdep e' he' hb
   have hcl':∀j,(arr.setIfInBounds i true).getD j false=true→∀e∈bP ops j,(arr.setIfInBounds i true).getD e false=true:=by
    intro j hj e he
    rw [aJ (by omega)] at hj⊢
    split
    ·rfl
    split at hj
    ·rename_i hij;subst hij;exact hdl e he
    exact hcl j hj e he
   have hcnt:=count_set (listed:=arr) hls hiN hu
   by_cases him:i<m
   ·-- a read
    have hgo:=hout i him
    have hDi:D i<t.size:=by rw [hts,←ht0];exact hDlt i him
    have heq:jx P w0 S n hB ops i t (D i) (V i):=by
     refine hgo.congr (hf.xS i him) (by rw [hts,gp,ht0]) (fun o' ho' s hs=>?_)
     obtain ⟨g1,g2⟩:=jz hDlt hDinj i (by omega)
     by_cases hx:∃j,j<m∧D j=s
     ·obtain ⟨j,hj,rfl⟩:=hx
      have hjd:=(hf.zU i him o' ho' (D j) hs j (by omega) (hDst j hj)).resolve_right (fun x=>by omega)
      rw [g1 j (hf.lt i hiN j hjd),hb (D j) (fun j' hj' hu' e=>by
       have:=hDinj j' j hj' hj e
       subst this
       rw [hdl j' hjd] at hu';cases hu'),ha j hj]
     rw [hb s (fun j hj _ e=>hx ⟨j,hj,e⟩),g2 s (fun j hj e=>hx ⟨j,by omega,e⟩)]
     refine hcb s (fun j hj e=>hx ⟨j,hj,e⟩) (fun j hmj hj hd=>?_)
     rcases hf.zU i him o' ho' s hs j hj hd with hjd|⟨_,hjb⟩
     ·have hjl:=hf.lt i hiN j hjd
      omega
     cases hja:arr.getD j false with
     |false=>rfl
     |true=>
      exfalso
      have:=qW (ops:=ops) (listed:=(List.range ops.size).filter (fun j=>arr.getD j false)) (x:=j) (fun j hj e he=>by
       rw [List.mem_filter,List.mem_range] at hj⊢
       have hlt:=hf.lt j hj.1 e he
       exact ⟨by omega,hcl j hj.2 e he⟩) (fun e he=>by
       rw [List.mem_filter,List.mem_range]
       have hlt:=hf.lt j hj e he
       exact ⟨by omega,hcl j hja e he⟩) i hjb
      rcases this with h|h
      ·omega
      rw [(List.mem_filter.1 h).2] at hu;cases hu
    refine heq.Ij hsub hS (fun w hS=>?_)
    refine ih _ _ TL q l h _ T (by simpa using hls) hcl' (fun j hj=>?_) hTm hF htl hsub (by simpa using hts) ha (fun s hs=>?_) (fun s hs1 hs2=>hcb s hs1 (fun j hj hjN hd=>by
     have:=hs2 j hj hjN hd
     rwa [aJ (by omega),if_neg (by omega)] at this)) (by omega) w Ds hS
    ·rw [aJ (by omega),if_neg (by omega)];exact hTL j hj
    rw [cu hDi]
    split
    ·rename_i e;subst e;exact (ha i him).symm
    rename_i e
    refine hb s (fun j hj hu'=>?_)
    by_cases e2:i=j
    ·subst e2;exact e
    exact hs j hj (by rw [aJ (by omega),if_neg e2];exact hu')
   -- of the tail
   have him':m≤i:=by omega
   have hir:=hrT i him' hiN hu hdl
   cases q with
   |zero=>exact htl.elim
   |succ q=>
    rcases htl with ⟨rest,h1,hbel,h3⟩|⟨_,hop⟩
    ·exfalso
     cases rest with
     |nil=>
      have h0:aB ops (TL++List.range m)=[]:=by simpa [forced] using h1
      rw [h0] at hir;cases hir
     |cons x rest=>
      have hx:aB ops (TL++List.range m)=[x]:=by
       simp only [forced,Bool.and_eq_true,beq_iff_eq] at h1;exact h1.1
      rw [hx] at hir
      obtain rfl:=List.mem_singleton.1 hir
      refine hdone ⟨i::rest,h1,h3,fun j hj=>?_⟩
      have hmem:j∈below ops i∧j≠i:=by
       have:=List.all_eq_true.1 hbel j (by simpa using hj)
       rw [Bool.and_eq_true,List.contains_iff_mem,Bool.not_eq_true'] at this
       exact ⟨this.1,fun e=>by rw [e,Nat.beq_refl] at this;cases this.2⟩
      have:=qW (ops:=ops) (listed:=(List.range ops.size).filter (fun j=>arr.getD j false)) (x:=i) (fun j hj e he=>by
       rw [List.mem_filter,List.mem_range] at hj⊢
       have hlt:=hf.lt j hj.1 e he
       exact ⟨by omega,hcl j hj.2 e he⟩) (fun e he=>by
       rw [List.mem_filter,List.mem_range]
       have hlt:=hf.lt i hiN e he
       exact ⟨by omega,hdl e he⟩) j hmem.1
      exact (List.mem_filter.1 (this.resolve_left hmem.2)).2
    obtain ⟨d,hmop⟩:=hop i hir
    have hdi:bj ops i=some d:=by
     obtain ⟨o',e1,e2,_⟩:=hmop
     simp [bj,e1,e2]
    have hdn:d<n:=by
     obtain ⟨o',_,_,_,_,hd,_⟩:=hmop
     simpa [Nat.blt_eq] using hd
    refine hmop.go hF (by rw [hts,hF.1]) (fun o' ho' s hs=>?_) hS (fun v w' h' hK hS'=>?_)
    ·refine hb s (fun j hj hu' e=>?_)
     subst e
     have hjd:=hf.GS i him' o' ho' (D j) hs j hj (hDst j hj)
     rw [hdl j hjd] at hu';cases hu'
    obtain ⟨hsub',htl'⟩:=hK
    refine ih _ _ (i::TL) q ((d,v)::l) h' _ (T.setIfInBounds d v) (by simpa using hls) hcl' (fun j hj=>?_) (fun j hj=>?_) (hF.put v (by simpa [Nat.blt_eq] using hdn)) htl' hsub' (by simpa using hts) (fun j hj=>?_) (fun s hs=>?_) (fun s hs1 hs2=>?_) (by omega) w' Ds hS'
    ·rw [aJ (by omega),List.mem_cons]
     split
     ·rename_i e;subst e;simp
     rename_i e
     rw [hTL j hj]
     exact ⟨.inr,fun x=>x.resolve_left (Ne.symm e)⟩
    ·rcases List.mem_cons.1 hj with rfl|hj
     ·exact him'
     ·exact hTm j hj
    ·rw [cu (by rw [hF.1];exact hdn)]
     split
     ·rename_i e
      have:=hf.inj j i d hj hiN (by rw [hDst j hj,e]) hdi
      omega
     exact ha j hj
    ·rw [cu (by rw [hts];exact hdn),cu (by rw [hF.1];exact hdn)]
     split
     ·rfl
     refine hb s (fun j hj hu'=>hs j hj ?_)
     rw [aJ (by omega),if_neg (by omega)];exact hu'
    rw [cu (by rw [hF.1];exact hdn)]
    split
    ·rename_i e
     have:=hs2 i him' hiN (by rw [hdi,e])
     rw [aJ (by omega),if_pos rfl] at this;cases this
    refine hcb s hs1 (fun j hj hjN hd=>?_)
    have:=hs2 j hj hjN hd
    rw [aJ (by omega)] at this
    split at this
    ·cases this
    exact this
theorem Tl.sw {m q:Nat} {hb:Hl} {TL:List Nat} (rest:List Nat) (h1:forced ops (TL++List.range m) rest=true) (h2:tV ops m rest=true)
  (hg:ab P r f R w0 S Y n (.inRegion ops rest::k) l h):Tl P r f R w0 S Y n k ops m hb (q+1) TL l h:=.inl ⟨rest,h1,h2,hg⟩
theorem Tl.one {m q i d:Nat} {hb:Hl} {TL:List Nat} (h1:aB ops (TL++List.range m)=[i]) (hm:dk P w0 S n h ops i l d (fun v h'=>hb.Sublist h'∧Tl P r f R w0 S Y n k ops m hb q (i::TL) ((d,v)::l) h')):Tl P r f R w0 S Y n k ops m hb (q+1) TL l h:=
 .inr ⟨by rw [h1];simp,fun j hj=>by rw [h1] at hj;obtain rfl:=List.mem_singleton.1 hj;exact ⟨d,hm⟩⟩
theorem Tl.two {m q i d i2 d2:Nat} {hb:Hl} {TL:List Nat} (h1:aB ops (TL++List.range m)=[i,i2]) (hm:dk P w0 S n h ops i l d (fun v h'=>hb.Sublist h'∧Tl P r f R w0 S Y n k ops m hb q (i::TL) ((d,v)::l) h'))
  (hm2:dk P w0 S n h ops i2 l d2 (fun v h'=>hb.Sublist h'∧Tl P r f R w0 S Y n k ops m hb q (i2::TL) ((d2,v)::l) h')):Tl P r f R w0 S Y n k ops m hb (q+1) TL l h:=
 .inr ⟨by rw [h1];simp,fun j hj=>by
  rw [h1] at hj
  rcases List.mem_cons.1 hj with rfl|hj
  ·exact ⟨d,hm⟩
  obtain rfl:=List.mem_singleton.1 hj;exact ⟨d2,hm2⟩⟩
end
end Go.Proofs.Wit
namespace Go.Proofs.Wit
open Go Go.RowKit
theorem ab.EP {P:Program} {r:Option Nat} {f:FuncId} {R:Value→World→Prop} {w0:World} {S:List Nat} {Y:List (Nat×Obj)} {n:Nat} {k:List Item} {l l':Fl} {h h':Hl} (hg:ab P r f R w0 S Y n k l' h') (hl:bB l' l) (hh:∀w Y',St w0 S w h Y'→St w0 S w h' Y'):ab P r f R w0 S Y n k l h:=
 fun t w Ds hF hS=>hg t w Ds (hF.sub hl) (hh w _ hS)
theorem ab.lF {P:Program} {r:Option Nat} {f:FuncId} {R:Value→World→Prop} {w0:World} {S:List Nat} {Y:List (Nat×Obj)} {n:Nat} {k:List Item} {l:Fl} {h:Hl} {ops:Array Oper} {id:Nat} {dr:Bool} {α:Type} (restc:List Nat) (lf:α→Fl) (hf:α→Hl)
  (hK:∀a,ab P r f R w0 S Y n (.inRegion ops restc::k) (lf a) (hf a))
  (hg:(∀a l h,bB (lf a) l→(∀w Y',St w0 S w h Y'→St w0 S w (hf a) Y')→ab P r f R w0 S Y n (.inRegion ops restc::k) l h)→ab P r f R w0 S Y n (.code (.region id ops dr)::k) l h):ab P r f R w0 S Y n (.code (.region id ops dr)::k) l h:=
 hg (fun a _ _ hl hh=>(hK a).EP hl hh)
end Go.Proofs.Wit
namespace Go.Proofs.Wit
open Go Go.RowKit
section
variable {P:Program} {r:Option Nat} {f:FuncId} {R:Value→World→Prop} {w0:World} {S:List Nat} {Y:List (Nat×Obj)} {n:Nat} {k:List Item} {l:Fl} {h:Hl} {ops:Array Oper}
end
end Go.Proofs.Wit
namespace Go.Proofs.Wit
open Go Go.RowKit
section
variable {P:Program} {r:Option Nat} {f:FuncId} {R:Value→World→Prop} {w0:World} {S:List Nat} {Y:List (Nat×Obj)} {n:Nat} {k:List Item} {l:Fl} {h:Hl} {ops:Array Oper}
structure Ej (ops:Array Oper) (c:Nat):Prop where
  size:c<ops.size
  lt:∀i,i<ops.size→∀j∈bP ops i,j<i
  xS:∀i,i≤c→∀o,ops[i]?=some o→eW o.op=true
  inj:∀i j d,i≤c→j≤c→bj ops i=some d→bj ops j=some d→i=j
  zU:∀i,i≤c→∀o,ops[i]?=some o→∀s∈fS ops o,∀j,j≤c→bj ops j=some s→j∈bP ops i
  late:∀i,c<i→i<ops.size→(∀j,j≤c→j∈bP ops i)∨∃j∈bP ops i,c<j
  DM:forced ops (List.range (c+1)) (List.range' (c+1) (ops.size - (c+1)))=true
theorem ab.r8 {id:Nat} (m q:Nat) (hb:Hl) (hsub:hb.Sublist h) (hmix:P.follows .mixedOrders=true) (hc:uc ops l m=true) (hg:lT P w0 S n ops hb (fun l'=>Tl P r f R w0 S Y n k ops m hb q [] l' h) 0 m l):ab P r f R w0 S Y n (.code (.region id ops true)::k) l h:=by
 intro t w Ds hF hS
 have hf:=rC hc
 refine .i7 (fun τ=>?_)
 obtain ⟨D,V,hout,l',hF',htl⟩:=(hg t hF).seq
 simp only [Nat.zero_add] at hout
 simp only [Region.schedule,hmix,Bool.true_or,if_true,Region.linearise]
 have hDst:∀j,j<m→bj ops j=some (D j):=fun j hj=>by
  obtain ⟨o,h1,h2,_⟩:=hout j hj
  simp [bj,h1,h2]
 have hDlt:∀j,j<m→D j<t.size:=fun j hj=>by
  obtain ⟨o,_,_,h3,_⟩:=hout j hj
  rw [hF.1];exact h3
 have hmN:=hf.size
 have hDinj:∀i j,i<m→j<m→D i=D j→i=j:=fun i j hi hj e=>hf.inj i j (D i) hi (by omega) (hDst i hi) (by rw [hDst j hj,e])
 obtain ⟨g1,g2⟩:=jz hDlt hDinj m (Nat.le_refl _)
 have harr:∀j,(Array.replicate ops.size false).getD j false=false:=fun j=>by
  simp [Array.getD_eq_getD_getElem?,Array.getElem?_replicate];split<;>simp
 refine wc hf hF.1 hout ops.size τ _ [] q l' h t _ (by simp) (fun j hj=>?_) (fun j _=>?_) (by simp) hF' htl hsub hF.1 g1 (fun s hs=>?_) (fun s hs _=>?_) ?_ _ Ds hS.drew
 ·rw [harr] at hj;cases hj
 ·rw [harr];simp
 ·rw [g2 s (fun j hj=>hs j hj (harr j))]
 ·exact g2 s (fun j hj e=>hs j hj e)
 exact Nat.le_trans (List.countP_le_length) (by simp)
theorem dk.app {i d:Nat} {ty:TypeId} {pos:String} {aft:Array Edge} {g:Option (Nat×Bool)} {K:Value→Hl→Prop} {t e:TypeId} {x y:Operand} {inf:TypeInfo} {z:Value} {q:Option Nat} {xs sp:List Value} {nx cap:Nat} {bn m c:Nat} {news spn:List Value} {en:TypeId} {frn:Nat×Nat} (size:Nat)
  (ho:ops[i]?=some ⟨some d,.call ⟨.builtin .append,#[x,y],#[t,t]⟩,ty,pos,aft,g⟩) (hw:au ops l g=true) (hx:aU l x=some (cK q nx cap)) (hy:aU l y=some (.slice (some ⟨bn,0,none⟩) m c)) (hd:Nat.blt d n=true)
  (hu:P.underlying t=some (.slice e)) (hi:P.info? e=some inf) (hz:inf.zero=some z) (hsz:inf.size=size) (hz1:z.cells.size=size)
  (hq:q=none→nx=0∧cap=0) (j:Nat) (hj:h[j]?=some (q,.cells (xs++sp).toArray e (0,0))) (jn:Nat) (hjn:h[jn]?=some (some bn,.cells (news++spn).toArray en frn))
  (hnx:xs.length=nx*size) (ao:(xs++sp).length=cap*size) (hl:news.length=m*size) (hm0:0<m) (h1:∀u∈news,u.oneCell'=true) (hmx:nx+m≤maxLen) (hbytes:(nx+m)*inf.bytes≤140737488355328)
  (hk:∀b' sp' cap',(xs++news++sp').length=cap'*size→K (cK (some b') (nx+m) cap') (h.set j (some b',.cells (xs++news++sp').toArray e (0,0)))):dk P w0 S n h ops i l d K:=
 ⟨_,ho,rfl,rfl,rfl,hd,.inl ⟨hw,fun t' w Ds Y' hF hS=>.inl (by
  have hbn:=hS.get hjn
  have hnews:∀j u,news[j]?=some u→w.cell? ((⟨bn,0,none⟩:Addr).add j)=some u:=by
   intro j u hv
   have hjl:=(List.getElem?_eq_some_iff.1 hv).1
   have e1:(⟨bn,0,none⟩:Addr).add j=⟨bn,j,none⟩:=by unfold Addr.add;split;(rename_i h0;rw [h0]);simp
   rw [e1]
   rw [List.getElem?_eq_getElem hjl] at hv;cases hv
   simp [World.cell?,hbn,List.getElem?_append,hjl]
  obtain ⟨b',sp',cap',w',hrun,hlen,hS'⟩:=o7 hu hi hz hsz hz1 hS hnx ao hq hj (c:=c) hl hm0 hnews h1 hmx hbytes ty
  refine ⟨_,w',_,?_,hS',hk b' sp' cap' hlen⟩
  have e1:(#[x,y]:Array Operand).map (Act.eval ⟨t',Ds.map mark⟩)=#[cK q nx cap,.slice (some ⟨bn,0,none⟩) m c]:=by simp [hF.aU hx,hF.aU hy]
  simp only [execOp,resolve,e1,Sem.run_bind,Sem.run_pure,Result.andThen_ok,invoke,builtin,hrun])⟩⟩
end
end Go.Proofs.Wit
namespace Go.Proofs.Wit
open Go Go.RowKit
def cI (h:Hl):List Nat:=h.filterMap (·.1)
theorem gw {h:Hl} {b:Nat}:b∈cI h↔∃o,(some b,o)∈h:=by
 simp only [cI,List.mem_filterMap]
 constructor
 ·rintro ⟨⟨q,o⟩,h1,h2⟩;dsimp only at h2;subst h2;exact ⟨o,h1⟩
 rintro ⟨o,h1⟩;exact ⟨_,h1,rfl⟩
structure iB (w:World) (h:Hl):Prop where
  own:∀p∈h,∀b,p.1=some b→w.heap[b]?=some p.2∧ou p.2=false
  apart:h.Pairwise mn
theorem St.has {w0 w:World} {S:List Nat} {h:Hl} {Y:List (Nat×Obj)} (s:St w0 S w h Y):iB w h:=⟨fun p hp b hb=>⟨(s.own p hp b hb).1,(s.own p hp b hb).2.1⟩,s.apart⟩
theorem iB.st {w:World} {h:Hl} (g:iB w h):St w (cI h) w h []:=
 ⟨Ex.refl _ _,fun p hp b hb=>⟨(g.own p hp b hb).1,(g.own p hp b hb).2,.inr (gw.2 ⟨p.2,by rw [←hb];exact hp⟩)⟩,g.apart,(fun p hp=>by cases hp),List.nodup_nil⟩
theorem iB.sub {w:World} {h h':Hl} (g:iB w h) (hs:h'.Sublist h):iB w h':=⟨fun p hp=>g.own p (hs.subset hp),g.apart.sublist hs⟩
theorem St.frame {w0 w w':World} {S:List Nat} {h h' hF:Hl} {Y:List (Nat×Obj)} (s:St w0 S w (h++hF) Y) (g:St w (cI h) w' h' []):St w0 S w' (h'++hF) Y:=by
 have hown:∀b∈cI h,w0.heap.size≤b∨b∈S:=fun b hb=>by
  obtain ⟨o,ho⟩:=gw.1 hb
  exact (s.own _ (List.mem_append_left _ ho) b rfl).2.2
 have hap:=List.pairwise_append.1 s.apart
 have hkeep:∀b o,w.heap[b]?=some o→b∉cI h→w'.heap[b]?=some o:=fun b o ho hb=>by
  rw [g.ext.block b (Array.getElem?_eq_some_iff.1 ho).1 hb];exact ho
 have hsz:=g.ext.size
 have hsz0:=s.ext.size
 refine ⟨s.ext.trans g.ext (fun x hx=>(hown x hx).symm),fun p hp b hb=>?_,List.pairwise_append.2 ⟨g.apart,hap.2.1,fun p hp q hq b hb hqb=>?_⟩,fun p hp=>?_,s.v5⟩
 ·rcases List.mem_append.1 hp with hp|hp
  ·obtain ⟨h1,h2,h3⟩:=g.own p hp b hb
   refine ⟨h1,h2,?_⟩
   rcases h3 with h3|h3
   ·exact .inl (by omega)
   exact hown b h3
  ·obtain ⟨h1,h2,h3⟩:=s.own p (List.mem_append_right _ hp) b hb
   refine ⟨hkeep b _ h1 (fun hm=>?_),h2,h3⟩
   obtain ⟨o,ho⟩:=gw.1 hm
   exact hap.2.2 _ ho p hp b rfl hb
 ·obtain ⟨h1,h2,h3⟩:=g.own p hp b hb
  obtain ⟨k1,k2,k3⟩:=s.own q (List.mem_append_right _ hq) b hqb
  rcases h3 with h3|h3
  ·have:=(Array.getElem?_eq_some_iff.1 k1).1;omega
  obtain ⟨o,ho⟩:=gw.1 h3
  exact hap.2.2 _ ho q hq b rfl hqb
 obtain ⟨h1,h2,h3⟩:=s.sys p hp
 refine ⟨h1,hkeep p.1 _ h2 (fun hm=>?_),h3⟩
 obtain ⟨o,ho⟩:=gw.1 hm
 obtain ⟨k1,k2,_⟩:=s.own _ (List.mem_append_left _ ho) p.1 rfl
 rw [h2] at k1
 cases k1
 dsimp only at k2
 rw [h3] at k2;cases k2
def qv (P:Program) (gf:FuncId) (args:List Value) (w:World) (h:Hl) (Rc:Value→Hl→Prop):Prop:=
 Calls P gf args.toArray w fun e w'=>∃v h',e=.returned v∧Rc v h'∧St w (cI h) w' h' []
section
variable {P:Program} {r:Option Nat} {f:FuncId} {R:Value→World→Prop} {w0:World} {S:List Nat} {Y:List (Nat×Obj)} {n:Nat} {k:List Item} {l:Fl} {h:Hl} {ops:Array Oper} {i d:Nat} {rest:List Nat} {ty:TypeId} {pos:String} {aft:Array Edge} {g:Option (Nat×Bool)}
theorem qv.of {gf:FuncId} {fn:Func} {c:Code} {args:List Value} {w:World} {Rc:Value→Hl→Prop} (hh:iB w h) (hf:P.funcs[gf]?=some fn) (hb:fn.body=some c) (hn:Nat.ble args.length fn.ntmps=true)
  (hgo:ab P none gf (fun v w'=>∃h',Rc v h'∧St w (cI h) w' h' []) w (cI h) [] fn.ntmps [.code c] (sU 0 args) h):qv P gf args w h Rc:=by
 unfold qv
 refine Calls.mono (tP hf hb hn h hh.st hgo) ?_
 rintro e w' ⟨v,rfl,h',h1,h2⟩
 exact ⟨v,h',rfl,h1,h2⟩
theorem ab.iG {hF:Hl} {az:Array Operand} {ts:Array TypeId} {cal:Operand} {gf:FuncId} {fs cs vs:List Value} (Rc:World→Value→Hl→Prop) (ho:ops[i]?=some ⟨some d,.call ⟨.value cal,az,ts⟩,ty,pos,aft,g⟩) (hw:au ops l g=true)
  (hc:aU l cal=some (.func (.func gf) fs.toArray cs.toArray)) (hx:dq l az.toList=some vs) (hd:Nat.blt d n=true) (hcf:∀args w,(callFunc gf args).run P w=.ok (.enter gf args) w)
  (hcall:∀w Y',St w0 S w (h++hF) Y'→qv P gf (fs++vs++cs) w h (Rc w))
  (hk:∀w v h',Rc w v h'→ab P r f R w0 S Y n (.inRegion ops rest::k) ((d,v)::l) (h'++hF)):ab P r f R w0 S Y n (.inRegion ops (i::rest)::k) l (h++hF):=
 .vV ho hw hc hx hd hcf (fun w Y' hS=>⟨fun v w'=>∃h',Rc w v h'∧St w (cI h) w' h' [],by
  have:=hcall w Y' hS
  unfold qv at this
  simp only [List.append_toArray]
  exact Calls.mono this (fun e w' ⟨v,h',e1,e2,e3⟩=>⟨v,e1,h',e2,e3⟩),fun v w' ⟨h',h1,h2⟩=>⟨h'++hF,hS.frame h2,hk w v h' h1⟩⟩)
end
end Go.Proofs.Wit
