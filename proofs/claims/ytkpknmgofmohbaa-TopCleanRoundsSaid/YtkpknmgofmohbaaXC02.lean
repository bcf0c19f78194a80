/- Laws of walks, for any program, under the conditions that each theorem states. -/
import Derived.Test.YtkpknmgofmohbaaXC01
namespace Go.Proofs.Wit
open Go Go.RowKit
def oD (n:Nat):au:=if 64≤n then 18446744073709551615#64 else (1#64<<<n) - 1#64
def Rl (r:List au) (w v:Nat):Prop:=(r.getD w 0#64).getLsbD v=true
structure lX (r:List au):Prop where
  len:r.length≤64
  lt:∀w v,Rl r w v→v<r.length
def kL (r:List au) (s:au):au:=(bK s).foldl (fun o w=>o|||r.getD w 0#64) 0#64
def ub (w:Nat) (s:au) (out:List au):List au:=(bK s).foldl (fun out v=>out.set v (out.getD v 0#64|||1#64<<<w)) out
def uc (r:List au):List au:=jx (fun w out=>ub w (r.getD w 0#64) out) (List.replicate r.length 0#64) r.length
end Go.Proofs.Wit
namespace Go.Proofs.Wit
end Go.Proofs.Wit
namespace Go.Proofs.Wit
open Go Go.RowKit
structure Le (r s:List au):Prop where
  len:r.length=s.length
  sub:∀u v,Rl r u v→Rl s u v
structure vk (g:List au→List au) (F:List au→Prop):Prop where
  val:∀{l},lX l→lX (g l)
  vM:∀{l},lX l→Le l (g l)
  mono:∀{l m},lX l→lX m→Le l m→Le (g l) (g m)
  fix:∀{l},lX l→(g l=l↔F l)
structure tH (F:List au→Prop) (r out:List au):Prop where
  val:lX out
  le:Le r out
  has:F out
  least:∀c,lX c→Le r c→F c→Le out c
def qh (l:List au):Prop:=∀w,w<l.length→Rl l w w
def lu (l:List au):Prop:=∀u v x,Rl l u v→Rl l v x→Rl l u x
def oc (l:List au):Prop:=∀u v x,Rl l u v→Rl l u x→Rl l v x
end Go.Proofs.Wit
namespace Go.Proofs.Wit
end Go.Proofs.Wit
namespace Go.Proofs.Wit
open Go Go.RowKit
/-- a callee that turns the block q at most -/
def wx (P:Program) (gf:FuncId) (args:List Value) (w:World) (q:Option Nat) (Rc:Value→World→Prop):Prop:=
 Calls P gf args.toArray w fun e w'=>∃v,e=.returned v∧Ex q.toList w w'∧Rc v w'
section
variable {w0 w w':World} {S:List Nat} {h:Hl} {Y:List (Nat×Obj)}
variable {P:Program} {f:FuncId} {R:Value→World→Prop} {r:Option Nat} {n:Nat} {k:List Item} {l:Fl} {fn:Func}
variable {ops:Array Oper} {i d:Nat} {rest:List Nat} {ty:TypeId} {pos:String} {aft:Array Edge} {g:Option (Nat×Bool)}
end
end Go.Proofs.Wit
namespace Go.Proofs.Wit
open Go Go.RowKit
section
variable {P:Program} {r:Option Nat} {f:FuncId} {R:Value→World→Prop} {w0:World} {S:List Nat} {Y:List (Nat×Obj)} {n:Nat} {k:List Item} {l:Fl} {h:Hl}
variable {ops:Array Oper} {i d:Nat} {rest:List Nat} {ty:TypeId} {pos:String} {aft:Array Edge} {g:Option (Nat×Bool)}
end
end Go.Proofs.Wit
namespace Go.Proofs.Wit
open Go Go.RowKit
theorem aa.cw {P:Program} {r:Option Nat} {f:FuncId} {R:Value→World→Prop} {w0:World} {S:List Nat} {Y:List (Nat×Obj)} {n:Nat} {k:List Item} {l:Fl} {h:Hl} (o:Obj)
  (hg:aa P r f R w0 S Y n k l ((none,o)::h)):aa P r f R w0 S Y n k l h:=fun t w Ds hF hS=>hg t w Ds hF (hS.none o)
end Go.Proofs.Wit
namespace Go.Proofs.Wit
open Go Go.RowKit
section
variable {P:Program} {r:Option Nat} {f:FuncId} {R:Value→World→Prop} {w0:World} {S:List Nat} {Y:List (Nat×Obj)} {n:Nat} {k:List Item} {l:Fl} {h:Hl}
variable {ops:Array Oper} {i d:Nat} {rest:List Nat} {ty:TypeId} {pos:String} {aft:Array Edge} {g:Option (Nat×Bool)}
end
section
variable {P:Program} {t:TypeId} {a b:Int} {x y:au} {v:Bool}
theorem iu {k:IntKind} (e:(a==b)=v):dF P .eql t (.int k a) (.int k b) (.bool v):=e ▸ dU
theorem jl {k:IntKind} (e:(a !=b)=v):dF P .neq t (.int k a) (.int k b) (.bool v):=e ▸ eV
theorem oB {k:IntKind} (e:decide (a<b)=v):dF P .lss t (.int k a) (.int k b) (.bool v):=e ▸ db
theorem kf {k:IntKind} (e:decide (a>b)=v):dF P .gtr t (.int k a) (.int k b) (.bool v):=e ▸ qz
theorem tq (e:(x==y)=v):dF P .eql t (U x) (U y) (.bool v):=e ▸ uI
theorem qy (e:(x !=y)=v):dF P .neq t (U x) (U y) (.bool v):=e ▸ uG
end
end Go.Proofs.Wit
namespace Go.Proofs.Wit
open Go Go.RowKit
/-- the points from which k steps lead to a point of t -/
def q5 (r:List au) (t:au):Nat→au
 |0=>t
 |k+1=>kL (uc r) (q5 r t k)
structure vf (r:List au) (f t:au) (k:Nat):Prop where
  one:1≤k
  ne:f &&& q5 r t k≠0#64
  least:∀j,1≤j→j<k→f &&& q5 r t j=0#64
section
variable {r:List au} {t:au}
end
theorem eA {α:Type} {p q:α→Bool}:∀{l:List α},(∀x∈l,p x=true→q x=true)→(∃x∈l,q x=true∧p x=false)→l.countP p<l.countP q
 |[],_,⟨_,h,_⟩=>by cases h
 |a::l,h,⟨x,hx,h1,h2⟩=>by
  have hle:l.countP p≤l.countP q:=List.countP_mono_left (fun y hy=>h y (List.mem_cons_of_mem _ hy))
  rw [List.countP_cons,List.countP_cons]
  rcases List.mem_cons.1 hx with rfl|hx
  ·rw [h1,h2];simp;omega
  have:=eA (fun y hy=>h y (List.mem_cons_of_mem _ hy)) ⟨x,hx,h1,h2⟩
  have h3:=h a (List.mem_cons_self ..)
  cases hp:p a with
  |false=>simp;split<;>omega
  |true=>rw [h3 hp];omega
end Go.Proofs.Wit
namespace Go.Proofs.Wit
open Go Go.RowKit
/-- blocks that are new since w, as they lie in w' -/
structure c3 (w w':World) (H:Hl):Prop where
  own:∀p∈H,∀b,p.1=some b→w'.heap[b]?=some p.2∧fY p.2=false∧w.heap.size≤b
  apart:H.Pairwise fS
theorem c3.of {w w':World} {h:Hl} {Y:List (Nat×Obj)} (s:St w [] w' h Y):c3 w w' h:=
 ⟨fun p hp b hb=>by
  obtain ⟨h1,h2,h3⟩:=s.own p hp b hb
  exact ⟨h1,h2,h3.resolve_right (by simp)⟩,s.apart⟩
theorem St.lK {w0 w w':World} {S:List Nat} {h:Hl} {Y:List (Nat×Obj)} (s:St w0 S w h Y) (e:Ex [] w w') {H:Hl} (g:c3 w w' H):St w0 S w' (H++h) Y:=by
 have s':=s.later e
 refine ⟨s'.ext,fun p hp b hb=>?_,List.pairwise_append.2 ⟨g.apart,s.apart,fun p hp q hq b hb hqb=>?_⟩,s'.sys,s'.mP⟩
 ·rcases List.mem_append.1 hp with hp|hp
  ·obtain ⟨h1,h2,h3⟩:=g.own p hp b hb
   exact ⟨h1,h2,.inl (Nat.le_trans s.ext.size h3)⟩
  ·exact s'.own p hp b hb
 have h1:=(g.own p hp b hb).2.2
 have h2:=(Array.getElem?_eq_some_iff.1 (s.own q hq b hqb).1).1
 omega
theorem St.c7 {w0 w:World} {S:List Nat} {pre pre' HR:Hl} {Y:List (Nat×Obj)} (s:St w0 S w (pre++HR) Y) (is:List Nat) (hn:is.Nodup) (e:is.map (fun i=>pre[i]?)=pre'.map some):St w0 S w (pre'++HR) Y:=by
 have hlen:is.length=pre'.length:=by have:=congrArg List.length e;simpa using this
 have hat:∀j (hj:j<pre'.length),∃i,is[j]?=some i∧pre[i]?=some pre'[j]:=fun j hj=>by
  have h1:=congrArg (fun l=>l[j]?) e
  have hj2:j<is.length:=by omega
  simp only [List.getElem?_map,List.getElem?_eq_getElem hj,List.getElem?_eq_getElem hj2,Option.map_some,Option.some.injEq] at h1
  exact ⟨is[j],List.getElem?_eq_getElem hj2,h1⟩
 have hmem:∀p∈pre',p∈pre:=fun p hp=>by
  obtain ⟨j,hj,rfl⟩:=List.mem_iff_getElem.1 hp
  obtain ⟨i,_,h2⟩:=hat j hj
  exact List.mem_of_getElem? h2
 have hap:=List.pairwise_append.1 s.apart
 refine ⟨s.ext,fun p hp=>?_,List.pairwise_append.2 ⟨?_,hap.2.1,fun p hp q hq=>hap.2.2 p (hmem p hp) q hq⟩,s.sys,s.mP⟩
 ·rcases List.mem_append.1 hp with hp|hp
  ·exact s.own p (List.mem_append_left _ (hmem p hp))
  ·exact s.own p (List.mem_append_right _ hp)
 rw [List.pairwise_iff_getElem]
 intro j j' hj hj' hlt
 obtain ⟨i,h1,h2⟩:=hat j hj
 obtain ⟨i',h1',h2'⟩:=hat j' hj'
 have hne:i≠i':=by
  rintro rfl
  obtain ⟨a1,a2⟩:=List.getElem?_eq_some_iff.1 h1
  obtain ⟨b1,b2⟩:=List.getElem?_eq_some_iff.1 h1'
  have:=(List.nodup_iff_pairwise_ne.1 hn)
  exact absurd (a2.trans b2.symm) (List.pairwise_iff_getElem.1 this j j' a1 b1 hlt)
 obtain ⟨a1,a2⟩:=List.getElem?_eq_some_iff.1 h2
 obtain ⟨b1,b2⟩:=List.getElem?_eq_some_iff.1 h2'
 rw [←a2,←b2]
 rcases Nat.lt_or_gt_of_ne hne with hx|hx
 ·exact List.pairwise_iff_getElem.1 hap.1 i i' a1 b1 hx
 exact gh (List.pairwise_iff_getElem.1 hap.1 i' i b1 a1 hx)
theorem aa.c7 {P:Program} {r:Option Nat} {f:FuncId} {R:Value→World→Prop} {w0:World} {S:List Nat} {Y:List (Nat×Obj)} {n:Nat} {k:List Item} {l:Fl} {pre pre':Hl} (HR:Hl) (is:List Nat) (hn:is.Nodup) (e:is.map (fun i=>pre[i]?)=pre'.map some)
  (hg:aa P r f R w0 S Y n k l (pre'++HR)):aa P r f R w0 S Y n k l (pre++HR):=fun t w Ds hF hS=>hg t w Ds hF (hS.c7 is hn e)
theorem aa.pick {P:Program} {r:Option Nat} {f:FuncId} {R:Value→World→Prop} {w0:World} {S:List Nat} {Y:List (Nat×Obj)} {n:Nat} {k:List Item} {l:Fl} {pre pre':Hl} (is:List Nat) (hn:is.Nodup) (e:is.map (fun i=>pre[i]?)=pre'.map some)
  (hg:aa P r f R w0 S Y n k l pre'):aa P r f R w0 S Y n k l pre:=by
 have:=aa.c7 (pre:=pre) (pre':=pre') [] is hn e (by rw [List.append_nil];exact hg)
 rwa [List.append_nil] at this
def tT {α:Type} (enc:α→Value) (H:Hl) (a:Option Addr) (xs:List α):Prop:=
 xs=[]∨∃b e sp,a=some ⟨b,0,none⟩∧(some b,ob enc e xs sp)∈H
structure Row where
  a:Option Addr
  cap:Nat
  xs:List au
def Row.v (r:Row):Value:=.slice r.a r.xs.length r.cap
structure Row.At (r:Row) (w:World):Prop where
  at_:qE w r.a r.xs
  len:r.xs.length≤maxLen
  cap:r.xs.length≤r.cap
structure MV where
  n:Int
  ra:Option Addr
  rc:Nat
  rows:List Row
  va:Option Addr
  vc:Nat
  val:List au
abbrev MV.cs (m:MV):Array Value:=#[.int .i64 m.n,.slice m.va m.val.length m.vc,.slice m.ra m.rows.length m.rc]
def MV.v (m:MV):Value:=.agg #[.int .i64 m.n,.slice m.va m.val.length m.vc,.slice m.ra m.rows.length m.rc]
def MV.rel (m:MV):List (List au):=m.rows.map Row.xs
def vZ (w:World) (a:Option Addr) (rs:List Row):Prop:=Sl w a (rs.map Row.v)
structure MV.At (m:MV) (w:World):Prop where
  rel:vZ w m.ra m.rows
  row:∀r∈m.rows,r.At w
  val:qE w m.va m.val
  lr:m.rows.length≤maxLen
  lv:m.val.length≤maxLen
  cr:m.rows.length≤m.rc
  cv:m.val.length≤m.vc
theorem Sl.at {α:Type} {enc:α→Value} {w:World} {a:Option Addr} {xs:List α} (h:Sl w a (xs.map enc)) (k:Nat) (hk:k<xs.length):w.cell? (dk a k)=some (enc xs[k]):=by
 rw [Sl.cell h k (by simpa using hk)]
 simp [List.getD_eq_getElem?_getD,hk]
theorem Ex.jS {w w':World} (e:Ex [] w w') {b:Nat} {o:Obj} (h:w.heap[b]?=some o):w'.heap[b]?=some o:=by
 rw [e.block b (Array.getElem?_eq_some_iff.1 h).1 (by simp)];exact h
theorem Ex.cell {w w':World} (e:Ex [] w w') {b j:Nat} {cs:Array Value} {t:TypeId} {fr:Nat×Nat} {v:Value} (h:w.heap[b]?=some (.cells cs t fr)) (hv:cs[j]?=some v):w'.cell? ⟨b,j,none⟩=some v:=by
 rw [cell_of_row w' b j cs t fr (e.jS h),hv]
abbrev dP:Int→Value:=Value.int .i64
def ki (w:World) (a:Option Addr) (xs:List Int):Prop:=Sl w a (xs.map dP)
theorem ki.a8 {w0 w:World} {a:Option Addr} {xs:List Int} (h:ki w0 a xs) {S:List Nat} (e:Ex S w0 w) (hS:∀b o,a=some ⟨b,o,none⟩→b∉S:=by simp):ki w a xs:=Sl.ex h e hS
theorem ki.at {w:World} {a:Option Addr} {xs:List Int} (h:ki w a xs) (k:Nat) (hk:k<xs.length):w.cell? (dk a k)=some (.int .i64 xs[k]):=Sl.at h k hk
def lk {α:Type} (enc:α→Value) (e:TypeId) (w w':World) (v:Value) (xs:List α):Prop:=
 ∃q cap sp,v=aU q xs.length cap∧(q=none→xs.length=0∧cap=0)∧(xs.map enc++sp).length=cap∧∀b,q=some b→w.heap.size≤b∧w'.heap[b]?=some (ob enc e xs sp)
theorem qt {α:Type} {enc:α→Value} {t:TypeId} {w0 w w':World} {S:List Nat} {h:Hl} {Y:List (Nat×Obj)} (s:St w0 S w h Y) (e:Ex [] w w') {v:Value} {xs:List α} (ho:lk enc t w w' v xs):
  ∃q cap sp,v=aU q xs.length cap∧(q=none→xs.length=0∧cap=0)∧(xs.map enc++sp).length=cap∧St w0 S w' ((q,ob enc t xs sp)::h) Y:=by
 obtain ⟨q,cap,sp,h1,h2,h3,h4⟩:=ho
 refine ⟨q,cap,sp,h1,h2,h3,?_⟩
 cases q with
 |none=>exact (s.later e).none _
 |some b=>exact s.kS e (h4 b rfl).2 rfl (h4 b rfl).1
theorem lk.mk {α:Type} {enc:α→Value} {t:TypeId} {w0 w:World} {h:Hl} {Y:List (Nat×Obj)} (s:St w0 [] w h Y) (j:Nat) {q:Option Nat} {xs:List α} {sp:List Value} {cap m:Nat} (hj:h[j]?=some (q,ob enc t xs sp)) (hm:m=xs.length)
  (hq:q=none→xs.length=0∧cap=0) (hcap:(xs.map enc++sp).length=cap):lk enc t w0 w (aU q m cap) xs:=by
 subst hm
 refine ⟨q,cap,sp,rfl,hq,hcap,fun b hb=>?_⟩
 subst hb
 exact ⟨s.fresh hj,s.get hj⟩
structure MV.In (m:MV) (H:Hl):Prop where
  rel:tT Row.v H m.ra m.rows
  row:∀r∈m.rows,tT U H r.a r.xs∧r.xs.length≤maxLen∧r.xs.length≤r.cap
  val:tT U H m.va m.val
  lr:m.rows.length≤maxLen
  lv:m.val.length≤maxLen
  cr:m.rows.length≤m.rc
  cv:m.val.length≤m.vc
end Go.Proofs.Wit
namespace Go.Proofs.Wit
open Go Go.RowKit
end Go.Proofs.Wit
namespace Go.Proofs.Wit
def qW (e:Bool) (w u:Nat):Nat:=if e=true then u else w
def ph (e:Bool) (w u:Nat):Nat:=if e=true then w else u
def vR (e:Bool) (w u:Nat) (l:List au):Prop:=Rl l w u→∀x,Rl l (ph e w u) x→Rl l (qW e w u) x
def uM (e:Bool) (l:List au):Prop:=if e=true then oc l else lu l
structure Pass (e:Bool) (r o0 out:List au) (again:Bool) (k j:Nat):Prop where
  val:lX out
  le:Le r out
  min:∀c,lX c→Le r c→uM e c→Le out c
  up:Le o0 out
  yes:again=true→o0≠out
  no:again=false→out=o0∧∀w u,(w<k∨(w=k∧u<j))→vR e w u out
end Go.Proofs.Wit
namespace Go.Proofs.Wit
end Go.Proofs.Wit
namespace Go.Proofs.Wit
open Go Go.RowKit
def qX (n:Nat) (l:List au):Bool:=l.any (fun s=>s &&& ~~~ oD n !=0#64)
def om (n:Int) (val:List au) (rel:List (List au)):Int:=
 if n<1∨64<n then 2 else if 4<rel.length∨8<val.length then 8 else if rel.any (fun r=>(r.length:Int) !=n) then 3 else if qX n.toNat val||rel.any (qX n.toNat) then 2 else 0
structure tz (n:Int) (val:List au) (rel:List (List au)):Prop where
  n1:1≤n
  vE:n≤64
  uN:rel.length≤4
  facts:val.length≤8
  len:∀r∈rel,(r.length:Int)=n
  gp:∀r∈rel,lX r
  out:qX n.toNat val=false
def nm (l:Int):List Int:=if l=1 then [1] else if l=2 then [2] else if l=3 then [4] else if l=4 then [2,4] else if l=5 then [1,4,5] else if l=6 then [2,4,5] else []
end Go.Proofs.Wit
namespace Go.Proofs.Wit
open Go Go.RowKit
end Go.Proofs.Wit
namespace Go.Proofs.Wit
open Go Go.RowKit
def qv (ps:List Int) (l:List au):Prop:=(2∈ps→qh l)∧(4∈ps→lu l)∧(5∈ps→oc l)
def ua (ps:List Int) (w:Nat) (l:List au):List au:=if 1∈ps∧l.getD w 0#64=0#64 then l.set w (1#64<<<w) else l
def tZ (ps:List Int) (l:List au):List au:=jx (ua ps) l l.length
end Go.Proofs.Wit
namespace Go.Proofs.Wit
open Go Go.RowKit
end Go.Proofs.Wit
namespace Go.Proofs.Wit
open Go Go.RowKit
section
variable {P:Program} {r:Option Nat} {f:FuncId} {R:Value→World→Prop} {w0:World} {S:List Nat} {Y:List (Nat×Obj)} {n:Nat} {k:List Item} {l:Fl} {h:Hl}
variable {ops:Array Oper} {i d:Nat} {rest:List Nat} {ty:TypeId} {pos:String} {aft:Array Edge} {g:Option (Nat×Bool)}
theorem eo (b o q:Nat):(⟨b,o,none⟩:Addr).add q=⟨b,o+q,none⟩:=by
 unfold Addr.add;split
 ·rename_i h0;subst h0;rfl
 rfl
theorem jr (a:Option Addr) (i q:Nat):(dk a i).add q=dk a (i+q):=by
 unfold dk;rw [eo,Nat.add_assoc]
theorem ah.mr {s:TypeId} {x:Operand} {b o q:Nat} {fs:Array Field} {fd:Field} {sz:Nat} (ho:ops[i]?=some ⟨some d,.fieldAddr s x q,ty,pos,aft,g⟩) (hw:al ops l g=true)
  (hx:aA l x=some (.pointer (some ⟨b,o,none⟩))) (hd:Nat.blt d n=true) (hu:P.underlying s=some (.struct fs)) (hq:fs[q]?=some fd) (he:∀w,(sizeOf fd.type).run P w=.ok (sz+1) w) (o':Nat) (hO:o+fd.offset=o'):
  ah P w0 S n h ops i l d (.pointer (some ⟨b,o',none⟩)):=by
 subst hO
 exact .of ho hw rfl rfl hd (fun t w Ds _ hF hS=>⟨.value (.pointer (some ⟨b,o+fd.offset,none⟩)),by
  simp only [execOp,hF.aA hx,Instr.fieldAt,Sem.run_bind,run_underlying hu,Result.andThen_ok,hq,Instr.sureAddr,Sem.run_pure,fieldPlace,he]
  rw [if_neg (by omega)]
  simp [eo],rfl⟩)
theorem fX {t:TypeId} {w:World} {a:Addr} {cs:List Value} (ha:∀w,(isAgg t).run P w=.ok true w) (hz:∀w,(sizeOf t).run P w=.ok cs.length w) (hc:∀j v,cs[j]?=some v→w.cell? (a.add j)=some v):
  (Instr.loadAt t (.pointer (some a))).run P w=.ok (.agg cs.toArray) w:=by
 simp only [Instr.loadAt,Instr.sureAddr,loadVar,Sem.run_bind,Sem.run_pure,Result.andThen_ok,ha,hz,if_true,run_loadCells_list w a cs hc]
theorem ah.ko {t:TypeId} {x:Operand} {p:Addr} {cs:List Value} (ho:ops[i]?=some ⟨some d,.load t x,ty,pos,aft,g⟩) (hw:al ops l g=true)
  (hx:aA l x=some (.pointer (some p))) (hd:Nat.blt d n=true) (ha:∀w,(isAgg t).run P w=.ok true w) (hz:∀w,(sizeOf t).run P w=.ok cs.length w) (hc:∀w Y',St w0 S w h Y'→∀j v,cs[j]?=some v→w.cell? (p.add j)=some v):ah P w0 S n h ops i l d (.agg cs.toArray):=
 .of ho hw rfl rfl hd (fun t w Ds _ hF hS=>⟨.value (.agg cs.toArray),by
  simp only [execOp,hF.aA hx,Sem.run_bind,fX ha hz (hc w _ hS)];rfl,rfl⟩)
theorem ah.eR {t:TypeId} {x:Operand} {b:Nat} {cs:Array Value} {e:TypeId} {fr:Nat×Nat} {m:Nat} (ho:ops[i]?=some ⟨some d,.load t x,ty,pos,aft,g⟩) (hw:al ops l g=true)
  (hx:aA l x=some (.pointer (some ⟨b,0,none⟩))) (hd:Nat.blt d n=true) (ha:∀w,(isAgg t).run P w=.ok true w) (j:Nat) (hj:h[j]?=some (some b,.cells cs e fr)) (hz:∀w,(sizeOf t).run P w=.ok m w) (hm:cs.size=m):ah P w0 S n h ops i l d (.agg cs):=by
 subst hm
 have:=ah.ko (P:=P) (w0:=w0) (S:=S) (h:=h) (cs:=cs.toList) ho hw hx hd ha (fun w=>by rw [hz];simp) (fun w Y' hS q v hv=>by
  rw [eo,Nat.zero_add]
  simp [World.cell?,hS.get hj] at hv⊢
  exact hv)
 rw [Array.toArray_toList] at this
 exact this
theorem aa.bV {t:TypeId} {x y:Operand} {b:Nat} {cs:Array Value} {e:TypeId} {v:Value} {m:Nat} (ho:ops[i]?=some ⟨none,.store t x y,ty,pos,aft,g⟩) (hw:al ops l g=true)
  (hx:aA l x=some (.pointer (some ⟨b,0,none⟩))) (hy:aA l y=some v) (hz:∀w,(sizeOf t).run P w=.ok m w) (j:Nat) (hj:h[j]?=some (some b,.cells cs e (0,0))) (hm:cs.size=m) (hv:v.cells.size=m) (h1:v.cells.toList.all Value.oneCell'=true)
  (hk:aa P r f R w0 S Y n (.inRegion ops rest::k) l (h.set j (some b,.cells v.cells e (0,0)))):aa P r f R w0 S Y n (.inRegion ops (i::rest)::k) l h:=
 .tP ho hw rfl rfl (fun t' w Ds _ hF hS=>by
  have hb:=hS.get hj
  have hrun:=run_storeCells_at (P:=P) b 0 e v.cells.toList 0 cs w hb (by simp;omega) (fun u hu=>List.all_eq_true.1 h1 u hu)
  have hrow:(cs.toList.take (0+0)++v.cells.toList++cs.toList.drop (0+0+v.cells.toList.length)).toArray=v.cells:=by
   rw [←Array.toList_inj]
   simp
   omega
  rw [hrow] at hrun
  refine ⟨w.setRow b v.cells,_,?_,hS.gk hj (o':=.cells v.cells e (0,0)) rfl rfl rfl rfl (by simp [World.setRow]) (setRow_heap w b _ _ e _ hb) (fun q _ hq=>setRow_other w b q _ hq),hk⟩
  simp only [execOp,hF.aA hx,hF.aA hy,Sem.run_bind,Instr.storeAt,Instr.sureAddr,storeVar,Sem.run_pure,Result.andThen_ok,hz,hv]
  simp only [ne_eq,not_true_eq_false,if_false,hrun];rfl)

def setAt (cells:List Value) (off:Nat) (vs:List Value):List Value:=cells.take off++vs++cells.drop (off+vs.length)
def g8 (place:Nat→Option (Nat×Nat)) (cells:List Value):List (Nat×Value)→Option (List Value)
 |[]=>some cells
 |(i,v)::rest=>match place i with
  |none=>none
  |some (off,size)=>match Nat.beq v.cells.toList.length size && Nat.ble (off+size) cells.length with
   |true=>g8 place (setAt cells off v.cells.toList) rest
   |false=>none
theorem iI:∀(vs:List Value) (cs:List Value) (off j:Nat),off+j+vs.length≤cs.length→
  (vs.zipIdx j).foldl (fun (cs:Array Value) (c:Value×Nat)=>cs.setIfInBounds (off+c.2) c.1) cs.toArray=(setAt cs (off+j) vs).toArray
 |[],cs,off,j,_=>by simp [setAt]
 |v::vs,cs,off,j,hl=>by
  simp only [List.length_cons] at hl
  rw [List.zipIdx_cons,List.foldl_cons]
  have h1:cs.toArray.setIfInBounds (off+j) v=(cs.set (off+j) v).toArray:=by simp
  rw [h1,iI vs (cs.set (off+j) v) off (j+1) (by simp;omega)]
  congr 1
  have hlt:off+j<cs.length:=by omega
  have hset:cs.set (off+j) v=cs.take (off+j)++v::cs.drop (off+j+1):=by
   rw [List.set_eq_take_append_cons_drop,if_pos hlt]
  have hlen:(cs.take (off+j)).length=off+j:=by simp;omega
  have t1:(cs.set (off+j) v).take (off+(j+1))=cs.take (off+j)++[v]:=by
   rw [hset,List.take_append,List.take_of_length_le (by omega),hlen,show off+(j+1) - (off+j)=1 from by omega];simp
  have t2:(cs.set (off+j) v).drop (off+(j+1)+vs.length)=cs.drop (off+j+(vs.length+1)):=by
   rw [hset,List.drop_append,List.drop_eq_nil_of_le (by omega),hlen,show off+(j+1)+vs.length - (off+j)=vs.length+1 from by omega]
   simp [Nat.add_assoc,Nat.add_comm 1]
  unfold setAt
  rw [t1,t2];simp
theorem fill_eq {place:Nat→Option (Nat×Nat)}:∀{ps:List (Nat×Value)} {cells c:List Value},g8 place cells ps=some c→Instr.fill place cells.toArray ps=some c.toArray
 |[],cells,c,e=>by cases e;rfl
 |(i,v)::rest,cells,c,e=>by
  unfold g8 at e
  unfold Instr.fill
  split at e
  ·cases e
  rename_i off size hp
  rw [hp]
  split at e
  ·rename_i hb
   rw [Bool.and_eq_true,Nat.beq_eq,Nat.ble_eq] at hb
   obtain ⟨h1,h2⟩:=hb
   rw [Array.length_toList] at h1
   simp only
   rw [if_neg (by simp;omega)]
   have h3:=iI v.cells.toList cells off 0 (by simp;omega)
   rw [Nat.add_zero] at h3
   have h4:v.cells.zipIdx.foldl (fun cs (x:Value×Nat)=>cs.setIfInBounds (off+x.2) x.1) cells.toArray=(setAt cells off v.cells.toList).toArray:=by
    rw [←h3,←Array.foldl_toList];simp
   rw [h4]
   exact fill_eq e
  cases e
def qD (P:Program):List Field→List Nat→Prop
 |[],[]=>True
 |f::fs,s::ss=>(∀w,(sizeOf f.type).run P w=.ok s w)∧qD P fs ss
 |_,_=>False
theorem qD.nil:qD P [] []:=trivial
theorem qD.cons {f:Field} {fs:List Field} {s:Nat} {ss:List Nat} (h:∀w,(sizeOf f.type).run P w=.ok s w) (hs:qD P fs ss):qD P (f::fs) (s::ss):=⟨h,hs⟩
theorem lx:∀{fs:List Field} {ss:List Nat},qD P fs ss→∀w,(fs.mapM (m:=Sem) fun f=>do pure (f.offset,←sizeOf f.type)).run P w=.ok ((fs.zip ss).map fun x=>(x.1.offset,x.2)) w
 |[],[],_,w=>rfl
 |f::fs,s::ss,hs,w=>by
  rw [List.mapM_cons]
  simp only [Sem.run_bind,Sem.run_pure,Result.andThen_ok,hs.1,lx hs.2];rfl
 |[],_::_,hs,_=>hs.elim
 |_::_,[],hs,_=>hs.elim
def vn (P:Program) (t:TypeId) (ps:List (Nat×Value)) (v:Value):Prop:=∀w,(Instr.build t ps.toArray).run P w=.ok v w
theorem eM {t:TypeId} {fs:Array Field} {ss:List Nat} {z:Value} {ps:List (Nat×Value)} {c:List Value} (hu:P.underlying t=some (.struct fs)) (hs:qD P fs.toList ss) (hz:∀w,(zeroValue t).run P w=.ok z w)
  (hf:g8 (fun i=>((fs.toList.zip ss)[i]?).map fun x=>(x.1.offset,x.2)) z.cells.toList ps=some c):vn P t ps (.agg c.toArray):=by
 intro w
 have h1:=fill_eq hf
 rw [Array.toArray_toList] at h1
 simp only [Instr.build,Sem.run_bind,hz,Result.andThen_ok,run_underlying hu]
 rw [Array.mapM_eq_mapM_toList]
 simp only [Sem.run_map,lx hs]
 have h2:(fun (i:Nat)=>(List.map (fun x=>(x.1.offset,x.2)) (fs.toList.zip ss)).toArray[i]?)=fun i=>((fs.toList.zip ss)[i]?).map fun x=>(x.1.offset,x.2):=by
  funext i;simp
 show ((match Instr.fill (fun (i:Nat)=>(List.map (fun x=>(x.1.offset,x.2)) (fs.toList.zip ss)).toArray[i]?) z.cells ps with
  |some cells=>pure (.agg cells)
  | _ => stuck "build: no such field, or a part of the wrong size" : Sem Value)).run P w = _
 rw [h2,h1];rfl
def eO (l:Fl):List (Nat×Operand)→Option (List (Nat×Value))
 |[]=>some []
 |(q,x)::xs=>match Wit.aA l x,eO l xs with
  |some v,some vs=>some ((q,v)::vs)
  |_,_=>none
theorem du.parts {t:Array Value} (hF:du n t l) (ds:List Deferred):∀{xs:List (Nat×Operand)} {vs:List (Nat×Value)},eO l xs=some vs→xs.map (fun x=>(x.1,Act.eval ⟨t,ds⟩ x.2))=vs
 |[],vs,e=>by cases e;rfl
 |(q,x)::xs,vs,e=>by
  simp only [eO] at e
  split at e
  ·rename_i v us hx hxs
   cases e
   rw [List.map_cons,hF.aA hx,hF.parts ds hxs]
  cases e
theorem ah.eM {t:TypeId} {az:Array (Nat×Operand)} {ps:List (Nat×Value)} {v:Value} (ho:ops[i]?=some ⟨some d,.build t az,ty,pos,aft,g⟩) (hw:al ops l g=true) (hx:eO l az.toList=some ps) (hd:Nat.blt d n=true) (hb:vn P t ps v):
  ah P w0 S n h ops i l d v:=
 .of ho hw rfl rfl hd (fun t w Ds _ hF hS=>⟨.value v,by
  have e1:az.map (fun (x:Nat×Operand)=>(x.1,Act.eval ⟨t,Ds.map mark⟩ x.2))=ps.toArray:=by rw [←Array.toList_inj];simp [hF.parts (Ds.map mark) hx]
  have:=hb w
  rw [←e1] at this
  simp only [execOp,Sem.run_bind]
  refine (congrArg (fun x=>Result.andThen x _) this).trans ?_
  rfl,rfl⟩)
theorem lV {t e:TypeId} {len:Nat} {az:Array (Nat×Operand)} {ps:List (Nat×Value)} {z:Value} {size:Nat} {c:List Value} {t':Array Value} (hF:du n t' l) (hx:eO l az.toList=some ps)
  (hu:P.underlying t=some (.slice e)) (hs:∀w,(sizeOf e).run P w=.ok size w) (hz:∀w,(zeroValue e).run P w=.ok z w) (hm:Nat.ble (len*size) 16777216=true)
  (hf:g8 (fun i=>some (i*size,size)) ((List.range (len*size)).map fun i=>z.cells.toList.getD (i%z.cells.toList.length) default) ps=some c) (Ds:List Nat) (w:World):
  (execOp (Act.eval ⟨t',Ds.map mark⟩) ⟨some d,.buildSlice t len az,ty,pos,aft,g⟩).run P w=.ok (.value (.slice (some ⟨w.heap.size,0,none⟩) len len)) (w.alloc (.cells (c++[]).toArray e)):=by
 have e1:az.map (fun (x:Nat×Operand)=>(x.1,Act.eval ⟨t',Ds.map mark⟩ x.2))=ps.toArray:=by rw [←Array.toList_inj];simp [hF.parts (Ds.map mark) hx]
 have h1:=fill_eq hf
 have h2:(Array.range (len*size)).map (fun i=>(if len*size=0 then #[] else z.cells)[i%(if len*size=0 then #[] else z.cells).size]!)=((List.range (len*size)).map fun i=>z.cells.toList.getD (i%z.cells.toList.length) default).toArray:=by
  by_cases h0:len*size=0
  ·rw [h0];simp
  rw [if_neg h0,←Array.toList_inj];simp
  intro a _
  rw [getElem!_def]
  cases z.cells[a%z.cells.size]?<;>rfl
 rw [←h2] at h1
 have hrun:(Instr.buildSlice t len ps.toArray).run P w=.ok (.slice (some ⟨w.heap.size,0,none⟩) len len) (w.alloc (.cells (c++[]).toArray e)):=by
  have hm':¬len*size>2^24:=by have:=Nat.le_of_ble_eq_true hm;omega
  by_cases h0:len*size=0
  ·simp only [if_pos h0] at h1
   simp only [Instr.buildSlice,Sem.run_bind,run_underlying hu,Result.andThen_ok,hs,if_neg hm',if_pos h0,Sem.run_pure]
   rw [h1];simp [newRow]
  simp only [if_neg h0] at h1
  simp only [Instr.buildSlice,Sem.run_bind,run_underlying hu,Result.andThen_ok,hs,if_neg hm',if_neg h0,Sem.run_pure,hz]
  rw [h1];simp [newRow]
 rw [←e1] at hrun
 simp only [execOp,Sem.run_bind]
 refine (congrArg (fun x=>Result.andThen x _) hrun).trans ?_
 rfl
theorem aa.fR {t e:TypeId} {len:Nat} {az:Array (Nat×Operand)} {ps:List (Nat×Value)} {z:Value} {size:Nat} {c:List Value} (ho:ops[i]?=some ⟨some d,.buildSlice t len az,ty,pos,aft,g⟩) (hw:al ops l g=true) (hx:eO l az.toList=some ps) (hd:Nat.blt d n=true)
  (hu:P.underlying t=some (.slice e)) (hs:∀w,(sizeOf e).run P w=.ok size w) (hz:∀w,(zeroValue e).run P w=.ok z w) (hm:Nat.ble (len*size) 16777216=true)
  (hf:g8 (fun i=>some (i*size,size)) ((List.range (len*size)).map fun i=>z.cells.toList.getD (i%z.cells.toList.length) default) ps=some c)
  (hk:∀b,aa P r f R w0 S Y n (.inRegion ops rest::k) ((d,.slice (some ⟨b,0,none⟩) len len)::l) ((some b,.cells (c++[]).toArray e)::h)):aa P r f R w0 S Y n (.inRegion ops (i::rest)::k) l h:=
 .mem ho hw rfl rfl hd (fun _ w Ds _ hF hS=>⟨.slice (some ⟨w.heap.size,0,none⟩) len len,w.alloc (.cells (c++[]).toArray e),_,lV hF hx hu hs hz hm hf Ds w,hS.alloc rfl,hk _⟩)
theorem aa.tf {az:Array Operand} {ts:Array TypeId} {cal:Operand} {gf:FuncId} {fs cs vs:List Value} (Rc:World→Value→World→Prop) (ho:ops[i]?=some ⟨some d,.call ⟨.value cal,az,ts⟩,ty,pos,aft,g⟩) (hw:al ops l g=true)
  (hc:aA l cal=some (.func (.func gf) fs.toArray cs.toArray)) (hx:cy l az.toList=some vs) (hd:Nat.blt d n=true) (hcf:∀args w,(callFunc gf args).run P w=.ok (.enter gf args) w)
  (hcall:∀w Y',St w0 S w h Y'→Cn P gf (fs++vs++cs) w (Rc w))
  (hk:∀v w w' Y',St w0 S w h Y'→Ex [] w w'→Rc w v w'→∃h',St w0 S w' h' Y'∧aa P r f R w0 S Y n (.inRegion ops rest::k) ((d,v)::l) h'):aa P r f R w0 S Y n (.inRegion ops (i::rest)::k) l h:=
 .lT ho hw hc hx hd hcf (fun w Ds hS=>⟨fun u w'=>Ex [] w w'∧Rc w u w',by
  have:=hcall w Ds hS
  unfold Cn at this
  simpa using this,fun u w' ⟨he,hu⟩=>hk u w w' Ds hS he hu⟩)
theorem aa.dO {az:Array Operand} {ts:Array TypeId} {cal:Operand} {gf:FuncId} {fs cs vs:List Value} {v:Value} (ho:ops[i]?=some ⟨some d,.call ⟨.value cal,az,ts⟩,ty,pos,aft,g⟩) (hw:al ops l g=true)
  (hc:aA l cal=some (.func (.func gf) fs.toArray cs.toArray)) (hx:cy l az.toList=some vs) (hd:Nat.blt d n=true) (hcf:∀args w,(callFunc gf args).run P w=.ok (.enter gf args) w)
  (hcall:∀w Y',St w0 S w h Y'→Cn P gf (fs++vs++cs) w (fun u _=>u=v))
  (hk:aa P r f R w0 S Y n (.inRegion ops rest::k) ((d,v)::l) h):aa P r f R w0 S Y n (.inRegion ops (i::rest)::k) l h:=
 .tf (fun _ u _=>u=v) ho hw hc hx hd hcf hcall (fun _ _ _ _ hS he e=>⟨h,hS.later he,e ▸ hk⟩)
end
def ax (P:Program) (l:Fl) (h:Hl):List ResultVar→List Value→Prop
 |[],[]=>True
 |.tmp t::rs,v::vs=>look l t=some v∧ax P l h rs vs
 |.cell a ty::rs,v::vs=>(∃b,look l a=some (.pointer (some ⟨b,0,none⟩))∧∃(j:Nat) (cs:Array Value) (e:TypeId) (fr:Nat×Nat),h[j]?=some (some b,Obj.cells cs e fr)∧
  ((∀w,(isAgg ty).run P w=.ok true w)∧(∀w,(sizeOf ty).run P w=.ok cs.size w)∧v=.agg cs∨(∀w,(isAgg ty).run P w=.ok false w)∧cs[0]?=some v))∧ax P l h rs vs
 |_,_=>False
section
variable {P:Program} {f:FuncId} {R:Value→World→Prop} {w0:World} {S:List Nat} {Y:List (Nat×Obj)} {n:Nat} {k:List Item} {l:Fl} {h:Hl} {fn:Func}
theorem ax.nil:ax P l h [] []:=trivial
theorem ax.tmp {t:Tmp} {v:Value} {rs:List ResultVar} {vs:List Value} (hv:look l t=some v) (hr:ax P l h rs vs):ax P l h (.tmp t::rs) (v::vs):=⟨hv,hr⟩
theorem ax.cell {a:Tmp} {ty:TypeId} {b m j:Nat} {cs:Array Value} {e:TypeId} {fr:Nat×Nat} {rs:List ResultVar} {vs:List Value} (ha:look l a=some (.pointer (some ⟨b,0,none⟩))) (h1:∀w,(isAgg ty).run P w=.ok true w) (h2:∀w,(sizeOf ty).run P w=.ok m w) (hj:h[j]?=some (some b,Obj.cells cs e fr)) (hm:cs.size=m) (hr:ax P l h rs vs):ax P l h (.cell a ty::rs) (.agg cs::vs):=
 ⟨⟨b,ha,j,cs,e,fr,hj,.inl ⟨h1,fun w=>by rw [h2,hm],rfl⟩⟩,hr⟩
theorem fM {w:World} {t:Array Value} (hF:du n t l) (hS:St w0 S w h Y):∀{rs:List ResultVar} {vs:List Value},ax P l h rs vs→
  (rs.mapM (m:=Sem) fun|.tmp t'=>pure (t.getD t' undef)|.cell a ty=>do loadVar ty (←asAddr (t.getD a undef))).run P w=.ok vs w
 |[],[],_=>rfl
 |.tmp q::rs,v::vs,⟨hv,hr⟩=>by
  rw [List.mapM_cons]
  simp only [Sem.run_bind,Sem.run_pure,Result.andThen_ok,fM hF hS hr,hF.2 _ _ hv]
 |.cell a ty::rs,v::vs,⟨⟨b,ha,j,cs,e,fr,hj,hv⟩,hr⟩=>by
  rw [List.mapM_cons]
  have hl2:(loadVar ty ⟨b,0,none⟩).run P w=.ok v w:=by
   rcases hv with ⟨hag,hsz,rfl⟩|⟨hag,hv⟩
   ·have hl:=fX (P:=P) (w:=w) (a:=⟨b,0,none⟩) (cs:=cs.toList) hag (fun w=>by rw [hsz];simp) (fun q v hv=>by
     rw [eo,Nat.zero_add]
     simp [World.cell?,hS.get hj] at hv⊢
     exact hv)
    rw [Array.toArray_toList] at hl
    simpa only [Instr.loadAt,Instr.sureAddr,Sem.run_bind,Sem.run_pure,Result.andThen_ok] using hl
   have hc:=cell_of_row w b 0 cs e fr (hS.get hj)
   rw [hv] at hc
   simp [loadVar,hag,hc]
  have hA:(asAddr (t.getD a undef)).run P w=.ok ⟨b,0,none⟩ w:=by rw [hF.2 _ _ ha];rfl
  simp only [Sem.run_bind,Sem.run_pure,Result.andThen_ok,hA,hl2,fM hF hS hr]
 |[],_::_,hr=>hr.elim
 |.tmp _::_,[],hr=>hr.elim
 |.cell _ _::_,[],hr=>hr.elim
theorem aa.cC (fn:Func) (hf:P.funcs[f]?=some fn) (vs:List Value) (hres:ax P l h fn.results.toList vs) (hR:∀w,St w0 S w h Y→R (eF vs) w):aa P none f R w0 S Y n (.code .ret::k) l h:=fun t w Ds hF hS=>by
 refine fN hf hS (fun cs=>by rw [aT];exact stepR_ret rfl) ?_ (hR _ hS.shut)
 unfold results
 rw [Array.mapM_eq_mapM_toList]
 have hm:=fM (P:=P) hF hS.shut hres
 simp only [Sem.run_bind,Sem.run_map,Sem.run_pure]
 refine (congrArg (fun x=>(x.andThen fun a w'=>Result.ok a.toArray w').andThen fun a w'=>Result.ok (if h:a.size=1 then a[0] else Value.tuple a) w') hm).trans ?_
 simp only [Result.andThen_ok]
 cases vs with
 |nil=>rfl
 |cons v us=>cases us with
  |nil=>rfl
  |cons u us=>simp [eF]
end
end Go.Proofs.Wit
namespace Go.Proofs.Wit
open Go Go.RowKit
def lM {α:Type} (f:Nat→Option α):Nat→Option α
 |0=>none
 |k+1=>match lM f k with
  |some x=>some x
  |none=>f k
theorem jY {α:Type} {enc:α→List Value} {sz:Nat} (hsz:∀x,(enc x).length=sz):∀{xs:List α} {j i:Nat} (hj:j<xs.length),i<sz→(xs.flatMap enc)[j*sz+i]?=(enc xs[j])[i]?
 |[],j,i,hj,_=>by simp at hj
 |x::xs,0,i,_,hi=>by
  rw [List.flatMap_cons,Nat.zero_mul,Nat.zero_add,List.getElem?_append_left (by rw [hsz];exact hi)];rfl
 |x::xs,j+1,i,hj,hi=>by
  rw [List.flatMap_cons,List.getElem?_append_right (by rw [hsz,Nat.add_mul];omega),hsz]
  rw [show (j+1)*sz+i - sz=j*sz+i from by rw [Nat.add_mul];omega]
  exact jY hsz (by simpa using hj) hi
theorem aO {α:Type} {enc:α→List Value} {sz:Nat} (hsz:∀x,(enc x).length=sz):∀{xs:List α},(xs.flatMap enc).length=xs.length*sz
 |[]=>by simp
 |x::xs=>by rw [List.flatMap_cons,List.length_append,hsz,aO hsz,List.length_cons,Nat.add_mul];omega
section
variable {P:Program} {r:Option Nat} {f:FuncId} {R:Value→World→Prop} {w0:World} {S:List Nat} {Y:List (Nat×Obj)} {n:Nat} {k:List Item} {l:Fl} {h:Hl}
variable {ops:Array Oper} {i d:Nat} {rest:List Nat} {ty:TypeId} {pos:String} {aft:Array Edge} {g:Option (Nat×Bool)}
theorem ah.fo {t e:TypeId} {x y:Operand} {a:Option Addr} {m cap sz:Nat} {kd:IntKind} {j:Int} {xs:List Value} (ho:ops[i]?=some ⟨some d,.indexAddr t x y,ty,pos,aft,g⟩) (hw:al ops l g=true)
  (hx:aA l x=some (.slice a m cap)) (hy:aA l y=some (.int kd j)) (hd:Nat.blt d n=true) (hu:P.underlying t=some (.slice e)) (he:∀w,(sizeOf e).run P w=.ok sz w)
  (hs:∃w,Sl w a xs) (hm:xs.length=m*sz) (hsz:0<sz) (j':Nat) (hj:j=j'∧j'<m):ah P w0 S n h ops i l d (.pointer (some (dk a (j'*sz)))):=by
 obtain ⟨w1,hs⟩:=hs
 obtain ⟨rfl,hj⟩:=hj
 have h0:0<xs.length:=by rw [hm];exact Nat.mul_pos (by omega) hsz
 obtain ⟨b,o,rfl,_⟩:=hs.isSome h0
 exact .of ho hw rfl rfl hd (fun t' w Ds _ hF hS=>⟨.value (.pointer (some ⟨b,o+j'*sz,none⟩)),by
  simp only [execOp,hF.aA hx,hF.aA hy,Sem.run_bind,jU hu he b o m cap kd j' hj w];rfl,rfl⟩)
theorem Sl.many {α:Type} {enc:α→List Value} {sz:Nat} {w:World} {a:Option Addr} {xs:List α} (hs:Sl w a (xs.flatMap enc)) (hsz:∀x,(enc x).length=sz) {j:Nat} (hj:j<xs.length):∀q v,(enc xs[j])[q]?=some v→w.cell? ((dk a (j*sz)).add q)=some v:=by
 intro q v hv
 have hq:q<sz:=by have:=(List.getElem?_eq_some_iff.1 hv).1;rwa [hsz] at this
 have h1:=jY hsz hj hq
 rw [hv] at h1
 obtain ⟨h2,h3⟩:=List.getElem?_eq_some_iff.1 h1
 rw [jr,hs.cell _ h2,List.getD_eq_getElem?_getD,h1];rfl
theorem Sl.jX {α:Type} {enc:α→List Value} {sz:Nat} {w:World} {a:Option Addr} {xs:List α} (hs:Sl w a (xs.flatMap enc)) (hsz:∀x,(enc x).length=sz) {j:Nat} (hj:j<xs.length) {q:Nat} {v:Value} (hv:(enc xs[j])[q]?=some v):w.cell? (dk a (j*sz+q))=some v:=by
 have:=Sl.many hs hsz hj q v hv
 rwa [jr] at this
theorem ah.jg {s:TypeId} {x:Operand} {a:Option Addr} {o q:Nat} {fs:Array Field} {fd:Field} {sz:Nat} (ho:ops[i]?=some ⟨some d,.fieldAddr s x q,ty,pos,aft,g⟩) (hw:al ops l g=true)
  (hx:aA l x=some (.pointer (some (dk a o)))) (hd:Nat.blt d n=true) (hu:P.underlying s=some (.struct fs)) (hq:fs[q]?=some fd) (he:∀w,(sizeOf fd.type).run P w=.ok (sz+1) w) (o':Nat) (hO:o+fd.offset=o'):
  ah P w0 S n h ops i l d (.pointer (some (dk a o'))):=by
 subst hO
 exact .of ho hw rfl rfl hd (fun t w Ds _ hF hS=>⟨.value (.pointer (some (dk a (o+fd.offset)))),by
  simp only [execOp,hF.aA hx,Instr.fieldAt,Sem.run_bind,run_underlying hu,Result.andThen_ok,hq,Instr.sureAddr,Sem.run_pure,fieldPlace,he]
  rw [if_neg (by omega)]
  simp [jr],rfl⟩)
end
end Go.Proofs.Wit
namespace Go.Proofs.Wit
open Go Go.RowKit
structure DV where
  oE:Int
  prop:Int
  a:Option Addr
  cap:Nat
  ws:List Int
def DV.cells (d:DV):List Value:=[.int .i64 d.oE,.int .i64 d.prop,.slice d.a d.ws.length d.cap]
def DV.plain (d:DV):Int×Int×List Int:=(d.oE,d.prop,d.ws)
structure DV.At (d:DV) (w:World):Prop where
  at_:ki w d.a d.ws
  len:d.ws.length≤maxLen
structure u0 (w:World) (a:Option Addr) (ds:List DV):Prop where
  at_:Sl w a (ds.flatMap DV.cells)
  len:ds.length≤maxLen
  each:∀d∈ds,d.At w
end Go.Proofs.Wit
namespace Go.Proofs.Wit
open Go Go.RowKit
structure uZ (H:Hl) (a:Option Addr) (ds:List DV):Prop where
  at_:ds=[]∨∃b e sp,a=some ⟨b,0,none⟩∧(some b,Obj.cells (ds.flatMap DV.cells++sp).toArray e (0,0))∈H
  len:ds.length≤maxLen
  each:∀d∈ds,tT dP H d.a d.ws∧d.ws.length≤maxLen
end Go.Proofs.Wit
namespace Go.Proofs.Wit
structure NV where
  op:Int
  i:Int
  e:Int
  g:Int
  x:Int
  y:Int
deriving DecidableEq
def NV.cells (n:NV):List Value:=[dP n.op,dP n.i,dP n.e,dP n.g,dP n.x,dP n.y]
def bE (op:Int):Bool:=decide (4≤op) && decide (op≤21)
def bA (op:Int):Bool:=decide (5≤op) && decide (op≤8)||op==13||op==14||op==16||op==19||op==21
def gv (op:Int):Bool:=op==9||op==10||op==14||op==15
def ez (op:Int):Bool:=decide (11≤op) && decide (op≤13)
theorem dY {op:Int} (h:bA op=true):bE op=true:=by
 simp only [bA,bE,Bool.or_eq_true,Bool.and_eq_true,decide_eq_true_eq,beq_iff_eq] at h⊢
 omega
inductive Tr where
  |leaf (op i e g:Int)
  |un (op i e g:Int) (a:Tr)
  |bin (op i e g:Int) (a b:Tr)
deriving DecidableEq
def Tr.op:Tr→Int
 |.leaf op _ _ _=>op
 |.un op _ _ _ _=>op
 |.bin op _ _ _ _ _=>op
def kids:Tr→List Tr
 |.leaf ..=>[]
 |.un _ _ _ _ a=>[a]
 |.bin _ _ _ _ a b=>[a,b]
def Tr.wf:Tr→Prop
 |.leaf op _ _ _=>bE op=false
 |.un op _ _ _ a=>bE op=true∧bA op=false∧a.wf
 |.bin op _ _ _ a b=>bA op=true∧a.wf∧b.wf
def ig:Tr:=.leaf 0 0 0 0
def kl (n:NV) (a b:Tr):Tr:=if bA n.op=true then .bin n.op n.i n.e n.g a b else if bE n.op=true then .un n.op n.i n.e n.g a else .leaf n.op n.i n.e n.g
theorem ee {n:NV} {a b:Tr} (h:bE n.op=false):kl n a b=.leaf n.op n.i n.e n.g:=by
 unfold kl
 rw [if_neg (by intro h2;rw [dY h2] at h;cases h),if_neg (by rw [h];simp)]
theorem gQ {n:NV} {a b:Tr} (h:bE n.op=true) (h2:bA n.op=false):kl n a b=.un n.op n.i n.e n.g a:=by
 unfold kl
 rw [if_neg (by rw [h2];simp),if_pos h]
theorem fk {n:NV} {a b:Tr} (h:bA n.op=true):kl n a b=.bin n.op n.i n.e n.g a b:=by
 unfold kl
 rw [if_pos h]
theorem q7 {n:NV} {a b:Tr} (ha:a.wf) (hb:b.wf):(kl n a b).wf:=by
 unfold kl
 split
 ·rename_i h;exact ⟨h,ha,hb⟩
 rename_i h
 split
 ·rename_i h2;exact ⟨h2,by simpa using h,ha⟩
 rename_i h2;show bE n.op=false;simpa using h2
theorem mV:ig.wf:=by show bE 0=false;decide
def oX (acc:List Tr):List NV→List Tr
 |[]=>acc
 |n::ns=>oX (acc++[kl n (acc.getD n.x.toNat ig) (acc.getD n.y.toNat ig)]) ns
def trees (f:List NV):List Tr:=oX [] f
theorem jz:∀{ns:List NV} {acc:List Tr} {n:NV},oX acc (ns++[n])=oX acc ns++[kl n ((oX acc ns).getD n.x.toNat ig) ((oX acc ns).getD n.y.toNat ig)]
 |[],_,_=>rfl
 |m::ns,acc,n=>by rw [List.cons_append,oX,jz,oX]
theorem dH {f:List NV} {n:NV}:trees (f++[n])=trees f++[kl n ((trees f).getD n.x.toNat ig) ((trees f).getD n.y.toNat ig)]:=jz
theorem c6 {α:Type} {p:List α→Prop} (h0:p []) (h1:∀l a,p l→p (l++[a])) (l:List α):p l:=by
 have:∀n (l:List α),l.length=n→p l:=by
  intro n
  induction n with
  |zero=>intro l hl;rw [List.eq_nil_of_length_eq_zero hl];exact h0
  |succ n ih=>
   intro l hl
   have hne:l≠[]:=by rintro rfl;simp at hl
   rw [←List.dropLast_concat_getLast hne]
   exact h1 _ _ (ih _ (by simp [hl]))
 exact this _ l rfl
theorem aX (f:List NV):(trees f).length=f.length:=by
 induction f using c6 with
 |h0=>rfl
 |h1 f n ih=>rw [dH];simp [ih]
theorem gH (f:List NV) (k:Nat):(trees f).take k=trees (f.take k):=by
 induction f using c6 with
 |h0=>simp [trees,oX]
 |h1 f n ih=>
  by_cases hk:k≤f.length
  ·rw [dH,List.take_append_of_le_length (by rw [aX];exact hk),List.take_append_of_le_length hk,ih]
  rw [List.take_of_length_le (by rw [aX];simp;omega),List.take_of_length_le (by simp;omega)]
theorem l4 {f:List NV} {k:Nat} (hk:k<f.length):(trees f)[k]'(by rw [aX];exact hk)=kl f[k] (((trees f).take k).getD f[k].x.toNat ig) (((trees f).take k).getD f[k].y.toNat ig):=by
 have h1:f.take (k+1)=f.take k++[f[k]]:=List.take_succ_eq_append_getElem hk
 have h2:=gH f (k+1)
 rw [h1,dH,←gH] at h2
 have h3:((trees f).take (k+1))[k]?=some (kl f[k] (((trees f).take k).getD f[k].x.toNat ig) (((trees f).take k).getD f[k].y.toNat ig)):=by
  rw [h2,List.getElem?_append_right (by rw [List.length_take,aX];omega),List.length_take,aX,Nat.min_eq_left (by omega),Nat.sub_self];rfl
 rw [List.getElem?_take,if_pos (by omega),List.getElem?_eq_getElem (by rw [aX];exact hk)] at h3
 exact Option.some.inj h3
theorem mU (f:List NV):∀t∈trees f,t.wf:=by
 induction f using c6 with
 |h0=>intro t h;cases h
 |h1 f n ih=>
  have hd:∀k,((trees f).getD k ig).wf:=fun k=>by
   by_cases hk:k<(trees f).length
   ·rw [show (trees f).getD k ig=(trees f)[k] from by simp [List.getD_eq_getElem?_getD,hk]]
    exact ih _ (List.getElem_mem hk)
   rw [show (trees f).getD k ig=ig from by simp [List.getD_eq_getElem?_getD,List.getElem?_eq_none (Nat.le_of_not_lt hk)]]
   exact mV
  intro t h
  rw [dH] at h
  rcases List.mem_append.1 h with h|h
  ·exact ih t h
  rw [List.mem_singleton.1 h];exact q7 (hd _) (hd _)
def visit:Tr→List Tr→List Tr
 |.leaf op i e g,ts=>if Tr.leaf op i e g∈ts then ts else ts++[.leaf op i e g]
 |.un op i e g a,ts=>if Tr.un op i e g a∈ts then ts else visit a ts++[.un op i e g a]
 |.bin op i e g a b,ts=>if Tr.bin op i e g a b∈ts then ts else visit b (visit a ts)++[.bin op i e g a b]
def fB (ts:List Tr):Prop:=∀(k:Nat) (hk:k<ts.length),∀c∈kids ts[k],c∈ts.take k
theorem fB.nil:fB []:=fun _k hk=>absurd hk (Nat.not_lt_zero _)
theorem fB.snoc {ts:List Tr} {t:Tr} (h:fB ts) (ht:∀c∈kids t,c∈ts):fB (ts++[t]):=fun k hk c hc=>by
 rw [List.length_append,List.length_singleton] at hk
 by_cases hlt:k<ts.length
 ·rw [List.getElem_append_left hlt] at hc
  rw [List.take_append_of_le_length (by omega)]
  exact h k hlt c hc
 obtain rfl:k=ts.length:=by omega
 rw [List.getElem_append_right (Nat.le_refl _)] at hc
 simp only [Nat.sub_self,List.getElem_cons_zero] at hc
 rw [List.take_left']
 ·exact ht c hc
 rfl
theorem fB.mem {ts:List Tr} (h:fB ts) {t:Tr} (ht:t∈ts):∀c∈kids t,c∈ts:=fun c hc=>by
 obtain ⟨k,hk,rfl⟩:=List.mem_iff_getElem.1 ht
 exact List.mem_of_mem_take (h k hk c hc)
def size:Tr→Nat
 |.leaf ..=>1
 |.un _ _ _ _ a=>size a+1
 |.bin _ _ _ _ a b=>size a+size b+1
theorem c4 (t:Tr):∀{ts:List Tr} {u:Tr},u∈visit t ts→u∈ts∨size u≤size t:=by
 induction t with
 |leaf op i e g=>
  intro ts u h
  rw [visit] at h
  split at h
  ·exact .inl h
  rcases List.mem_append.1 h with h|h
  ·exact .inl h
  rw [List.mem_singleton.1 h];exact .inr (Nat.le_refl _)
 |un op i e g a iha=>
  intro ts u h
  rw [visit] at h
  split at h
  ·exact .inl h
  rcases List.mem_append.1 h with h|h
  ·rcases iha h with h|h
   ·exact .inl h
   ·exact .inr (by simp only [size];omega)
  rw [List.mem_singleton.1 h];exact .inr (Nat.le_refl _)
 |bin op i e g a b iha ihb=>
  intro ts u h
  rw [visit] at h
  split at h
  ·exact .inl h
  rcases List.mem_append.1 h with h|h
  ·rcases ihb h with h|h
   ·rcases iha h with h|h
    ·exact .inl h
    ·exact .inr (by simp only [size];omega)
   ·exact .inr (by simp only [size];omega)
  rw [List.mem_singleton.1 h];exact .inr (Nat.le_refl _)
structure ve (t:Tr) (ts us:List Tr):Prop where
  iq:fB us
  nd:us.Nodup
  pre:ts<+:us
  mem:t∈us
theorem dJ {ts:List Tr} {t:Tr} (h:ts.Nodup) (ht:t∉ts):(ts++[t]).Nodup:=by
 rw [List.nodup_append]
 exact ⟨h,by simp,fun a ha b hb=>by rw [List.mem_singleton.1 hb];rintro rfl;exact ht ha⟩
theorem cH (t:Tr):∀{ts:List Tr},fB ts→ts.Nodup→ve t ts (visit t ts):=by
 induction t with
 |leaf op i e g=>
  intro ts hc hn
  rw [visit]
  split
  ·rename_i h;exact ⟨hc,hn,List.prefix_refl _,h⟩
  rename_i h;exact ⟨hc.snoc (fun c hc=>by cases hc),dJ hn h,List.prefix_append _ _,by simp⟩
 |un op i e g a iha=>
  intro ts hc hn
  rw [visit]
  split
  ·rename_i h;exact ⟨hc,hn,List.prefix_refl _,h⟩
  rename_i h
  obtain ⟨h1,h2,h3,h4⟩:=iha hc hn
  have hnew:Tr.un op i e g a∉visit a ts:=fun hm=>by
   rcases c4 a hm with h5|h5
   ·exact h h5
   simp only [size] at h5;omega
  exact ⟨h1.snoc (fun c hc=>by rw [List.mem_singleton.1 hc];exact h4),dJ h2 hnew,h3.trans (List.prefix_append _ _),by simp⟩
 |bin op i e g a b iha ihb=>
  intro ts hc hn
  rw [visit]
  split
  ·rename_i h;exact ⟨hc,hn,List.prefix_refl _,h⟩
  rename_i h
  obtain ⟨h1,h2,h3,h4⟩:=iha hc hn
  obtain ⟨k1,k2,k3,k4⟩:=ihb h1 h2
  have hnew:Tr.bin op i e g a b∉visit b (visit a ts):=fun hm=>by
   rcases c4 b hm with h5|h5
   ·rcases c4 a h5 with h5|h5
    ·exact h h5
    ·simp only [size] at h5;omega
   simp only [size] at h5;omega
  refine ⟨k1.snoc (fun c hc=>?_),dJ k2 hnew,(h3.trans k3).trans (List.prefix_append _ _),by simp⟩
  simp only [kids,List.mem_cons,List.not_mem_nil,or_false] at hc
  rcases hc with rfl|rfl
  ·exact k3.subset h4
  exact k4
def aD (ts:List Tr):Tr→NV
 |.leaf op i e g=>⟨op,i,e,g,0,0⟩
 |.un op i e g a=>⟨op,i,e,g,(ts.idxOf a:Int),0⟩
 |.bin op i e g a b=>⟨op,i,e,g,(ts.idxOf a:Int),(ts.idxOf b:Int)⟩
def aw (ts:List Tr):List NV:=ts.map (aD ts)
theorem dg {ts:List Tr}:(aw ts).length=ts.length:=by simp [aw]
theorem ey {ts us:List Tr} (h:ts<+:us) {t:Tr} (ht:t∈ts):us.idxOf t=ts.idxOf t:=by
 obtain ⟨vs,rfl⟩:=h
 rw [List.idxOf_append,if_pos ht]
theorem gL {ts us:List Tr} (h:ts<+:us) {t:Tr} (ht:∀c∈kids t,c∈ts):aD us t=aD ts t:=by
 cases t with
 |leaf=>rfl
 |un op i e g a=>simp only [aD];rw [ey h (ht a (by simp [kids]))]
 |bin op i e g a b=>simp only [aD];rw [ey h (ht a (by simp [kids])),ey h (ht b (by simp [kids]))]
theorem fj {ts:List Tr} (hc:fB ts) {t:Tr} (ht:∀c∈kids t,c∈ts):aw (ts++[t])=aw ts++[aD ts t]:=by
 unfold aw
 rw [List.map_append,List.map_singleton,gL (List.prefix_append _ _) ht]
 congr 1
 exact List.map_congr_left (fun u hu=>gL (List.prefix_append _ _) (hc.mem hu))
theorem je {ts:List Tr} {a b:Tr} (ha:a∈ts) (hb:b∈ts) (h:ts.idxOf a=ts.idxOf b):a=b:=by
 have h1:=List.getElem_idxOf (List.idxOf_lt_length_iff.2 ha)
 have h2:=List.getElem_idxOf (List.idxOf_lt_length_iff.2 hb)
 rw [←h1,←h2]
 congr 1
theorem gN {ts:List Tr} {t u:Tr} (ht:t.wf) (hu:u.wf) (h1:∀c∈kids t,c∈ts) (h2:∀c∈kids u,c∈ts) (h:aD ts t=aD ts u):t=u:=by
 cases t with
 |leaf op i e g=>
  cases u with
  |leaf op' i' e' g'=>simp only [aD,NV.mk.injEq] at h;obtain ⟨rfl,rfl,rfl,rfl,_⟩:=h;rfl
  |un op' i' e' g' a'=>simp only [aD,NV.mk.injEq] at h;obtain ⟨rfl,_⟩:=h;simp only [Tr.wf] at ht hu;rw [ht] at hu;cases hu.1
  |bin op' i' e' g' a' b'=>simp only [aD,NV.mk.injEq] at h;obtain ⟨rfl,_⟩:=h;simp only [Tr.wf] at ht hu;rw [dY hu.1] at ht;cases ht
 |un op i e g a=>
  cases u with
  |leaf op' i' e' g'=>simp only [aD,NV.mk.injEq] at h;obtain ⟨rfl,_⟩:=h;simp only [Tr.wf] at ht hu;rw [ht.1] at hu;cases hu
  |un op' i' e' g' a'=>
   simp only [aD,NV.mk.injEq] at h;obtain ⟨rfl,rfl,rfl,rfl,hx,_⟩:=h
   rw [je (h1 a (by simp [kids])) (h2 a' (by simp [kids])) (by omega)]
  |bin op' i' e' g' a' b'=>simp only [aD,NV.mk.injEq] at h;obtain ⟨rfl,_⟩:=h;simp only [Tr.wf] at ht hu;rw [hu.1] at ht;cases ht.2.1
 |bin op i e g a b=>
  cases u with
  |leaf op' i' e' g'=>simp only [aD,NV.mk.injEq] at h;obtain ⟨rfl,_⟩:=h;simp only [Tr.wf] at ht hu;rw [dY ht.1] at hu;cases hu
  |un op' i' e' g' a'=>simp only [aD,NV.mk.injEq] at h;obtain ⟨rfl,_⟩:=h;simp only [Tr.wf] at ht hu;rw [ht.1] at hu;cases hu.2.1
  |bin op' i' e' g' a' b'=>
   simp only [aD,NV.mk.injEq] at h;obtain ⟨rfl,rfl,rfl,rfl,hx,hy⟩:=h
   rw [je (h1 a (by simp [kids])) (h2 a' (by simp [kids])) (by omega),je (h1 b (by simp [kids])) (h2 b' (by simp [kids])) (by omega)]
theorem pd {ts:List Tr} (hc:fB ts) (hn:ts.Nodup) (hw:∀u∈ts,u.wf) {t:Tr} (ht:t∈ts):
  (aw ts)[ts.idxOf t]?=some (aD ts t)∧∀k,k<ts.idxOf t→(aw ts)[k]?≠some (aD ts t):=by
 have hlt:=List.idxOf_lt_length_iff.2 ht
 refine ⟨by rw [aw,List.getElem?_map,List.getElem?_eq_getElem hlt,List.getElem_idxOf hlt];rfl,fun k hk h=>?_⟩
 have hkl:k<ts.length:=by omega
 rw [aw,List.getElem?_map,List.getElem?_eq_getElem hkl,Option.map_some,Option.some.injEq] at h
 have h1:=gN (hw _ (List.getElem_mem hkl)) (hw t ht) (hc.mem (List.getElem_mem hkl)) (hc.mem ht) h
 have h2:ts.idxOf t=k:=by rw [←h1];exact hn.idxOf_getElem k hkl
 omega
theorem pe {ts:List Tr} (hc:fB ts) (hw:∀u∈ts,u.wf) {t:Tr} (htw:t.wf) (hk:∀c∈kids t,c∈ts) (ht:t∉ts):∀k:Nat,(aw ts)[k]?≠some (aD ts t):=fun k h=>by
 rw [aw,List.getElem?_map] at h
 obtain ⟨u,hu,he⟩:=Option.map_eq_some_iff.1 h
 have hm:=List.mem_of_getElem? hu
 rw [gN (hw u hm) htw (hc.mem hm) hk he] at hm
 exact ht hm
theorem dv (t:Tr):∀{ts us:List Tr},fB us→t∈us→ts⊆us→visit t ts⊆us:=by
 induction t with
 |leaf op i e g=>
  intro ts us hc ht hs
  rw [visit]
  split
  ·exact hs
  exact List.append_subset.2 ⟨hs,by simpa using ht⟩
 |un op i e g a iha=>
  intro ts us hc ht hs
  rw [visit]
  split
  ·exact hs
  exact List.append_subset.2 ⟨iha hc (hc.mem ht a (by simp [kids])) hs,by simpa using ht⟩
 |bin op i e g a b iha ihb=>
  intro ts us hc ht hs
  rw [visit]
  split
  ·exact hs
  exact List.append_subset.2 ⟨ihb hc (hc.mem ht b (by simp [kids])) (iha hc (hc.mem ht a (by simp [kids])) hs),by simpa using ht⟩
def jA (t:Tr):List Tr:=visit t []
def de (t:Tr):List NV:=aw (jA t)
theorem ly (t:Tr):ve t [] (jA t):=cH t fB.nil List.nodup_nil
theorem j5 {t:Tr}:(de t).length=(jA t).length:=dg
theorem l6 (t:Tr):∃l,jA t=l++[t]:=by
 cases t with
 |leaf op i e g=>exact ⟨[],by simp [jA,visit]⟩
 |un op i e g a=>exact ⟨visit a [],by simp [jA,visit]⟩
 |bin op i e g a b=>exact ⟨visit b (visit a []),by simp [jA,visit]⟩
def gl (f:List NV):Tr:=(trees f).getD (f.length - 1) ig
end Go.Proofs.Wit
namespace Go.Proofs.Wit
def uf:NV:=⟨0,0,0,0,0,0⟩
def cR (used:Bool) (v at_:Int):Bool:=used && decide (0≤v) && decide (v<at_)||!used && v==0
def iO (op:Int):Bool:=op==3||gv op||op==17
def eT (op i e g:Int):Int:=
 if (!iO op && i !=0||op !=17 && e !=0||!ez op && g !=0)=true then 3
 else if (op==3 && !(decide (0≤i) && decide (i<8))||gv op && !(decide (0≤i) && decide (i<4))||op==17 && !(decide (0≤i) && decide (i<8) && decide (0≤e) && decide (e<8))||ez op && !(decide (1≤g) && decide (g<16)))=true then 2 else 0
def aq (n:NV) (at_:Int):Int:=
 if ¬(1≤n.op∧n.op≤21) then 10
 else if ¬(cR (bE n.op) n.x at_=true∧cR (bA n.op) n.y at_=true) then 3 else eT n.op n.i n.e n.g
def bH (e:Nat→Int):Nat→Int
 |0=>0
 |n+1=>if bH e n≠0 then bH e n else e n
theorem dh {e:Nat→Int}:∀{n:Nat},bH e n=0↔∀i,i<n→e i=0
 |0=>by simp [bH]
 |n+1=>by
  rw [bH]
  constructor
  ·intro h i hi
   split at h
   ·rename_i h2;exact absurd h h2
   rename_i h2
   rcases Nat.lt_succ_iff_lt_or_eq.1 hi with hi|rfl
   ·exact dh.1 (Classical.not_not.1 h2) i hi
   exact h
  intro h
  have h1:bH e n=0:=dh.2 (fun i hi=>h i (Nat.lt_succ_of_lt hi))
  rw [if_neg (by simp [h1])]
  exact h n (Nat.lt_succ_self n)
theorem jZ {e:Nat→Int} {n:Nat} (h:bH e n≠0):∀m,n≤m→bH e m=bH e n:=fun m hm=>by
 obtain ⟨k,rfl⟩:∃k,m=n+k:=⟨m - n,by omega⟩
 clear hm
 induction k with
 |zero=>rfl
 |succ k ih=>rw [←Nat.add_assoc,bH,if_pos (by rw [ih];exact h),ih]
theorem kX {e:Nat→Int} {n m:Nat} (h:bH e n=0) (he:e n≠0) (hm:n<m):bH e m=e n:=by
 have h1:bH e (n+1)=e n:=by rw [bH,if_neg (by simp [h])]
 rw [jZ (n:=n+1) (by rw [h1];exact he) m hm,h1]
def mz (f:List NV) (i:Nat):Int:=aq (f.getD i uf) i
def bj (f:List NV):Int:=if f.length=0 then 3 else if 200<f.length then 8 else bH (mz f) f.length
structure oJ (f:List NV):Prop where
  pos:0<f.length
  len:f.length≤200
  node:∀(i:Nat) (hi:i<f.length),aq f[i] i=0
theorem eB {f:List NV}:bj f=0↔oJ f:=by
 unfold bj
 have hg:∀(i:Nat) (hi:i<f.length),mz f i=aq f[i] i:=fun i hi=>by simp [mz,List.getD_eq_getElem?_getD,hi]
 constructor
 ·intro h
  split at h
  ·cases h
  rename_i h1
  split at h
  ·cases h
  rename_i h2
  exact ⟨by omega,by omega,fun i hi=>by rw [←hg i hi];exact dh.1 h i hi⟩
 rintro ⟨h1,h2,h3⟩
 rw [if_neg (by omega),if_neg (by omega)]
 exact dh.2 (fun i hi=>by rw [hg i hi];exact h3 i hi)
structure se (n:NV) (at_:Int):Prop where
  op:1≤n.op∧n.op≤21
  x:bE n.op=true→0≤n.x∧n.x<at_
  x0:bE n.op=false→n.x=0
  y:bA n.op=true→0≤n.y∧n.y<at_
  y0:bA n.op=false→n.y=0
  jX:eT n.op n.i n.e n.g=0
theorem fi {used:Bool} {v at_:Int}:cR used v at_=true↔(used=true→0≤v∧v<at_)∧(used=false→v=0):=by
 cases used<;>simp [cR]
theorem eQ {n:NV} {at_:Int}:aq n at_=0↔se n at_:=by
 unfold aq
 constructor
 ·intro h
  split at h
  ·cases h
  rename_i h1
  split at h
  ·cases h
  rename_i h2
  obtain ⟨h3,h4⟩:=Classical.not_not.1 h2
  obtain ⟨a1,a2⟩:=fi.1 h3
  obtain ⟨b1,b2⟩:=fi.1 h4
  exact ⟨Classical.not_not.1 h1,a1,a2,b1,b2,h⟩
 rintro ⟨h1,a1,a2,b1,b2,h⟩
 rw [if_neg (by simp [h1]),if_neg (by simp [fi.2 ⟨a1,a2⟩,fi.2 ⟨b1,b2⟩])]
 exact h
theorem oJ.at {f:List NV} (h:oJ f) (i:Nat) (hi:i<f.length):se f[i] i:=eQ.1 (h.node i hi)
def af (f:List NV) (i:Nat):Tr:=(trees f).getD i ig
theorem dw {f:List NV} {i:Nat} (hi:i<f.length):af f i=(trees f)[i]'(by rw [aX];exact hi):=by
 simp [af,List.getD_eq_getElem?_getD,show i<(trees f).length from by rw [aX];exact hi]
theorem ea {f:List NV} {i:Nat} (hi:i<f.length) (hx:bE f[i].op=true→f[i].x.toNat<i) (hy:bA f[i].op=true→f[i].y.toNat<i):
  af f i=kl f[i] (af f f[i].x.toNat) (af f f[i].y.toNat):=by
 rw [dw hi,l4 hi]
 have ht:∀k,k<i→((trees f).take i).getD k ig=af f k:=fun k hk=>by
  unfold af
  simp [List.getD_eq_getElem?_getD,hk]
 by_cases h1:bA f[i].op=true
 ·rw [fk h1,fk h1,ht _ (hx (dY h1)),ht _ (hy h1)]
 by_cases h2:bE f[i].op=true
 ·rw [gQ h2 (by simpa using h1),gQ h2 (by simpa using h1),ht _ (hx h2)]
 rw [ee (by simpa using h2),ee (by simpa using h2)]
theorem fD (f:List NV) (i:Nat):(af f i).wf:=by
 unfold af
 by_cases hi:i<(trees f).length
 ·rw [show (trees f).getD i ig=(trees f)[i] from by simp [List.getD_eq_getElem?_getD,hi]];exact mU f _ (List.getElem_mem hi)
 rw [show (trees f).getD i ig=ig from by simp [List.getD_eq_getElem?_getD,List.getElem?_eq_none (Nat.le_of_not_lt hi)]];exact mV
def oI (f:List NV):Prop:=∀(i:Nat) (hi:i<f.length),(bE f[i].op=true→0≤f[i].x∧f[i].x<i)∧(bA f[i].op=true→0≤f[i].y∧f[i].y<i)
theorem oJ.ord {f:List NV} (h:oJ f):oI f:=fun i hi=>⟨(h.at i hi).x,(h.at i hi).y⟩
theorem oI.iq {f:List NV} (h:oI f):fB (trees f):=fun k hk c hc=>by
 rw [aX] at hk
 obtain ⟨hx,hy⟩:=h k hk
 have h1:=ea hk (fun hu=>by have:=hx hu;omega) (fun hu=>by have:=hy hu;omega)
 rw [←dw hk,h1] at hc
 have ht:∀j,j<k→af f j∈(trees f).take k:=fun j hj=>by
  rw [dw (by omega:j<f.length)]
  rw [List.mem_take_iff_getElem]
  exact ⟨j,by rw [aX];omega,rfl⟩
 by_cases h2:bA f[k].op=true
 ·rw [fk h2] at hc
  simp only [kids,List.mem_cons,List.not_mem_nil,or_false] at hc
  rcases hc with rfl|rfl
  ·exact ht _ (by have:=hx (dY h2);omega)
  exact ht _ (by have:=hy h2;omega)
 by_cases h3:bE f[k].op=true
 ·rw [gQ h3 (by simpa using h2)] at hc
  rw [List.mem_singleton.1 hc]
  exact ht _ (by have:=hx h3;omega)
 rw [ee (by simpa using h3)] at hc;cases hc
theorem mI {f:List NV} (h:oI f) {i:Nat} (hi:i<f.length):(de (af f i)).length≤i+1:=by
 have hclo:fB ((trees f).take (i+1)):=fun k hk c hc=>by
  rw [List.length_take] at hk
  rw [List.getElem_take] at hc
  have:=h.iq k (by omega) c hc
  rw [List.take_take,Nat.min_eq_left (by omega)];exact this
 have hm:af f i∈(trees f).take (i+1):=by
  rw [dw hi,List.mem_take_iff_getElem]
  exact ⟨i,by rw [aX];omega,rfl⟩
 have hs:=dv (af f i) (ts:=[]) hclo hm (List.nil_subset _)
 have hn:=(ly (af f i)).nd
 rw [j5]
 have hle:=hn.length_le_of_subset hs
 rw [List.length_take] at hle
 omega
end Go.Proofs.Wit
namespace Go.Proofs.Wit
theorem nE {n:NV} {a:Int} (h:¬(1≤n.op∧n.op≤21)):aq n a=10:=if_pos h
theorem cW {n:NV} {a:Int} (h:1≤n.op∧n.op≤21) (hb:cR (bE n.op) n.x a=false):aq n a=3:=by
 rw [aq,if_neg (by simp [h]),if_pos (by rw [hb];simp)]
theorem cS {n:NV} {a:Int} (h:1≤n.op∧n.op≤21) (hb:cR (bA n.op) n.y a=false):aq n a=3:=by
 rw [aq,if_neg (by simp [h]),if_pos (by rw [hb];simp)]
theorem ay {n:NV} {a:Int} (h:1≤n.op∧n.op≤21) (hx:cR (bE n.op) n.x a=true) (hy:cR (bA n.op) n.y a=true):aq n a=eT n.op n.i n.e n.g:=by
 rw [aq,if_neg (by simp [h]),if_neg (by rw [hx,hy];simp)]
theorem a7 {op i e g:Int} (h:(!iO op && i !=0||op !=17 && e !=0||!ez op && g !=0)=true):eT op i e g=3:=if_pos h
theorem eS {op i e g:Int} (h:(!iO op && i !=0||op !=17 && e !=0||!ez op && g !=0)=false) (h2:(op==3 && !(decide (0≤i) && decide (i<8))||gv op && !(decide (0≤i) && decide (i<4))||op==17 && !(decide (0≤i) && decide (i<8) && decide (0≤e) && decide (e<8))||ez op && !(decide (1≤g) && decide (g<16)))=true):eT op i e g=2:=by
 rw [eT,if_neg (by rw [h];simp),if_pos h2]
theorem dM {op i e g:Int} (h:(!iO op && i !=0||op !=17 && e !=0||!ez op && g !=0)=false) (h2:(op==3 && !(decide (0≤i) && decide (i<8))||gv op && !(decide (0≤i) && decide (i<4))||op==17 && !(decide (0≤i) && decide (i<8) && decide (0≤e) && decide (e<8))||ez op && !(decide (1≤g) && decide (g<16)))=false):eT op i e g=0:=by
 rw [eT,if_neg (by rw [h];simp),if_neg (by rw [h2];simp)]
end Go.Proofs.Wit
namespace Go.Proofs.Wit
open Go Go.RowKit
def reach (ops:Array Oper):Nat→List Nat→List Nat
 |0,acc=>acc
 |j+1,acc=>reach ops j (cond (acc.any fun z=>(aQ ops z).contains j) (j::acc) acc)
def below (ops:Array Oper) (x:Nat):List Nat:=reach ops x [x]
def forced (ops:Array Oper):List Nat→List Nat→Bool
 |listed,[]=>(av ops listed).isEmpty
 |listed,x::rest=>(av ops listed==[x]) && forced ops (x::listed) rest
def ku (ops:Array Oper) (_l:Fl) (m:Nat):Bool:=
 Nat.ble m ops.size &&
 (List.range ops.size).all (fun i=>(aQ ops i).all (fun j=>Nat.blt j i)) &&
 (List.range m).all (fun i=>match ops[i]? with
  |none=>false
  |some o=>bY o.op && match o.dst with
   |none=>false
   |some d=>(List.range ops.size).all (fun j=>Nat.beq j i||!(aF ops j==some d)) &&
    (cz ops o).all (fun s=>(List.range ops.size).all (fun j=>!(aF ops j==some s)||(aQ ops i).contains j||(Nat.ble m j && (below ops j).contains i)))) &&
 (List.range' m (ops.size - m)).all (fun i=>match ops[i]? with
  |none=>false
  |some o=>(cz ops o).all (fun s=>(List.range m).all (fun j=>!(aF ops j==some s)||(aQ ops i).contains j)))
section
variable {P:Program} {r:Option Nat} {f:FuncId} {R:Value→World→Prop} {w0:World} {S:List Nat} {Y:List (Nat×Obj)} {n:Nat} {k:List Item} {l:Fl} {h:Hl} {ops:Array Oper}
def dX (P:Program) (w0:World) (S:List Nat) (n:Nat) (h:Hl) (ops:Array Oper) (i:Nat) (l:Fl) (d:Nat) (K:Value→Hl→Prop):Prop:=
 ∃o,ops[i]?=some o∧o.dst=some d∧bJ o.op=false∧bY o.op=true∧Nat.blt d n=true∧
  ((al ops l o.guard=true∧∀(t:Array Value) (w:World) (Ds:List Nat) (Y':List (Nat×Obj)),du n t l→St w0 S w h Y'→
   (∃v w' h',(execOp (Act.eval ⟨t,Ds.map mark⟩) o).run P w=.ok (.value v) w'∧St w0 S w' h' Y'∧K v h')∨
   (∃gf args,∃Rc:Value→World→Prop,(execOp (Act.eval ⟨t,Ds.map mark⟩) o).run P w=.ok (.enter gf args) w∧(Calls P gf args w fun e w'=>∃v,e=.returned v∧Rc v w')∧∀v w',Rc v w'→∃h',St w0 S w' h' Y'∧K v h'))∨
  (fU ops l o.guard=true∧K undef h))
section
variable {i d:Nat} {ty:TypeId} {pos:String} {aft:Array Edge} {g:Option (Nat×Bool)} {K:Value→Hl→Prop}
theorem dX.bx {e:TypeId} {x:Operand} {v:Value} (ho:ops[i]?=some ⟨some d,.box e x,ty,pos,aft,g⟩) (hw:al ops l g=true) (hx:aA l x=some v) (hd:Nat.blt d n=true)
  (hk:∀b,K (.pointer (some ⟨b,0,none⟩)) ((some b,.cells v.cells e)::h)):dX P w0 S n h ops i l d K:=
 ⟨_,ho,rfl,rfl,rfl,hd,.inl ⟨hw,fun t w Ds Y' hF hS=>.inl ⟨.pointer (some ⟨w.heap.size,0,none⟩),w.alloc (.cells v.cells e),_,by
  simp [execOp,Instr.box,hF.aA hx,newVar,newRow],hS.alloc rfl,hk _⟩⟩⟩
theorem dX.fR {t e:TypeId} {len:Nat} {az:Array (Nat×Operand)} {ps:List (Nat×Value)} {z:Value} {size:Nat} {c:List Value} (ho:ops[i]?=some ⟨some d,.buildSlice t len az,ty,pos,aft,g⟩) (hw:al ops l g=true) (hx:eO l az.toList=some ps) (hd:Nat.blt d n=true)
  (hu:P.underlying t=some (.slice e)) (hs:∀w,(sizeOf e).run P w=.ok size w) (hz:∀w,(zeroValue e).run P w=.ok z w) (hm:Nat.ble (len*size) 16777216=true)
  (hf:g8 (fun i=>some (i*size,size)) ((List.range (len*size)).map fun i=>z.cells.toList.getD (i%z.cells.toList.length) default) ps=some c)
  (hk:∀b,K (.slice (some ⟨b,0,none⟩) len len) ((some b,.cells (c++[]).toArray e)::h)):dX P w0 S n h ops i l d K:=
 ⟨_,ho,rfl,rfl,rfl,hd,.inl ⟨hw,fun _ w Ds _ hF hS=>.inl ⟨.slice (some ⟨w.heap.size,0,none⟩) len len,w.alloc (.cells (c++[]).toArray e),_,
  lV hF hx hu hs hz hm hf Ds w,hS.alloc rfl,hk _⟩⟩⟩
theorem dX.ou {az:Array Operand} {ts:Array TypeId} {cal:Operand} {gf:FuncId} {fs cs vs:List Value} (Rc:World→Value→World→Prop) (ho:ops[i]?=some ⟨some d,.call ⟨.value cal,az,ts⟩,ty,pos,aft,g⟩) (hw:al ops l g=true)
  (hc:aA l cal=some (.func (.func gf) fs.toArray cs.toArray)) (hx:cy l az.toList=some vs) (hd:Nat.blt d n=true) (hcf:∀args w,(callFunc gf args).run P w=.ok (.enter gf args) w)
  (hcall:∀w Y',St w0 S w h Y'→Cn P gf (fs++vs++cs) w (Rc w))
  (hk:∀v w w' Y',St w0 S w h Y'→Ex [] w w'→Rc w v w'→∃h',St w0 S w' h' Y'∧K v h'):dX P w0 S n h ops i l d K:=
 ⟨_,ho,rfl,rfl,rfl,hd,.inl ⟨hw,fun t w Ds Y' hF hS=>.inr ⟨gf,(fs++vs++cs).toArray,fun u w'=>Ex [] w w'∧Rc w u w',by
  have e1:=cJ (P:=P) (ty:=ty) (ts:=ts) (Ds:=Ds) (w:=w) hF hc hx
  simp only [execOp,Sem.run_bind,e1,Result.andThen_ok,invoke,hcf]
  simp,hcall w Y' hS,fun u w' ⟨he,hu⟩=>hk u w w' Y' hS he hu⟩⟩⟩
end
theorem dX.call {i d:Nat} {ty:TypeId} {pos:String} {aft:Array Edge} {g:Option (Nat×Bool)} {K:Value→Hl→Prop} {az:Array Operand} {ts:Array TypeId} {cal:Operand} {gf:FuncId} {vs:List Value} (Rc:World→Value→World→Prop) (ho:ops[i]?=some ⟨some d,.call ⟨.value cal,az,ts⟩,ty,pos,aft,g⟩) (hw:al ops l g=true)
  (hc:aA l cal=some (.func (.func gf) #[] #[])) (hx:cy l az.toList=some vs) (hd:Nat.blt d n=true) (hcf:∀args w,(callFunc gf args).run P w=.ok (.enter gf args) w)
  (hcall:∀w Y',St w0 S w h Y'→Cn P gf vs w (Rc w))
  (hk:∀v w w' Y',St w0 S w h Y'→Ex [] w w'→Rc w v w'→∃h',St w0 S w' h' Y'∧K v h'):dX P w0 S n h ops i l d K:=
 .ou (fs:=[]) (cs:=[]) Rc ho hw hc hx hd hcf (fun w Y' hS=>by rw [List.nil_append,List.append_nil];exact hcall w Y' hS) hk
def kg (ops:Array Oper) (m:Nat):List Nat→Bool
 |[]=>true
 |x::_=>(List.range m).all (fun i=>(below ops x).contains i && !(Nat.beq i x))
def Tl (P:Program) (r:Option Nat) (f:FuncId) (R:Value→World→Prop) (w0:World) (S:List Nat) (Y:List (Nat×Obj)) (n:Nat) (k:List Item) (ops:Array Oper) (m:Nat) (hb:Hl):Nat→List Nat→Fl→Hl→Prop
 |0,_,_,_=>False
 |q+1,TL,l,h=>
  (∃rest,forced ops (TL++List.range m) rest=true∧kg ops m rest=true∧aa P r f R w0 S Y n (.inRegion ops rest::k) l h)∨
  (av ops (TL++List.range m)≠[]∧∀i∈av ops (TL++List.range m),∃d,dX P w0 S n h ops i l d (fun v h'=>hb.Sublist h'∧Tl P r f R w0 S Y n k ops m hb q (i::TL) ((d,v)::l) h'))
def oG (P:Program) (w0:World) (S:List Nat) (n:Nat) (ops:Array Oper) (h:Hl) (F:Fl→Prop) (i m:Nat) (l:Fl):Prop:=
 ∀t,du n t l→sd P w0 S n h ops (fun t'=>∃l',du n t' l'∧F l') i m t
theorem oG.nil {F:Fl→Prop} {i:Nat} (hg:F l):oG P w0 S n ops h F i 0 l:=fun _ hF=>⟨l,hF,hg⟩
theorem oG.v {F:Fl→Prop} {i m d:Nat} {v:Value} (hv:ah P w0 S n h ops i l d v) (hg:oG P w0 S n ops h F (i+1) m ((d,v)::l)):oG P w0 S n ops h F i (m+1) l:=by
 intro t hF
 obtain ⟨o,ho,hw,hdst,hnd,hd,hr⟩:=hv
 exact ⟨d,v,⟨o,ho,hdst,by simpa [Nat.blt_eq] using hd,hnd,.inl ⟨bu hF hw,fun w Ds Y' hS=>by
  obtain ⟨nx,h1,rfl⟩:=hr t w Ds Y' hF hS;exact .inl h1⟩⟩,hg _ (hF.put v hd)⟩
theorem iC {x:Nat} {listed:List Nat} (hc:∀j∈listed,∀e∈aQ ops j,e∈listed) (hx:∀e∈aQ ops x,e∈listed):∀{j:Nat} {acc:List Nat},(∀z∈acc,z=x∨z∈listed)→∀y∈reach ops j acc,y=x∨y∈listed
 |0,_,ha,y,hy=>ha y hy
 |j+1,acc,ha,y,hy=>by
  rw [reach] at hy
  refine iC hc hx (acc:=cond (acc.any fun z=>(aQ ops z).contains j) (j::acc) acc) (fun z hz=>?_) y hy
  cases hb:acc.any fun z=>(aQ ops z).contains j with
  |false=>rw [hb] at hz;exact ha z hz
  |true=>
   rw [hb] at hz
   rcases List.mem_cons.1 hz with rfl|hz
   ·obtain ⟨u,hu,hd⟩:=List.any_eq_true.1 hb
    have hd:=List.contains_iff_mem.1 hd
    rcases ha u hu with rfl|h
    ·exact .inr (hx _ hd)
    exact .inr (hc u h _ hd)
   exact ha z hz
theorem iD {x:Nat} {listed:List Nat} (hc:∀j∈listed,∀e∈aQ ops j,e∈listed) (hx:∀e∈aQ ops x,e∈listed):∀y∈below ops x,y=x∨y∈listed:=
 iC hc hx (fun _ hz=>.inl (List.mem_singleton.1 hz))
theorem aE {listed:List Nat} {i:Nat}:i∈av ops listed↔i<ops.size∧i∉listed∧∀e∈aQ ops i,e∈listed:=by
 simp [av,List.mem_filter]
structure iR (ops:Array Oper) (m:Nat):Prop where
  size:m≤ops.size
  lt:∀i,i<ops.size→∀j∈aQ ops i,j<i
  oL:∀i,i<m→∀o,ops[i]?=some o→bY o.op=true
  inj:∀i j d,i<m→j<ops.size→aF ops i=some d→aF ops j=some d→i=j
  r8:∀i,i<m→∀o,ops[i]?=some o→∀s∈cz ops o,∀j,j<ops.size→aF ops j=some s→j∈aQ ops i∨(m≤j∧i∈below ops j)
  uv:∀i,m≤i→∀o,ops[i]?=some o→∀s∈cz ops o,∀j,j<m→aF ops j=some s→j∈aQ ops i
theorem iU {m:Nat} (hc:ku ops l m=true):iR ops m:=by
 simp only [ku,Bool.and_eq_true,List.all_eq_true,List.mem_range,List.mem_range'_1,Nat.blt_eq,Nat.ble_eq] at hc
 obtain ⟨⟨⟨hsz,hlt⟩,hr⟩,ht⟩:=hc
 have hat:∀i,i<m→∃o d,ops[i]?=some o∧o.dst=some d∧bY o.op=true∧(∀j,j<ops.size→j=i∨aF ops j≠some d)∧(∀s∈cz ops o,∀j,j<ops.size→(aF ops j≠some s∨j∈aQ ops i)∨(m≤j∧i∈below ops j)):=by
  intro i hi
  have:=hr i hi
  cases ho:ops[i]? with
  |none=>simp [ho] at this
  |some o=>
   cases hd:o.dst with
   |none=>simp [ho,hd] at this
   |some d=>
    simp only [ho,hd,Bool.and_eq_true,List.all_eq_true,List.mem_range,Bool.or_eq_true,Nat.beq_eq,Bool.not_eq_true',beq_eq_false_iff_ne,List.contains_iff_mem,Nat.ble_eq] at this
    exact ⟨o,d,rfl,hd,this.1,this.2.1,this.2.2⟩
 refine ⟨hsz,hlt,fun i hi o ho=>?_,fun i j d hi hj h1 h2=>?_,fun i hi o ho s hs j hj hd=>?_,fun i hi o ho s hs j hj hd=>?_⟩
 ·obtain ⟨o',d,h1,_,h3,_⟩:=hat i hi
  rw [ho] at h1;cases h1;exact h3
 ·obtain ⟨o,d',e1,e2,_,e5,_⟩:=hat i hi
  have:d'=d:=by simp [aF,e1,e2] at h1;exact h1
  subst this
  rcases e5 j hj with e|e
  ·exact e.symm
  exact absurd h2 e
 ·obtain ⟨o',d,e1,_,_,_,e6⟩:=hat i hi
  rw [ho] at e1;cases e1
  rcases e6 s hs j hj with (e|e)|e
  ·exact absurd hd e
  ·exact .inl e
  exact .inr e
 have hiN:=(Array.getElem?_eq_some_iff.1 ho).1
 have:=ht i ⟨hi,by omega⟩
 simp only [ho,List.all_eq_true,Bool.or_eq_true,Bool.not_eq_true',beq_eq_false_iff_ne,List.contains_iff_mem,List.mem_range] at this
 rcases this s hs j hj with e|e
 ·exact absurd hd e
 exact e
theorem fh {a b:List Nat} (h:∀j,j∈a↔j∈b):av ops a=av ops b:=by
 have:∀j,a.contains j=b.contains j:=fun j=>by rw [Bool.eq_iff_iff];simp [h j]
 unfold av
 simp only [this]
theorem iH:∀{rest listed:List Nat} {fuel τ:Nat} {arr:Array Bool},forced ops listed rest=true→arr.size=ops.size→(∀j,arr.getD j false=listed.contains j)→rest.length≤fuel→
  Region.linearise.go .any ops fuel τ arr []=rest
 |[],listed,fuel,τ,arr,hf,hs,h,_=>by
  have h0:av ops listed=[]:=by simpa [forced] using hf
  cases fuel with
  |zero=>rfl
  |succ fuel=>
   simp only [Region.linearise.go]
   change (match (Region.ready .any ops arr)[_%(Region.ready .any ops arr).length]? with
    |some i=>_
    |none=>[].reverse)=[]
   rw [dx hs h,h0];rfl
 |x::rest,listed,0,τ,arr,hf,hs,h,hl=>by simp at hl
 |x::rest,listed,fuel+1,τ,arr,hf,hs,h,hl=>by
  simp only [forced,Bool.and_eq_true,beq_iff_eq] at hf
  simp only [Region.linearise.go]
  change (match (Region.ready .any ops arr)[_%(Region.ready .any ops arr).length]? with
   |some i=>Region.linearise.go .any ops fuel (τ / (Region.ready .any ops arr).length) (arr.setIfInBounds i true) [i]
   |none=>[].reverse)=_
  rw [dx hs h,hf.1]
  simp only [List.length_singleton,Nat.mod_one,List.getElem?_cons_zero]
  rw [linearise_go_acc,List.reverse_singleton,List.singleton_append]
  have hx:x∈av ops listed:=by rw [hf.1];simp
  have hxl:=(aE.1 hx).1
  rw [iH (listed:=x::listed) hf.2 (by simpa using hs) (fun j=>?_) (by simpa using hl)]
  rw [aB (by omega),h j,List.contains_cons]
  split
  ·rename_i e;subst e;simp
  rename_i e;rw [beq_false_of_ne (Ne.symm e)];rfl
theorem g5:∀{rest listed:List Nat},forced ops listed rest=true→rest.length≤(List.range ops.size).countP (fun j=>!listed.contains j)
 |[],_,_=>Nat.zero_le _
 |x::rest,listed,hf=>by
  simp only [forced,Bool.and_eq_true,beq_iff_eq] at hf
  have hx:x∈av ops listed:=by rw [hf.1];simp
  obtain ⟨h1,h2,_⟩:=aE.1 hx
  have ih:=g5 hf.2
  have:=eA (l:=List.range ops.size) (p:=fun j=>!(x::listed).contains j) (q:=fun j=>!listed.contains j) (fun y _ hy=>by simp at hy⊢;exact hy.2) ⟨x,by simpa using h1,by simpa using h2,by simp⟩
  simp only [List.length_cons];omega
theorem dW.vN {i d:Nat} {v:Value} {t:Array Value} {rest:List Nat} {w:World} {Ds:List Nat} {hb:Hl} (ho:dW P w0 S n hb ops i t d v) (hs:hb.Sublist h) (hS:St w0 S w h (gA Ds++Y))
  (hk:∀w',St w0 S w' h (gA Ds++Y)→aY P r f R (.inRegion ops rest::k) (t.setIfInBounds d v) (Ds.map mark) w'):aY P r f R (.inRegion ops (i::rest)::k) t (Ds.map mark) w:=by
 obtain ⟨o,h1,h2,h3,h4,h5⟩:=ho
 rcases h5 with ⟨a,b⟩|⟨a,rfl⟩
 ·rcases b w Ds _ (hS.bR hs) with hb|⟨gf,args,hb,hcall⟩
  ·refine aY.op h1 a (aR h4) hb (.inl rfl) ?_
   rw [h2];exact hk w hS
  ·refine aY.call h1 a (aR h4) hb hcall (fun u w2 hu=>?_)
   obtain ⟨he,rfl⟩:=hu
   rw [h2];exact hk w2 (hS.later he)
 refine aY.fE h1 a ?_
 rw [h2];exact hk w hS
theorem dG {o:Oper} {t t':Array Value} (hs:t'.size=t.size) (he:∀s∈cz ops o,t'.getD s undef=t.getD s undef):Region.wanted o (yielded ops t')=Region.wanted o (yielded ops t):=by
 unfold Region.wanted
 cases hg:o.guard with
 |none=>rfl
 |some p=>
  obtain ⟨j,want⟩:=p
  have:yielded ops t' j=yielded ops t j:=by
   unfold yielded
   cases hd:(ops[j]?).bind (·.dst) with
   |none=>rfl
   |some dj=>
    simp only [Option.bind_some]
    rw [df hs (he dj (by simp [cz,hg,aF,hd]))]
  simp only [this]
theorem dX.go {i d:Nat} {K:Value→Hl→Prop} {T t:Array Value} {rest:List Nat} {w:World} {Ds:List Nat} (hm:dX P w0 S n h ops i l d K) (hF:du n T l) (hs:t.size=T.size)
  (he:∀o,ops[i]?=some o→∀s∈cz ops o,t.getD s undef=T.getD s undef) (hS:St w0 S w h (gA Ds++Y))
  (hk:∀v w' h',K v h'→St w0 S w' h' (gA Ds++Y)→aY P r f R (.inRegion ops rest::k) (t.setIfInBounds d v) (Ds.map mark) w'):aY P r f R (.inRegion ops (i::rest)::k) t (Ds.map mark) w:=by
 obtain ⟨o,ho,hdst,hnd,hsel,hd,hr⟩:=hm
 have hw:=dG (ops:=ops) (o:=o) hs (he o ho)
 rcases hr with ⟨hwant,hr⟩|⟨hskip,hK⟩
 ·have hexec:execOp (Act.eval ⟨t,Ds.map mark⟩) o=execOp (Act.eval ⟨T,Ds.map mark⟩) o:=execOp_congr (ρ':=Act.eval ⟨T,Ds.map mark⟩) o (fun cs bb e=>by rw [e] at hsel;cases hsel) (fun x hx=>by
   cases x with
   |tmp s=>exact he o ho s (by
     simp only [cz,List.mem_append]
     exact .inr (List.mem_filterMap.2 ⟨.tmp s,by simpa using hx,rfl⟩))
   |const v=>rfl
   |global g=>rfl
   |func g=>rfl)
  rcases hr T w Ds _ hF hS with ⟨v,w',h',h1,h2,h3⟩|⟨gf,args,Rc,h1,h2,h3⟩
  ·refine aY.op ho (hw.trans (bu hF hwant)) (aR hnd) (by rw [hexec];exact h1) (.inl rfl) ?_
   rw [hdst];exact hk v w' h' h3 h2
  refine aY.call ho (hw.trans (bu hF hwant)) (aR hnd) (by rw [hexec];exact h1) h2 (fun u w2 hu=>?_)
  obtain ⟨h',h4,h5⟩:=h3 u w2 hu
  rw [hdst];exact hk u w2 h' h5 h4
 refine aY.fE ho (hw.trans (e8 hF hskip)) ?_
 rw [hdst];exact hk undef w h hK hS
theorem l5 {m:Nat} (hf:iR ops m) {D:Nat→Nat} {V:Nat→Value} {t0:Array Value} {hB:Hl} (ht0:t0.size=n)
  (hout:∀j,j<m→dW P w0 S n hB ops j (jy D V t0 j) (D j) (V j)):
  ∀(fuel τ:Nat) (arr:Array Bool) (TL:List Nat) (q:Nat) (l:Fl) (h:Hl) (t T:Array Value),arr.size=ops.size→(∀j,arr.getD j false=true→∀e∈aQ ops j,arr.getD e false=true)→
   (∀j,m≤j→(arr.getD j false=true↔j∈TL))→(∀j∈TL,m≤j)→du n T l→Tl P r f R w0 S Y n k ops m hB q TL l h→hB.Sublist h→t.size=n→
   (∀j,j<m→T.getD (D j) undef=V j)→(∀s,(∀j,j<m→arr.getD j false=false→D j≠s)→t.getD s undef=T.getD s undef)→(∀s,(∀j,j<m→D j≠s)→(∀j,m≤j→j<ops.size→aF ops j=some s→arr.getD j false=false)→T.getD s undef=t0.getD s undef)→
   (List.range ops.size).countP (fun j=>!arr.getD j false)≤fuel→∀w Ds,St w0 S w h (gA Ds++Y)→aY P r f R (.inRegion ops (Region.linearise.go .any ops fuel τ arr [])::k) t (Ds.map mark) w:=by
 have hDst:∀j,j<m→aF ops j=some (D j):=fun j hj=>by
  obtain ⟨o,h1,h2,_⟩:=hout j hj
  simp [aF,h1,h2]
 have hDlt:∀j,j<m→D j<t0.size:=fun j hj=>by
  obtain ⟨o,_,_,h3,_⟩:=hout j hj;omega
 have hmN:=hf.size
 have hDinj:∀i j,i<m→j<m→D i=D j→i=j:=fun i j hi hj e=>hf.inj i j (D i) hi (by omega) (hDst i hi) (by rw [hDst j hj,e])
 have hsw:∀{fuel τ:Nat} {arr:Array Bool} {TL rest:List Nat} {l:Fl} {h:Hl} {t T:Array Value},arr.size=ops.size→(∀j,m≤j→(arr.getD j false=true↔j∈TL))→(∀j∈TL,m≤j)→du n T l→t.size=n→
   (∀s,(∀j,j<m→arr.getD j false=false→D j≠s)→t.getD s undef=T.getD s undef)→(∀j,j<m→arr.getD j false=true)→forced ops (TL++List.range m) rest=true→
   aa P r f R w0 S Y n (.inRegion ops rest::k) l h→(List.range ops.size).countP (fun j=>!arr.getD j false)≤fuel→∀w Ds,St w0 S w h (gA Ds++Y)→aY P r f R (.inRegion ops (Region.linearise.go .any ops fuel τ arr [])::k) t (Ds.map mark) w:=by
  intro fuel τ arr TL rest l h t T hls hTL hTm hF hts hb hall hfo hg hc w Ds hS
  have hcont:∀j,arr.getD j false=(TL++List.range m).contains j:=fun j=>by
   rw [Bool.eq_iff_iff,List.contains_iff_mem,List.mem_append,List.mem_range]
   rcases Nat.lt_or_ge j m with hj|hj
   ·exact ⟨fun _=>.inr hj,fun _=>hall j hj⟩
   exact ⟨fun x=>.inl ((hTL j hj).1 x),fun x=>(hTL j hj).2 (by rcases x with x|x;exact x;omega)⟩
  have hlen:=g5 hfo
  have e1:(fun j=>!(TL++List.range m).contains j)=fun j=>!arr.getD j false:=by funext j;rw [hcont]
  rw [e1] at hlen
  rw [iH hfo hls hcont (by omega)]
  have ht:t=T:=Array.ext_getElem? (fun s=>df (by rw [hts,hF.1]) (hb s (fun j hj hu=>by rw [hall j hj] at hu;cases hu)))
  rw [ht];exact hg T w Ds hF hS
 intro fuel
 induction fuel with
 |zero=>
  intro τ arr TL q l h t T hls hcl hTL hTm hF htl hsub hts ha hb hcb hc w Ds hS
  have hl:∀j,j<ops.size→arr.getD j false=true:=fun j hj=>by
   have:=List.countP_eq_zero.1 (Nat.le_zero.1 hc) j (by simpa using hj)
   simpa using this
  cases q with
  |zero=>exact htl.elim
  |succ q=>
   rcases htl with ⟨rest,h1,_,h3⟩|⟨hne,_⟩
   ·exact hsw hls hTL hTm hF hts hb (fun j hj=>hl j (by omega)) h1 h3 hc w Ds hS
   exfalso
   apply hne
   rw [List.eq_nil_iff_forall_not_mem]
   intro j hj
   obtain ⟨a1,a2,_⟩:=aE.1 hj
   apply a2
   rw [List.mem_append,List.mem_range]
   rcases Nat.lt_or_ge j m with hj|hj
   ·exact .inr hj
   exact .inl ((hTL j hj).1 (hl j a1))
 |succ fuel ih=>
  intro τ arr TL q l h t T hls hcl hTL hTm hF htl hsub hts ha hb hcb hc w Ds hS
  have hready:(∃j,j<ops.size∧arr.getD j false=false)→Region.ready .any ops arr≠[]:=by
   rintro ⟨j,hj,hu⟩
   have key:∀q,q<ops.size→arr.getD q false=false→Region.ready .any ops arr≠[]:=by
    intro q
    induction q using Nat.strongRecOn with
    |_ q ihq=>
     intro hq hqu
     by_cases hb:∃e∈aQ ops q,arr.getD e false=false
     ·obtain ⟨e,he,heu⟩:=hb
      have hlt:=hf.lt q hq e he
      exact ihq e hlt (by omega) heu
     obtain ⟨o,ho⟩:∃o,ops[q]?=some o:=⟨ops[q],Array.getElem?_eq_getElem hq⟩
     have:q∈Region.ready .any ops arr:=by
      rw [mem_ready]
      refine ⟨by rw [fp (by omega)];exact hqu,o,ho,fun e he hbd=>?_⟩
      cases hx:arr.getD e.on false with
      |true=>rfl
      |false=>exact absurd ⟨e.on,(fl ho).2 ⟨e,he,hbd,rfl⟩,hx⟩ hb
     exact List.ne_nil_of_mem this
   exact key j hj hu
  have hrT:∀i,m≤i→i<ops.size→arr.getD i false=false→(∀e∈aQ ops i,arr.getD e false=true)→i∈av ops (TL++List.range m):=fun i him hiN hu hd=>by
   rw [aE]
   refine ⟨hiN,fun hx=>?_,fun e he=>?_⟩
   ·rw [List.mem_append,List.mem_range] at hx
    rcases hx with hx|hx
    ·rw [(hTL i him).2 hx] at hu;cases hu
    omega
   rw [List.mem_append,List.mem_range]
   rcases Nat.lt_or_ge e m with hj|hj
   ·exact .inr hj
   exact .inl ((hTL e hj).1 (hd e he))
  by_cases hdone:∃rest,forced ops (TL++List.range m) rest=true∧aa P r f R w0 S Y n (.inRegion ops rest::k) l h∧∀j,j<m→arr.getD j false=true
  ·obtain ⟨rest,h1,h2,h3⟩:=hdone
   exact hsw hls hTL hTm hF hts hb h3 h1 h2 hc w Ds hS
  simp only [Region.linearise.go]
  change aY P r f R (.inRegion ops (match (Region.ready .any ops arr)[τ%(Region.ready .any ops arr).length]? with
   |some i=>Region.linearise.go .any ops fuel (τ / (Region.ready .any ops arr).length) (arr.setIfInBounds i true) [i]
   |none=>[].reverse)::k) t (Ds.map mark) w
  cases hi:(Region.ready .any ops arr)[τ%(Region.ready .any ops arr).length]? with
  |none=>
   exfalso
   have hnil:Region.ready .any ops arr=[]:=by
    cases hr:Region.ready .any ops arr with
    |nil=>rfl
    |cons x xs=>
     rw [hr] at hi
     have hlt:τ%(x::xs).length<(x::xs).length:=Nat.mod_lt _ (by simp)
     rw [List.getElem?_eq_getElem hlt] at hi;cases hi
   have hl:∀j,j<ops.size→arr.getD j false=true:=fun j hj=>by
    cases hx:arr.getD j false with
    |true=>rfl
    |false=>exact absurd hnil (hready ⟨j,hj,hx⟩)
   cases q with
   |zero=>exact htl.elim
   |succ q=>
    rcases htl with ⟨rest,h1,_,h3⟩|⟨hne,_⟩
    ·exact hdone ⟨rest,h1,h3,fun j hj=>hl j (by omega)⟩
    apply hne
    rw [List.eq_nil_iff_forall_not_mem]
    intro j hj
    obtain ⟨a1,a2,_⟩:=aE.1 hj
    apply a2
    rw [List.mem_append,List.mem_range]
    rcases Nat.lt_or_ge j m with hj|hj
    ·exact .inr hj
    exact .inl ((hTL j hj).1 (hl j a1))
  |some i=>
   have hmem:=List.mem_of_getElem? hi
   rw [mem_ready] at hmem
   obtain ⟨hu,o,ho,hdep⟩:=hmem
   have hiN:i<ops.size:=(Array.getElem?_eq_some_iff.1 ho).1
   rw [fp (by omega)] at hu
   simp only []
   rw [linearise_go_acc,List.reverse_singleton,List.singleton_append]
   have hdl:∀e∈aQ ops i,arr.getD e false=true:=fun e he=>by
    obtain ⟨e',he',hb,rfl⟩:=(fl ho).1 he
    exact hdep e' he' hb
   have hcl':∀j,(arr.setIfInBounds i true).getD j false=true→∀e∈aQ ops j,(arr.setIfInBounds i true).getD e false=true:=by
    intro j hj e he
    rw [aB (by omega)] at hj⊢
    split
    ·rfl
    split at hj
    ·rename_i hij;subst hij;exact hdl e he
    exact hcl j hj e he
   have hcnt:=count_set (listed:=arr) hls hiN hu
   by_cases him:i<m
   ·-- a read
    have hgo:=hout i him
    have hDi:D i<t.size:=by rw [hts,←ht0];exact hDlt i him
    have heq:dW P w0 S n hB ops i t (D i) (V i):=by
     refine hgo.congr (hf.oL i him) (by rw [hts,dZ,ht0]) (fun o' ho' s hs=>?_)
     obtain ⟨g1,g2⟩:=eY hDlt hDinj i (by omega)
     by_cases hx:∃j,j<m∧D j=s
     ·obtain ⟨j,hj,rfl⟩:=hx
      have hjd:=(hf.r8 i him o' ho' (D j) hs j (by omega) (hDst j hj)).resolve_right (fun x=>by omega)
      rw [g1 j (hf.lt i hiN j hjd),hb (D j) (fun j' hj' hu' e=>by
       have:=hDinj j' j hj' hj e
       subst this
       rw [hdl j' hjd] at hu';cases hu'),ha j hj]
     rw [hb s (fun j hj _ e=>hx ⟨j,hj,e⟩),g2 s (fun j hj e=>hx ⟨j,by omega,e⟩)]
     refine hcb s (fun j hj e=>hx ⟨j,hj,e⟩) (fun j hmj hj hd=>?_)
     rcases hf.r8 i him o' ho' s hs j hj hd with hjd|⟨_,hjb⟩
     ·have hjl:=hf.lt i hiN j hjd
      omega
     cases hja:arr.getD j false with
     |false=>rfl
     |true=>
      exfalso
      have:=iD (ops:=ops) (listed:=(List.range ops.size).filter (fun j=>arr.getD j false)) (x:=j) (fun j hj e he=>by
       rw [List.mem_filter,List.mem_range] at hj⊢
       have hlt:=hf.lt j hj.1 e he
       exact ⟨by omega,hcl j hj.2 e he⟩) (fun e he=>by
       rw [List.mem_filter,List.mem_range]
       have hlt:=hf.lt j hj e he
       exact ⟨by omega,hcl j hja e he⟩) i hjb
      rcases this with h|h
      ·omega
      rw [(List.mem_filter.1 h).2] at hu;cases hu
    refine heq.vN hsub hS (fun w hS=>?_)
    refine ih _ _ TL q l h _ T (by simpa using hls) hcl' (fun j hj=>?_) hTm hF htl hsub (by simpa using hts) ha (fun s hs=>?_) (fun s hs1 hs2=>hcb s hs1 (fun j hj hjN hd=>by
     have:=hs2 j hj hjN hd
     rwa [aB (by omega),if_neg (by omega)] at this)) (by omega) w Ds hS
    ·rw [aB (by omega),if_neg (by omega)];exact hTL j hj
    rw [a6 hDi]
    split
    ·rename_i e;subst e;exact (ha i him).symm
    rename_i e
    refine hb s (fun j hj hu'=>?_)
    by_cases e2:i=j
    ·subst e2;exact e
    exact hs j hj (by rw [aB (by omega),if_neg e2];exact hu')
   -- of the tail
   have him':m≤i:=by omega
   have hir:=hrT i him' hiN hu hdl
   cases q with
   |zero=>exact htl.elim
   |succ q=>
    rcases htl with ⟨rest,h1,hbel,h3⟩|⟨_,hop⟩
    ·exfalso
     cases rest with
     |nil=>
      have h0:av ops (TL++List.range m)=[]:=by simpa [forced] using h1
      rw [h0] at hir;cases hir
     |cons x rest=>
      have hx:av ops (TL++List.range m)=[x]:=by
       simp only [forced,Bool.and_eq_true,beq_iff_eq] at h1;exact h1.1
      rw [hx] at hir
      obtain rfl:=List.mem_singleton.1 hir
      refine hdone ⟨i::rest,h1,h3,fun j hj=>?_⟩
      have hmem:j∈below ops i∧j≠i:=by
       have:=List.all_eq_true.1 hbel j (by simpa using hj)
       rw [Bool.and_eq_true,List.contains_iff_mem,Bool.not_eq_true'] at this
       exact ⟨this.1,fun e=>by rw [e,Nat.beq_refl] at this;cases this.2⟩
      have:=iD (ops:=ops) (listed:=(List.range ops.size).filter (fun j=>arr.getD j false)) (x:=i) (fun j hj e he=>by
       rw [List.mem_filter,List.mem_range] at hj⊢
       have hlt:=hf.lt j hj.1 e he
       exact ⟨by omega,hcl j hj.2 e he⟩) (fun e he=>by
       rw [List.mem_filter,List.mem_range]
       have hlt:=hf.lt i hiN e he
       exact ⟨by omega,hdl e he⟩) j hmem.1
      exact (List.mem_filter.1 (this.resolve_left hmem.2)).2
    obtain ⟨d,hmop⟩:=hop i hir
    have hdi:aF ops i=some d:=by
     obtain ⟨o',e1,e2,_⟩:=hmop
     simp [aF,e1,e2]
    have hdn:d<n:=by
     obtain ⟨o',_,_,_,_,hd,_⟩:=hmop
     simpa [Nat.blt_eq] using hd
    refine hmop.go hF (by rw [hts,hF.1]) (fun o' ho' s hs=>?_) hS (fun v w' h' hK hS'=>?_)
    ·refine hb s (fun j hj hu' e=>?_)
     subst e
     have hjd:=hf.uv i him' o' ho' (D j) hs j hj (hDst j hj)
     rw [hdl j hjd] at hu';cases hu'
    obtain ⟨hsub',htl'⟩:=hK
    refine ih _ _ (i::TL) q ((d,v)::l) h' _ (T.setIfInBounds d v) (by simpa using hls) hcl' (fun j hj=>?_) (fun j hj=>?_) (hF.put v (by simpa [Nat.blt_eq] using hdn)) htl' hsub' (by simpa using hts) (fun j hj=>?_) (fun s hs=>?_) (fun s hs1 hs2=>?_) (by omega) w' Ds hS'
    ·rw [aB (by omega),List.mem_cons]
     split
     ·rename_i e;subst e;simp
     rename_i e
     rw [hTL j hj]
     exact ⟨.inr,fun x=>x.resolve_left (Ne.symm e)⟩
    ·rcases List.mem_cons.1 hj with rfl|hj
     ·exact him'
     ·exact hTm j hj
    ·rw [a6 (by rw [hF.1];exact hdn)]
     split
     ·rename_i e
      have:=hf.inj j i d hj hiN (by rw [hDst j hj,e]) hdi
      omega
     exact ha j hj
    ·rw [a6 (by rw [hts];exact hdn),a6 (by rw [hF.1];exact hdn)]
     split
     ·rfl
     refine hb s (fun j hj hu'=>hs j hj ?_)
     rw [aB (by omega),if_neg (by omega)];exact hu'
    rw [a6 (by rw [hF.1];exact hdn)]
    split
    ·rename_i e
     have:=hs2 i him' hiN (by rw [hdi,e])
     rw [aB (by omega),if_pos rfl] at this;cases this
    refine hcb s hs1 (fun j hj hjN hd=>?_)
    have:=hs2 j hj hjN hd
    rw [aB (by omega)] at this
    split at this
    ·cases this
    exact this
theorem Tl.sw {m q:Nat} {hb:Hl} {TL:List Nat} (rest:List Nat) (h1:forced ops (TL++List.range m) rest=true) (h2:kg ops m rest=true)
  (hg:aa P r f R w0 S Y n (.inRegion ops rest::k) l h):Tl P r f R w0 S Y n k ops m hb (q+1) TL l h:=.inl ⟨rest,h1,h2,hg⟩
theorem Tl.one {m q i d:Nat} {hb:Hl} {TL:List Nat} (h1:av ops (TL++List.range m)=[i]) (hm:dX P w0 S n h ops i l d (fun v h'=>hb.Sublist h'∧Tl P r f R w0 S Y n k ops m hb q (i::TL) ((d,v)::l) h')):Tl P r f R w0 S Y n k ops m hb (q+1) TL l h:=
 .inr ⟨by rw [h1];simp,fun j hj=>by rw [h1] at hj;obtain rfl:=List.mem_singleton.1 hj;exact ⟨d,hm⟩⟩
end
end Go.Proofs.Wit
namespace Go.Proofs.Wit
open Go Go.RowKit
theorem aa.sj {P:Program} {r:Option Nat} {f:FuncId} {R:Value→World→Prop} {w0:World} {S:List Nat} {Y:List (Nat×Obj)} {n:Nat} {k:List Item} {l l':Fl} {h h':Hl} (hg:aa P r f R w0 S Y n k l' h') (hl:bC l' l) (hh:∀w Y',St w0 S w h Y'→St w0 S w h' Y'):aa P r f R w0 S Y n k l h:=
 fun t w Ds hF hS=>hg t w Ds (hF.sub hl) (hh w _ hS)
theorem aa.fg {P:Program} {r:Option Nat} {f:FuncId} {R:Value→World→Prop} {w0:World} {S:List Nat} {Y:List (Nat×Obj)} {n:Nat} {k:List Item} {l:Fl} {h:Hl} {ops:Array Oper} {id:Nat} {dr:Bool} {α:Type} (restc:List Nat) (lf:α→Fl) (hf:α→Hl)
  (hK:∀a,aa P r f R w0 S Y n (.inRegion ops restc::k) (lf a) (hf a))
  (hg:(∀a l h,bC (lf a) l→(∀w Y',St w0 S w h Y'→St w0 S w (hf a) Y')→aa P r f R w0 S Y n (.inRegion ops restc::k) l h)→aa P r f R w0 S Y n (.code (.region id ops dr)::k) l h):aa P r f R w0 S Y n (.code (.region id ops dr)::k) l h:=
 hg (fun a _ _ hl hh=>(hK a).sj hl hh)
end Go.Proofs.Wit
namespace Go.Proofs.Wit
open Go Go.RowKit
section
variable {P:Program} {r:Option Nat} {f:FuncId} {R:Value→World→Prop} {w0:World} {S:List Nat} {Y:List (Nat×Obj)} {n:Nat} {k:List Item} {l:Fl} {h:Hl} {ops:Array Oper}
theorem ao.dO {i m d:Nat} {v:Value} {ty:TypeId} {pos:String} {aft:Array Edge} {g:Option (Nat×Bool)} {az:Array Operand} {ts:Array TypeId} {cal:Operand} {gf:FuncId} {fs cs vs:List Value} (ho:ops[i]?=some ⟨some d,.call ⟨.value cal,az,ts⟩,ty,pos,aft,g⟩) (hw:al ops l g=true)
  (hc:aA l cal=some (.func (.func gf) fs.toArray cs.toArray)) (hx:cy l az.toList=some vs) (hd:Nat.blt d n=true) (hcf:∀args w,(callFunc gf args).run P w=.ok (.enter gf args) w)
  (hcall:∀w Y',St w0 S w h Y'→Cn P gf (fs++vs++cs) w (fun u _=>u=v)) (hg:ao P r f R w0 S Y n k ops (i+1) m ((d,v)::l) h):ao P r f R w0 S Y n k ops i (m+1) l h:=by
 intro t hF
 refine ⟨d,v,⟨_,ho,rfl,by simpa [Nat.blt_eq] using hd,rfl,.inl ⟨bu hF hw,fun w Ds Y' hS=>.inr ⟨gf,(fs++vs++cs).toArray,?_,hcall w Y' hS⟩⟩⟩,?_⟩
 ·have e1:=cJ (P:=P) (ty:=ty) (ts:=ts) (Ds:=Ds) (w:=w) hF hc hx
  simp only [execOp,Sem.run_bind,e1,Result.andThen_ok,invoke,hcf]
  simp
 have:=hg _ (hF.put v hd)
 rw [show i+(m+1)=i+1+m from by omega];exact this
end
end Go.Proofs.Wit
namespace Go.Proofs.Wit
open Go Go.RowKit
section
variable {P:Program} {r:Option Nat} {f:FuncId} {R:Value→World→Prop} {w0:World} {S:List Nat} {Y:List (Nat×Obj)} {n:Nat} {k:List Item} {l:Fl} {h:Hl} {ops:Array Oper}
structure rX (ops:Array Oper) (c:Nat):Prop where
  size:c<ops.size
  lt:∀i,i<ops.size→∀j∈aQ ops i,j<i
  oL:∀i,i≤c→∀o,ops[i]?=some o→bY o.op=true
  inj:∀i j d,i≤c→j≤c→aF ops i=some d→aF ops j=some d→i=j
  r8:∀i,i≤c→∀o,ops[i]?=some o→∀s∈cz ops o,∀j,j≤c→aF ops j=some s→j∈aQ ops i
  late:∀i,c<i→i<ops.size→(∀j,j≤c→j∈aQ ops i)∨∃j∈aQ ops i,c<j
  ur:forced ops (List.range (c+1)) (List.range' (c+1) (ops.size - (c+1)))=true
theorem aa.rK {id:Nat} (m q:Nat) (hb:Hl) (hsub:hb.Sublist h) (hmix:P.follows .mixedOrders=true) (hc:ku ops l m=true) (hg:oG P w0 S n ops hb (fun l'=>Tl P r f R w0 S Y n k ops m hb q [] l' h) 0 m l):aa P r f R w0 S Y n (.code (.region id ops true)::k) l h:=by
 intro t w Ds hF hS
 have hf:=iU hc
 refine .dI (fun τ=>?_)
 obtain ⟨D,V,hout,l',hF',htl⟩:=(hg t hF).seq
 simp only [Nat.zero_add] at hout
 simp only [Region.schedule,hmix,Bool.true_or,if_true,Region.linearise]
 have hDst:∀j,j<m→aF ops j=some (D j):=fun j hj=>by
  obtain ⟨o,h1,h2,_⟩:=hout j hj
  simp [aF,h1,h2]
 have hDlt:∀j,j<m→D j<t.size:=fun j hj=>by
  obtain ⟨o,_,_,h3,_⟩:=hout j hj
  rw [hF.1];exact h3
 have hmN:=hf.size
 have hDinj:∀i j,i<m→j<m→D i=D j→i=j:=fun i j hi hj e=>hf.inj i j (D i) hi (by omega) (hDst i hi) (by rw [hDst j hj,e])
 obtain ⟨g1,g2⟩:=eY hDlt hDinj m (Nat.le_refl _)
 have harr:∀j,(Array.replicate ops.size false).getD j false=false:=fun j=>by
  simp [Array.getD_eq_getD_getElem?,Array.getElem?_replicate];split<;>simp
 refine l5 hf hF.1 hout ops.size τ _ [] q l' h t _ (by simp) (fun j hj=>?_) (fun j _=>?_) (by simp) hF' htl hsub hF.1 g1 (fun s hs=>?_) (fun s hs _=>?_) ?_ _ Ds hS.drew
 ·rw [harr] at hj;cases hj
 ·rw [harr];simp
 ·rw [g2 s (fun j hj=>hs j hj (harr j))]
 ·exact g2 s (fun j hj e=>hs j hj e)
 exact Nat.le_trans (List.countP_le_length) (by simp)
theorem dX.app {i d:Nat} {ty:TypeId} {pos:String} {aft:Array Edge} {g:Option (Nat×Bool)} {K:Value→Hl→Prop} {t e:TypeId} {x y:Operand} {inf:TypeInfo} {z:Value} {q:Option Nat} {xs sp:List Value} {nx cap:Nat} {bn m c:Nat} {news spn:List Value} {en:TypeId} {frn:Nat×Nat} (size:Nat)
  (ho:ops[i]?=some ⟨some d,.call ⟨.builtin .append,#[x,y],#[t,t]⟩,ty,pos,aft,g⟩) (hw:al ops l g=true) (hx:aA l x=some (aU q nx cap)) (hy:aA l y=some (.slice (some ⟨bn,0,none⟩) m c)) (hd:Nat.blt d n=true)
  (hu:P.underlying t=some (.slice e)) (hi:P.info? e=some inf) (hz:inf.zero=some z) (hsz:inf.size=size) (hz1:z.cells.size=size)
  (hq:q=none→nx=0∧cap=0) (j:Nat) (hj:h[j]?=some (q,.cells (xs++sp).toArray e (0,0))) (jn:Nat) (hjn:h[jn]?=some (some bn,.cells (news++spn).toArray en frn))
  (hnx:xs.length=nx*size) (hcap:(xs++sp).length=cap*size) (hl:news.length=m*size) (hm0:0<m) (h1:∀u∈news,u.oneCell'=true) (hmx:nx+m≤maxLen) (hbytes:(nx+m)*inf.bytes≤140737488355328)
  (hk:∀b' sp' cap',(xs++news++sp').length=cap'*size→K (aU (some b') (nx+m) cap') (h.set j (some b',.cells (xs++news++sp').toArray e (0,0)))):dX P w0 S n h ops i l d K:=
 ⟨_,ho,rfl,rfl,rfl,hd,.inl ⟨hw,fun t' w Ds Y' hF hS=>.inl (by
  have hbn:=hS.get hjn
  have hnews:∀j u,news[j]?=some u→w.cell? ((⟨bn,0,none⟩:Addr).add j)=some u:=by
   intro j u hv
   have hjl:=(List.getElem?_eq_some_iff.1 hv).1
   have e1:(⟨bn,0,none⟩:Addr).add j=⟨bn,j,none⟩:=by unfold Addr.add;split;(rename_i h0;rw [h0]);simp
   rw [e1]
   rw [List.getElem?_eq_getElem hjl] at hv;cases hv
   simp [World.cell?,hbn,List.getElem?_append,hjl]
  obtain ⟨b',sp',cap',w',hrun,hlen,hS'⟩:=gF hu hi hz hsz hz1 hS hnx hcap hq hj (c:=c) hl hm0 hnews h1 hmx hbytes ty
  refine ⟨_,w',_,?_,hS',hk b' sp' cap' hlen⟩
  have e1:(#[x,y]:Array Operand).map (Act.eval ⟨t',Ds.map mark⟩)=#[aU q nx cap,.slice (some ⟨bn,0,none⟩) m c]:=by simp [hF.aA hx,hF.aA hy]
  simp only [execOp,resolve,e1,Sem.run_bind,Sem.run_pure,Result.andThen_ok,invoke,builtin,hrun])⟩⟩
end
end Go.Proofs.Wit
namespace Go.Proofs.Wit
open Go Go.RowKit
def ej (h:Hl):List Nat:=h.filterMap (·.1)
theorem dy {h:Hl} {b:Nat}:b∈ej h↔∃o,(some b,o)∈h:=by
 simp only [ej,List.mem_filterMap]
 constructor
 ·rintro ⟨⟨q,o⟩,h1,h2⟩;dsimp only at h2;subst h2;exact ⟨o,h1⟩
 rintro ⟨o,h1⟩;exact ⟨_,h1,rfl⟩
structure ln (w:World) (h:Hl):Prop where
  own:∀p∈h,∀b,p.1=some b→w.heap[b]?=some p.2∧fY p.2=false
  apart:h.Pairwise fS
theorem St.has {w0 w:World} {S:List Nat} {h:Hl} {Y:List (Nat×Obj)} (s:St w0 S w h Y):ln w h:=⟨fun p hp b hb=>⟨(s.own p hp b hb).1,(s.own p hp b hb).2.1⟩,s.apart⟩
theorem ln.st {w:World} {h:Hl} (g:ln w h):St w (ej h) w h []:=
 ⟨Ex.refl _ _,fun p hp b hb=>⟨(g.own p hp b hb).1,(g.own p hp b hb).2,.inr (dy.2 ⟨p.2,by rw [←hb];exact hp⟩)⟩,g.apart,(fun p hp=>by cases hp),List.nodup_nil⟩
theorem St.frame {w0 w w':World} {S:List Nat} {h h' hF:Hl} {Y:List (Nat×Obj)} (s:St w0 S w (h++hF) Y) (g:St w (ej h) w' h' []):St w0 S w' (h'++hF) Y:=by
 have hown:∀b∈ej h,w0.heap.size≤b∨b∈S:=fun b hb=>by
  obtain ⟨o,ho⟩:=dy.1 hb
  exact (s.own _ (List.mem_append_left _ ho) b rfl).2.2
 have hap:=List.pairwise_append.1 s.apart
 have hkeep:∀b o,w.heap[b]?=some o→b∉ej h→w'.heap[b]?=some o:=fun b o ho hb=>by
  rw [g.ext.block b (Array.getElem?_eq_some_iff.1 ho).1 hb];exact ho
 have hsz:=g.ext.size
 have hsz0:=s.ext.size
 refine ⟨s.ext.trans g.ext (fun x hx=>(hown x hx).symm),fun p hp b hb=>?_,List.pairwise_append.2 ⟨g.apart,hap.2.1,fun p hp q hq b hb hqb=>?_⟩,fun p hp=>?_,s.mP⟩
 ·rcases List.mem_append.1 hp with hp|hp
  ·obtain ⟨h1,h2,h3⟩:=g.own p hp b hb
   refine ⟨h1,h2,?_⟩
   rcases h3 with h3|h3
   ·exact .inl (by omega)
   exact hown b h3
  ·obtain ⟨h1,h2,h3⟩:=s.own p (List.mem_append_right _ hp) b hb
   refine ⟨hkeep b _ h1 (fun hm=>?_),h2,h3⟩
   obtain ⟨o,ho⟩:=dy.1 hm
   exact hap.2.2 _ ho p hp b rfl hb
 ·obtain ⟨h1,h2,h3⟩:=g.own p hp b hb
  obtain ⟨k1,k2,k3⟩:=s.own q (List.mem_append_right _ hq) b hqb
  rcases h3 with h3|h3
  ·have:=(Array.getElem?_eq_some_iff.1 k1).1;omega
  obtain ⟨o,ho⟩:=dy.1 h3
  exact hap.2.2 _ ho q hq b rfl hqb
 obtain ⟨h1,h2,h3⟩:=s.sys p hp
 refine ⟨h1,hkeep p.1 _ h2 (fun hm=>?_),h3⟩
 obtain ⟨o,ho⟩:=dy.1 hm
 obtain ⟨k1,k2,_⟩:=s.own _ (List.mem_append_left _ ho) p.1 rfl
 rw [h2] at k1
 cases k1
 dsimp only at k2
 rw [h3] at k2;cases k2
def oS (P:Program) (gf:FuncId) (args:List Value) (w:World) (h:Hl) (Rc:Value→Hl→Prop):Prop:=
 Calls P gf args.toArray w fun e w'=>∃v h',e=.returned v∧Rc v h'∧St w (ej h) w' h' []
section
variable {P:Program} {r:Option Nat} {f:FuncId} {R:Value→World→Prop} {w0:World} {S:List Nat} {Y:List (Nat×Obj)} {n:Nat} {k:List Item} {l:Fl} {h:Hl} {ops:Array Oper} {i d:Nat} {rest:List Nat} {ty:TypeId} {pos:String} {aft:Array Edge} {g:Option (Nat×Bool)}
theorem oS.of {gf:FuncId} {fn:Func} {c:Code} {args:List Value} {w:World} {Rc:Value→Hl→Prop} (hh:ln w h) (hf:P.funcs[gf]?=some fn) (hb:fn.body=some c) (hn:Nat.ble args.length fn.ntmps=true)
  (hgo:aa P none gf (fun v w'=>∃h',Rc v h'∧St w (ej h) w' h' []) w (ej h) [] fn.ntmps [.code c] (kF 0 args) h):oS P gf args w h Rc:=by
 unfold oS
 refine Calls.mono (j6 hf hb hn h hh.st hgo) ?_
 rintro e w' ⟨v,rfl,h',h1,h2⟩
 exact ⟨v,h',rfl,h1,h2⟩
theorem aa.fw {hF:Hl} {az:Array Operand} {ts:Array TypeId} {cal:Operand} {gf:FuncId} {fs cs vs:List Value} (Rc:World→Value→Hl→Prop) (ho:ops[i]?=some ⟨some d,.call ⟨.value cal,az,ts⟩,ty,pos,aft,g⟩) (hw:al ops l g=true)
  (hc:aA l cal=some (.func (.func gf) fs.toArray cs.toArray)) (hx:cy l az.toList=some vs) (hd:Nat.blt d n=true) (hcf:∀args w,(callFunc gf args).run P w=.ok (.enter gf args) w)
  (hcall:∀w Y',St w0 S w (h++hF) Y'→oS P gf (fs++vs++cs) w h (Rc w))
  (hk:∀w v h',Rc w v h'→aa P r f R w0 S Y n (.inRegion ops rest::k) ((d,v)::l) (h'++hF)):aa P r f R w0 S Y n (.inRegion ops (i::rest)::k) l (h++hF):=
 .lT ho hw hc hx hd hcf (fun w Y' hS=>⟨fun v w'=>∃h',Rc w v h'∧St w (ej h) w' h' [],by
  have:=hcall w Y' hS
  unfold oS at this
  simp only [List.append_toArray]
  exact Calls.mono this (fun e w' ⟨v,h',e1,e2,e3⟩=>⟨v,e1,h',e2,e3⟩),fun v w' ⟨h',h1,h2⟩=>⟨h'++hF,hS.frame h2,hk w v h' h1⟩⟩)
end
end Go.Proofs.Wit
