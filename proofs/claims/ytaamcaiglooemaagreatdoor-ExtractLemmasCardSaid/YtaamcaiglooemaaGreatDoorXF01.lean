/- Laws of walks, for any program, under the conditions that each theorem states. -/
import Derived.WalkKit
import Derived.Lib.Hide
import Derived.RangeFuncLeaves
import Derived.RangeFuncRecord
import Derived.Orders
set_option maxRecDepth 100000
set_option maxHeartbeats 4000000
namespace Go.Proofs.Wit
open Go.RowKit
abbrev aE:=BitVec 64
def U (x:aE):Value:=.int .u64 (x.toNat:Int)
section
variable (t:TypeId) (x y:aE)
theorem nm (x:aE):BitVec.ofInt 64 (x.toNat:Int)=x:=by
 rw [BitVec.ofInt_natCast];simp
theorem wq (x:aE):IntKind.u64.wrap (x.toNat:Int)=x.toNat:=by
 rw [IntKind.wrap_u64];have:=x.isLt;omega
theorem xo (f:aE→aE→aE):(.int .u64 (IntKind.u64.wrap ((f (BitVec.ofInt 64 (x.toNat:Int)) (BitVec.ofInt 64 (y.toNat:Int))).toNat:Int)):Value)=U (f x y):=by
 rw [nm,nm,wq];rfl
theorem EC:binOp .and t (U x) (U y)=pure (U (x &&& y)):=
 congrArg pure (xo x y (fun a b=>a &&& b))
theorem Hq:binOp .or t (U x) (U y)=pure (U (x|||y)):=
 congrArg pure (xo x y (fun a b=>a|||b))
theorem xp:binOp .andNot t (U x) (U y)=pure (U (x &&& ~~~y)):=
 congrArg pure (xo x y (fun a b=>a &&& ~~~b))
theorem Ib {n:Int} (z:aE) (h:n%18446744073709551616=z.toNat):(.int .u64 (IntKind.u64.wrap n):Value)=U z:=by
 rw [IntKind.wrap_u64,h];rfl
theorem cast_inj:((x.toNat:Int)=y.toNat)↔x=y:=by
 rw [Int.ofNat_inj];exact BitVec.toNat_inj
theorem EB:binOp .eql t (U x) (U y)=pure (.bool (x==y)):=by
 have e:((x.toNat:Int)==(y.toNat:Int))=(x==y):=by rw [Bool.eq_iff_iff];simp [cast_inj]
 rw [←e];rfl
theorem EA:binOp .neq t (U x) (U y)=pure (.bool (x !=y)):=by
 have e:((x.toNat:Int) !=(y.toNat:Int))=(x !=y):=by rw [Bool.eq_iff_iff];simp [cast_inj]
 rw [←e];rfl
theorem IF:(18446744073709551616:Nat)=2^64:=by decide
theorem wc (k:IntKind) (n:Nat):binOp .shl t (U x) (.int k (n:Int))=pure (U (x<<<n)):=by
 show Op.shift .shl .u64 (x.toNat:Int) k (n:Int)=_;unfold Op.shift;rw [if_neg (by omega)];refine congrArg pure (Ib _ ?_);rw [BitVec.toNat_shiftLeft,Nat.shiftLeft_eq,Int.toNat_natCast];show ((x.toNat:Int)*2^(min n 64))%((18446744073709551616:Nat):Int)=_;rw [IF];by_cases h:n≤64;rw [Nat.min_eq_left h];norm_cast
 rw [Nat.min_eq_right (by omega)];have e1:x.toNat*2^n%2^64=0:=by
  obtain ⟨d,rfl⟩:∃d,n=64+d:=⟨n - 64,by omega⟩;rw [Nat.pow_add,←Nat.mul_assoc,Nat.mul_right_comm];exact Nat.mul_mod_left _ _
 rw [e1];norm_cast;exact Nat.mul_mod_left _ _
theorem wb (k:IntKind) (n:Nat):binOp .shr t (U x) (.int k (n:Int))=pure (U (x>>>n)):=by
 show Op.shift .shr .u64 (x.toNat:Int) k (n:Int)=_;unfold Op.shift;rw [if_neg (by omega)];refine congrArg pure (congrArg (Value.int .u64) ?_);rw [BitVec.toNat_ushiftRight,Nat.shiftRight_eq_div_pow,Int.toNat_natCast];show Int.fdiv (x.toNat:Int) (2^(min n 64))=_;have hf:∀m:Nat,Int.fdiv (x.toNat:Int) (2^m)=((x.toNat / 2^m:Nat):Int):=by
  intro m;rw [Int.fdiv_eq_ediv_of_nonneg _ (Int.pow_nonneg (by decide))];norm_cast
 rw [hf];by_cases h:n≤64;rw [Nat.min_eq_left h];rw [Nat.min_eq_right (by omega),Nat.div_eq_of_lt x.isLt,Nat.div_eq_of_lt];exact Nat.lt_of_lt_of_le x.isLt (Nat.pow_le_pow_right (by decide) (by omega))
theorem zI (op:BinOp) (a b:Operand):eqGuard op t a b (U x) (U y)=pure ():=by
 unfold eqGuard U;cases op<;>rfl
end
end Go.Proofs.Wit
namespace Go.Proofs.Wit
open Go
def wm (f:FuncId) (r:Option Nat) (t:Array Value) (ds:List Deferred) (k:List Item):Frame:=
 {fn:=f,tmps:=t,todo:=k,defers:=ds,mode:=.run,kind:=.normal,roundOf:=r}
def L5 (P:Program) (r:Option Nat) (f:FuncId) (cs:List Frame) (v:Value) (w:World) (m:Machine):Prop:=
 match r with
 |none=>∃fr,m=lone fr cs w∧fr.fn=f∧fr.leaving P w (.returned v)
 |some _=>∃c cs',cs=c::cs'∧m=lone (c.finish v) cs' w
def dR (P:Program) (r:Option Nat) (f:FuncId) (R:Value→World→Prop) (k:List Item) (t:Array Value) (ds:List Deferred) (w:World):Prop:=
 ∀cs:List Frame,(r.isSome=true→cs≠[])→∃v w' m,R v w'∧Steps P (lone (wm f r t ds k) cs w) m∧L5 P r f cs v w' m
section
variable {P:Program} {r:Option Nat} {f:FuncId} {R:Value→World→Prop} {k k':List Item} {t t':Array Value} {ds ds':List Deferred} {w w':World}
theorem dF:wm f r t ds k=(wm f r #[] [] []).atR ⟨t,ds⟩ k:=rfl
theorem dR.step (hs:∀cs,step P (lone (wm f r t ds k) cs w)=.next (lone (wm f r t' ds' k') cs w')) (h:dR P r f R k' t' ds' w'):dR P r f R k t ds w:=by
 intro cs hc;obtain ⟨v,p,m,D,mT,C⟩:=h cs hc;exact ⟨v,p,m,D,.head (hs cs) mT,C⟩
theorem dR.skip (h:dR P r f R k t ds w):dR P r f R (.code .skip::k) t ds w:=.step (fun _=>by rw [dF,dF];exact stepR_skip) h
theorem dR.inBlock {id:Nat} (h:dR P r f R k t ds w):dR P r f R (.inBlock id::k) t ds w:=.step (fun _=>by rw [dF,dF];exact stepR_inBlock) h
theorem dR.seq {x y:Code} (h:dR P r f R (.code x::.code y::k) t ds w):dR P r f R (.code (.seq x y)::k) t ds w:=.step (fun _=>by rw [dF,dF];exact stepR_seq) h
theorem dR.block {id:Nat} {c:Code} (h:dR P r f R (.code c::.inBlock id::k) t ds w):dR P r f R (.code (.block id c)::k) t ds w:=.step (fun _=>by rw [dF,dF];exact stepR_block) h
theorem dR.loop {c:Code} (h:dR P r f R (.code c::.inLoop c::k) t ds w):dR P r f R (.code (.loop c)::k) t ds w:=.step (fun _=>by rw [dF,dF];exact stepR_loop) h
theorem dR.inLoop {c:Code} (h:dR P r f R (.code c::.inLoop c::k) t ds w):dR P r f R (.inLoop c::k) t ds w:=.step (fun _=>by rw [dF,dF];exact stepR_inLoop) h
theorem dR.exit {id:Nat} (he:exitTo id k=some k') (h:dR P r f R k' t ds w):dR P r f R (.code (.exit id)::k) t ds w:=.step (fun _=>by rw [dF,dF];exact stepR_exit he) h
theorem sr {b:Frame} {a:Act} {k:List Item} {cs:List Frame} {w:World} {c:Code}:
  Go.step P (lone (b.atR a (.inScope c::k)) cs w)=.next (lone (b.atR a k) cs w):=
 step_lone_go (by simp [stepG,stepG.exec,Frame.atR])
theorem dR.inScope {c:Code} (h:dR P r f R k t ds w):dR P r f R (.inScope c::k) t ds w:=.step (fun _=>by rw [dF,dF];exact sr) h
theorem dR.cond {c:Operand} {x y:Code} {b:Bool} (hc:(⟨t,ds⟩:Act).eval c=.bool b) (h:dR P r f R (.code (if b then x else y)::k) t ds w):dR P r f R (.code (.cond c x y)::k) t ds w:=.step (fun _=>by rw [dF,dF];exact stepR_cond hc) h
theorem dR.region {id:Nat} {ops:Array Oper} (h:dR P r f R (.inRegion ops (List.range ops.size)::k) t ds w):dR P r f R (.code (.region id ops false)::k) t ds w:=.step (fun _=>by rw [dF,dF];exact stepR_region) h
theorem dR.jJ {id:Nat} {ops:Array Oper} (h:∀n,dR P r f R (.inRegion ops (Region.schedule (P.follows .mixedOrders) ops n)::k) t ds {w with drawn:=w.drawn+1}):dR P r f R (.code (.region id ops true)::k) t ds w:=.step (fun _=>by rw [dF,dF];exact stepR_region_draw) (h _)
theorem dR.mM {ops:Array Oper} (h:dR P r f R k t ds w):dR P r f R (.inRegion ops []::k) t ds w:=.step (fun _=>by rw [dF,dF];exact stepR_region_end) h
theorem put_eq (t:Array Value) (ds:List Deferred) (d:Option Tmp) (v:Value):((⟨t,ds⟩:Act).put d v)=⟨((⟨t,ds⟩:Act).put d v).tmps,ds⟩:=by cases d<;>rfl
theorem za {b:Frame} {a:Act} {cs:List Frame} {ops:Array Oper} {i:Nat} {rest:List Nat} {o:Oper} {nx:Next} {v:Value} (ho:ops[i]?=some o) (hw:Region.wanted o (yielded ops a.tmps)=true) (h:∀c,o.op≠.defer c)
  (m:(execOp a.eval o).run P w=.ok nx w') (hx:nx=.value v∨(nx=.skip∧v=undef)):
  Go.step P (lone (b.atR a (.inRegion ops (i::rest)::k)) cs w)=.next (lone (b.atR (a.put o.dst v) (.inRegion ops rest::k)) cs w'):=by
 refine step_lone_go ?_;rw [stepGR_op ho hw,Oper.semAt_eq _ _ _ h];have hf:=Frame.finish_atR b a ops i rest k v;rw [ho] at hf;simp only [Option.bind_some] at hf;rcases hx with rfl|⟨rfl,rfl⟩;simp [stepG.apply,Sem.runT_eq,m,GStep.bare_after,hf];simp [stepG.apply,Sem.runT_eq,m,GStep.bare_after,hf]
theorem u9 {b:Frame} {a:Act} {cs:List Frame} {ops:Array Oper} {i:Nat} {rest:List Nat} {o:Oper} {g:FuncId} {args:Array Value} (ho:ops[i]?=some o) (hw:Region.wanted o (yielded ops a.tmps)=true) (h:∀c,o.op≠.defer c)
  (m:(execOp a.eval o).run P w=.ok (.enter g args) w'):
  Go.step P (lone (b.atR a (.inRegion ops (i::rest)::k)) cs w)=.next (lone (Frame.enter P g args .normal) (b.atR a (.inRegion ops (i::rest)::k)::cs) w'):=by
 refine step_lone_go ?_;rw [stepGR_op ho hw,Oper.semAt_eq _ _ _ h];simp [stepG.apply,Sem.runT_eq,m,GStep.bare_after,Frame.atR]
theorem zE {b:Frame} {a:Act} {ops:Array Oper} {i:Nat} {rest:List Nat} {o:Oper} (ho:ops[i]?=some o) (v:Value):(b.atR a (.inRegion ops (i::rest)::k)).finish v=b.atR (a.put o.dst v) (.inRegion ops rest::k):=by
 rw [Frame.finish_atR,ho];rfl
theorem dR.op {ops:Array Oper} {i:Nat} {rest:List Nat} {o:Oper} {nx:Next} {v:Value} (ho:ops[i]?=some o) (hw:Region.wanted o (yielded ops t)=true) (m:∀c,o.op≠.defer c)
  (p:(execOp (Act.eval ⟨t,ds⟩) o).run P w=.ok nx w') (hx:nx=.value v∨(nx=.skip∧v=undef))
  (h:dR P r f R (.inRegion ops rest::k) ((⟨t,ds⟩:Act).put o.dst v).tmps ds w'):dR P r f R (.inRegion ops (i::rest)::k) t ds w:=by
 refine .step (fun cs=>?_) h;have hs:=za (b:=wm f r #[] [] []) (a:=⟨t,ds⟩) (k:=k) (cs:=cs) (rest:=rest) ho hw m p hx;rw [put_eq] at hs;exact hs
theorem dR.pj {ops:Array Oper} {i:Nat} {rest:List Nat} {o:Oper} (ho:ops[i]?=some o) (hw:Region.wanted o (yielded ops t)=false)
  (h:dR P r f R (.inRegion ops rest::k) ((⟨t,ds⟩:Act).put o.dst undef).tmps ds w):dR P r f R (.inRegion ops (i::rest)::k) t ds w:=by
 refine .step (fun cs=>?_) h;have hs:=stepR_op_skip (P:=P) (b:=wm f r #[] [] []) (a:=⟨t,ds⟩) (k:=k) (cs:=cs) (w:=w) (ops:=ops) (i:=i) (rest:=rest) (by simp [ho,hw]);rw [ho,Option.bind_some,put_eq] at hs;exact hs
theorem dR.call {ops:Array Oper} {i:Nat} {rest:List Nat} {o:Oper} {g:FuncId} {args:Array Value} {Rc:Value→World→Prop} (ho:ops[i]?=some o) (hw:Region.wanted o (yielded ops t)=true) (F:∀c,o.op≠.defer c)
  (S:(execOp (Act.eval ⟨t,ds⟩) o).run P w=.ok (.enter g args) w') (hc:Calls P g args w' fun e D=>∃v,e=.returned v∧Rc v D)
  (h:∀v D,Rc v D→dR P r f R (.inRegion ops rest::k) ((⟨t,ds⟩:Act).put o.dst v).tmps ds D):dR P r f R (.inRegion ops (i::rest)::k) t ds w:=by
 intro cs J;obtain ⟨e,D,fr,⟨v,rfl,K⟩,C,T,p⟩:=hc (wm f r t ds (.inRegion ops (i::rest)::k)::cs);obtain ⟨Q,N,m,W,mT,E⟩:=h v D K cs J;have h1:=u9 (b:=wm f r #[] [] []) (a:=⟨t,ds⟩) (k:=k) (cs:=cs) (rest:=rest) ho hw F S;have h2:=step_leave_returned (c:=wm f r t ds (.inRegion ops (i::rest)::k)) (cs:=cs) p;have M:=zE (b:=wm f r #[] [] []) (a:=⟨t,ds⟩) (k:=k) (rest:=rest) ho v;rw [put_eq] at M;exact ⟨Q,N,m,W,.head h1 (Steps.trans C (.head (h2.trans (congrArg (fun x=>Stepped.next (lone x cs D)) M)) mT)),E⟩
end
end Go.Proofs.Wit
namespace Go.Proofs.Wit
open Go Go.RowKit
abbrev Fl:=List (Nat×Value)
def look:Fl→Nat→Option Value
 |[],_=>none
 |(j,v)::l,i=>cond (Nat.beq j i) (some v) (look l i)
def iW (n:Nat) (t:Array Value) (l:Fl):Prop:=t.size=n∧∀i v,look l i=some v→t.getD i undef=v
theorem iW.put {n:Nat} {t:Array Value} {l:Fl} (h:iW n t l) {d:Nat} (v:Value) (hd:Nat.blt d n=true):iW n (t.setIfInBounds d v) ((d,v)::l):=by
 have hd':d<n:=by simpa [Nat.blt_eq] using hd
 refine ⟨by simp [h.1],fun i u hu=>?_⟩;unfold look at hu;cases hb:Nat.beq d i with
 |true=>
  obtain rfl:=Nat.eq_of_beq_eq_true hb;rw [hb] at hu;cases hu;simp [Array.getD_eq_getD_getElem?,h.1,hd']
 |false=>
  rw [hb] at hu;have hne:d≠i:=Nat.ne_of_beq_eq_false hb;have:=h.2 i u hu;rw [←this];simp [Array.getD_eq_getD_getElem?,hne]
def aM (l:Fl):Operand→Option Value
 |.tmp i=>look l i
 |.const v=>some v
 |.global g=>some (.pointer (some ⟨g,0,none⟩))
 |.func f=>some (.func (.func f) #[] #[])
theorem iW.aM {n:Nat} {t:Array Value} {l:Fl} (h:iW n t l) {x:Operand} {v:Value} (hx:aM l x=some v) (ds:List Deferred):Act.eval ⟨t,ds⟩ x=v:=by
 cases x<;>simp only [Wit.aM,Option.some.injEq] at hx
 exact h.2 _ _ hx
 all_goals exact hx
def cP (l:Fl):List Operand→Option (List Value)
 |[]=>some []
 |x::xs=>match Wit.aM l x,cP l xs with
  |some v,some vs=>some (v::vs)
  |_,_=>none
theorem iW.cP {n:Nat} {t:Array Value} {l:Fl} (h:iW n t l) (ds:List Deferred):∀{xs:List Operand} {vs:List Value},cP l xs=some vs→xs.map (Act.eval ⟨t,ds⟩)=vs:=by
 intro xs
 induction xs with
 |nil=>intro vs e;cases e;rfl
 |cons x xs ih=>
  intro vs e;simp only [Wit.cP] at e;cases hx:Wit.aM l x with
  |none=>simp [hx] at e
  |some v=>
   cases hxs:Wit.cP l xs with
   |none=>simp [hx,hxs] at e
   |some us=>
    simp only [hx,hxs,Option.some.injEq] at e;subst e;rw [List.map_cons,h.aM hx,ih hxs]
def bh:Fl→Fl→Prop
 |[],_=>True
 |(i,v)::l',l=>look l i=some v∧bh l' l
theorem bh.nil {l:Fl}:bh [] l:=trivial
theorem bh.cons {l l':Fl} {i:Nat} {v:Value} (h:look l i=some v) (h':bh l' l):bh ((i,v)::l') l:=⟨h,h'⟩
theorem bh.look {l:Fl}:∀{l':Fl},bh l' l→∀{i v},look l' i=some v→Wit.look l i=some v
 |[],_,_,_,h=>by cases h
 |(j,u)::l',hs,i,v,h=>by
  unfold Wit.look at h;cases hb:Nat.beq j i with
  |true=>rw [hb] at h;obtain rfl:=Nat.eq_of_beq_eq_true hb;cases h;exact hs.1
  |false=>rw [hb] at h;exact bh.look hs.2 h
theorem iW.sub {n:Nat} {t:Array Value} {l l':Fl} (h:iW n t l) (hs:bh l' l):iW n t l':=⟨h.1,fun i v hv=>h.2 i v (hs.look hv)⟩
def pO:Obj→Bool
 |.loop _|.deferred _=>true
 |_=>false
structure Ex (S:List Nat) (w0 w:World):Prop where
  os:w.os=w0.os
  tape:w.tape=w0.tape
  output:w.output=w0.output
  size:w0.heap.size≤w.heap.size
  block:∀b,b<w0.heap.size→b∉S→w.heap[b]?=w0.heap[b]?
theorem Ex.refl (S:List Nat) (w:World):Ex S w w:=⟨rfl,rfl,rfl,Nat.le_refl _,fun _ _ _=>rfl⟩
theorem Ex.trans {S S':List Nat} {a b c:World} (h:Ex S a b) (k:Ex S' b c) (hS:∀x∈S',x∈S∨a.heap.size≤x):Ex S a c:=
 ⟨k.os.trans h.os,k.tape.trans h.tape,k.output.trans h.output,Nat.le_trans h.size k.size,fun i hi hn=>
  (k.block i (Nat.lt_of_lt_of_le hi h.size) (fun hm=>by rcases hS i hm with h'|h';exact hn h';omega)).trans (h.block i hi hn)⟩
theorem Ex.toBelow {w0 w:World} (h:Ex [] w0 w):Below w0.heap.size w0 w:=⟨h.os,h.tape,h.output,h.size,fun k hk=>h.block k hk (by simp)⟩
abbrev Hl:=List (Option Nat×Obj)
def mark (D:Nat):Deferred:={target:=.collected D,args:=#[]}
def nR (p q:Option Nat×Obj):Prop:=∀b,p.1=some b→q.1≠some b
structure St (w0:World) (S:List Nat) (w:World) (h:Hl) (Y:List (Nat×Obj)):Prop where
  ext:Ex S w0 w
  own:∀p∈h,∀b,p.1=some b→w.heap[b]?=some p.2∧pO p.2=false∧(w0.heap.size≤b∨b∈S)
  apart:h.Pairwise nR
  sys:∀p∈Y,w0.heap.size≤p.1∧w.heap[p.1]?=some p.2∧pO p.2=true
  yY:(Y.map (·.1)).Nodup
def ou (Ds:List Nat):List (Nat×Obj):=Ds.map (fun D=>(D,.deferred (some [])))
section
variable {w0:World} {S:List Nat} {w w':World} {h:Hl} {Y:List (Nat×Obj)}
theorem St.get (s:St w0 S w h Y) {j b:Nat} {o:Obj} (hj:h[j]?=some (some b,o)):w.heap[b]?=some o:=
 (s.own _ (List.mem_of_getElem? hj) b rfl).1
theorem St.lt (s:St w0 S w h Y) {j b:Nat} {o:Obj} (hj:h[j]?=some (some b,o)):b<w.heap.size:=
 (Array.getElem?_eq_some_iff.1 (s.get hj)).1
theorem St.inj (s:St w0 S w h Y) {i j b:Nat} {o o':Obj} (hi:h[i]?=some (some b,o)) (hj:h[j]?=some (some b,o')):i=j:=by
 obtain ⟨i1,i2⟩:=List.getElem?_eq_some_iff.1 hi;obtain ⟨j1,j2⟩:=List.getElem?_eq_some_iff.1 hj;have:=List.pairwise_iff_getElem.1 s.apart;rcases Nat.lt_trichotomy i j with hlt|he|hlt;exact absurd (by rw [j2]) (this i j i1 j1 hlt b (by rw [i2]));exact he;exact absurd (by rw [i2]) (this j i j1 i1 hlt b (by rw [j2]))
theorem heap_alloc_new (w:World) (o:Obj):(w.alloc o).heap[w.heap.size]?=some o:=by
 show (w.heap.push o)[w.heap.size]?=some o;simp
theorem St.pq (s:St w0 S w h Y) {b:Nat} {o:Obj} (hb:w.heap.size≤b):∀q∈h,nR (some b,o) q:=by
 intro q hq c hc hqc;cases hc;have:=(Array.getElem?_eq_some_iff.1 (s.own q hq b hqc).1).1;omega
theorem St.later (s:St w0 S w h Y) (e:Ex [] w w'):St w0 S w' h Y:=by
 have hk:∀b (o:Obj),w.heap[b]?=some o→w'.heap[b]?=some o:=fun b o hb=>by
  rw [e.block b (Array.getElem?_eq_some_iff.1 hb).1 (by simp)];exact hb
 refine ⟨s.ext.trans e (by simp),fun p hp b hb=>?_,s.apart,fun D hD=>?_,s.yY⟩;obtain ⟨h1,h2,h3⟩:=s.own p hp b hb;exact ⟨hk _ _ h1,h2,h3⟩;obtain ⟨h1,h2,h3⟩:=s.sys D hD;exact ⟨h1,hk _ _ h2,h3⟩
theorem St.Br (s:St w0 S w h Y) (e:Ex [] w w') {b:Nat} {o:Obj} (hb:w'.heap[b]?=some o) (ho:pO o=false) (hn:w.heap.size≤b):St w0 S w' ((some b,o)::h) Y:=by
 have s':=s.later e;refine ⟨s'.ext,?_,List.pairwise_cons.2 ⟨s.pq hn,s.apart⟩,s'.sys,s'.yY⟩;intro p hp c hc;rcases List.mem_cons.1 hp with rfl|hp;cases hc;exact ⟨hb,ho,.inl (Nat.le_trans s.ext.size hn)⟩;exact s'.own p hp c hc
theorem rR (w:World) (o:Obj):Ex [] w (w.alloc o):=
 ⟨rfl,rfl,rfl,by rw [World.size_alloc];omega,fun b hb _=>Below.heap_alloc _ _ _ hb⟩
theorem St.alloc (s:St w0 S w h Y) {o:Obj} (ho:pO o=false):St w0 S (w.alloc o) ((some w.heap.size,o)::h) Y:=
 s.Br (rR w o) (heap_alloc_new w o) ho (Nat.le_refl _)
theorem St.none (s:St w0 S w h Y) (o:Obj):St w0 S w ((none,o)::h) Y:=
 ⟨s.ext,fun p hp c hc=>by
  rcases List.mem_cons.1 hp with rfl|hp;cases hc;exact s.own p hp c hc,List.pairwise_cons.2 ⟨fun q _ c hc=>by simp at hc,s.apart⟩,s.sys,s.yY⟩
theorem uC (w:World):Ex [] w {w with drawn:=w.drawn+1}:=⟨rfl,rfl,rfl,Nat.le_refl _,fun _ _ _=>rfl⟩
theorem St.drew (s:St w0 S w h Y):St w0 S {w with drawn:=w.drawn+1} h Y:=s.later (uC w)
theorem St.pZ (s:St w0 S w h Y) {j b:Nat} {o o':Obj} (hj:h[j]?=some (some b,o)) (ho:pO o'=false)
  (h1:w'.os=w.os) (h2:w'.tape=w.tape) (h3:w'.output=w.output) (h4:w.heap.size≤w'.heap.size) (h5:w'.heap[b]?=some o') (h6:∀i,i<w.heap.size→i≠b→w'.heap[i]?=w.heap[i]?):St w0 S w' (h.set j (some b,o')) Y:=by
 have hb:=s.own _ (List.mem_of_getElem? hj) b rfl;have hjl:j<h.length:=(List.getElem?_eq_some_iff.1 hj).1;have hbl:=s.lt hj;refine ⟨⟨h1.trans s.ext.os,h2.trans s.ext.tape,h3.trans s.ext.output,Nat.le_trans s.ext.size h4,?_⟩,?_,?_,?_,s.yY⟩;intro i hi hn;have hne:i≠b:=by
  rintro rfl;rcases hb.2.2 with hc|hc;omega;exact hn hc
 rw [h6 i (Nat.lt_of_lt_of_le hi s.ext.size) hne];exact s.ext.block i hi hn;intro p hp c hc;obtain ⟨i,hi⟩:=List.mem_iff_getElem?.1 hp;rw [List.getElem?_set] at hi;split at hi;rename_i e;subst e;simp at hi;obtain ⟨_,rfl⟩:=hi;cases hc;exact ⟨h5,ho,hb.2.2⟩;rename_i hne;obtain ⟨q1,q2,q3⟩:=s.own p (List.mem_of_getElem? hi) c hc;refine ⟨?_,q2,q3⟩;rw [h6 c (Array.getElem?_eq_some_iff.1 q1).1 ?_];exact q1;rintro rfl;obtain ⟨p1,p2⟩:=p;simp only at hc;subst hc;exact hne (s.inj hj hi);rw [List.pairwise_iff_getElem];intro i i' hi hi' hlt c hc hc';rw [List.length_set] at hi hi';have hap:=List.pairwise_iff_getElem.1 s.apart i i' hi hi' hlt c;obtain ⟨_,hj2⟩:=List.getElem?_eq_some_iff.1 hj;rw [List.getElem_set] at hc hc';apply hap;split at hc;rename_i e;subst e;rw [hj2];exact hc;exact hc;split at hc';rename_i e;subst e;rw [hj2];exact hc';exact hc';intro D hD;obtain ⟨m1,m2,m3⟩:=s.sys D hD;refine ⟨m1,?_,m3⟩;rw [h6 D.1 (Array.getElem?_eq_some_iff.1 m2).1 ?_];exact m2;intro e;rw [e] at m2;have e1:=Option.some.inj (hb.1.symm.trans m2);rw [←e1,hb.2.1] at m3;cases m3
theorem St.cn {h':Hl} (s:St w0 S w h Y) (hs:h'.Sublist h):St w0 S w h' Y:=
 ⟨s.ext,fun p hp=>s.own p (hs.subset hp),s.apart.sublist hs,s.sys,s.yY⟩
theorem St.swap (s:St w0 S w h Y) (e:Ex [] w w') (j:Nat) {b:Nat} {o:Obj} (hb:w'.heap[b]?=some o) (ho:pO o=false) (hn:w.heap.size≤b):St w0 S w' (h.set j (some b,o)) Y:=by
 have s':=s.later e;refine ⟨s'.ext,?_,?_,s'.sys,s'.yY⟩;intro p hp c hc;obtain ⟨i,hi⟩:=List.mem_iff_getElem?.1 hp;rw [List.getElem?_set] at hi;split at hi;simp at hi;obtain ⟨_,rfl⟩:=hi;cases hc;exact ⟨hb,ho,.inl (Nat.le_trans s.ext.size hn)⟩;exact s'.own p (List.mem_of_getElem? hi) c hc;rw [List.pairwise_iff_getElem];intro i i' hi hi' hlt c hc hc';rw [List.length_set] at hi hi';rw [List.getElem_set] at hc hc';split at hc;split at hc';omega;exact s.pq hn (o:=o) _ (List.getElem_mem hi') c hc hc';split at hc';exact s.pq hn (o:=o) _ (List.getElem_mem hi) c hc' hc;exact List.pairwise_iff_getElem.1 s.apart i i' hi hi' hlt c hc hc'
end
def ab (P:Program) (r:Option Nat) (f:FuncId) (R:Value→World→Prop) (w0:World) (S:List Nat) (Y:List (Nat×Obj)) (n:Nat) (k:List Item) (l:Fl) (h:Hl):Prop:=
 ∀t w Ds,iW n t l→St w0 S w h (ou Ds++Y)→dR P r f R k t (Ds.map mark) w
def aq (ops:Array Oper) (l:Fl):Option (Nat×Bool)→Bool
 |none=>true
 |some (j,want)=>match (ops[j]?).bind (·.dst) with
  |some d=>match look l d with
   |some (.bool b)=>b==want
   |_=>false
  |none=>false
def nh (ops:Array Oper) (l:Fl):Option (Nat×Bool)→Bool
 |none=>false
 |some (j,want)=>match (ops[j]?).bind (·.dst) with
  |some d=>match look l d with
   |some (.bool b)=>b !=want
   |some (.tuple _)=>true
   |_=>false
  |none=>false
def fO:Op→Bool
 |.defer _=>true
 |_=>false
theorem du {o:Op} (h:fO o=false):∀c,o≠.defer c:=by rintro c rfl;cases h
section
variable {P:Program} {r:Option Nat} {f:FuncId} {R:Value→World→Prop} {w0:World} {S:List Nat} {Y:List (Nat×Obj)} {n:Nat} {k k':List Item} {l l':Fl} {h h':Hl}
theorem qJ {ops:Array Oper} {t:Array Value} {j d:Nat} {v:Value} (hF:iW n t l) (hd:(ops[j]?).bind (·.dst)=some d) (hv:look l d=some v) (hne:v≠undef):
  yielded ops t j=match v with|.bool b=>some b|_=>none:=by
 have h1:=hF.2 _ _ hv;unfold yielded;rw [hd];simp only [Option.bind_some];rw [Array.getD_eq_getD_getElem?] at h1;cases ht:t[d]? with
 |none=>rw [ht] at h1;simp at h1;exact absurd h1.symm hne
 |some u=>rw [ht] at h1;simp at h1;subst h1;cases u<;>rfl
theorem eJ {ops:Array Oper} {t:Array Value} {o:Oper} (hF:iW n t l) (hw:aq ops l o.guard=true):Region.wanted o (yielded ops t)=true:=by
 unfold Region.wanted;cases hg:o.guard with
 |none=>rfl
 |some p=>
  obtain ⟨j,want⟩:=p;rw [hg] at hw;simp only [aq] at hw;split at hw;rename_i d hd;split at hw;rename_i b hb;show (yielded ops t j==some want)=true;rw [qJ hF hd hb (by simp [undef])];simp only [beq_iff_eq] at hw;subst hw;simp;cases hw;cases hw
theorem oe {ops:Array Oper} {t:Array Value} {o:Oper} (hF:iW n t l) (hw:nh ops l o.guard=true):Region.wanted o (yielded ops t)=false:=by
 unfold Region.wanted;cases hg:o.guard with
 |none=>rw [hg] at hw;cases hw
 |some p=>
  obtain ⟨j,want⟩:=p;rw [hg] at hw;simp only [nh] at hw;split at hw;rename_i d hd;split at hw;rename_i b hb;show (yielded ops t j==some want)=false;rw [qJ hF hd hb (by simp [undef])];simp at hw⊢;exact hw;rename_i vs hb;have h1:=hF.2 _ _ hb;have:yielded ops t j=none:=by
   unfold yielded;rw [hd];simp only [Option.bind_some];rw [Array.getD_eq_getD_getElem?] at h1;cases ht:t[d]? with
   |none=>rfl
   |some u=>rw [ht] at h1;simp at h1;subst h1;rfl
  show (yielded ops t j==some want)=false;rw [this];rfl;cases hw;cases hw
theorem ab.sub (hs:bh l' l) (hg:ab P r f R w0 S Y n k l' h):ab P r f R w0 S Y n k l h:=fun t w Ds hF hS=>hg t w Ds (hF.sub hs) hS
theorem ab.cn (hs:h'.Sublist h) (hg:ab P r f R w0 S Y n k l h'):ab P r f R w0 S Y n k l h:=fun t w Ds hF hS=>hg t w Ds hF (hS.cn hs)
theorem ab.skip (hg:ab P r f R w0 S Y n k l h):ab P r f R w0 S Y n (.code .skip::k) l h:=fun t w Ds hF hS=>.skip (hg t w Ds hF hS)
theorem ab.inBlock {id:Nat} (hg:ab P r f R w0 S Y n k l h):ab P r f R w0 S Y n (.inBlock id::k) l h:=fun t w Ds hF hS=>.inBlock (hg t w Ds hF hS)
theorem ab.seq {x y:Code} (hg:ab P r f R w0 S Y n (.code x::.code y::k) l h):ab P r f R w0 S Y n (.code (.seq x y)::k) l h:=fun t w Ds hF hS=>.seq (hg t w Ds hF hS)
theorem ab.block {id:Nat} {c:Code} (hg:ab P r f R w0 S Y n (.code c::.inBlock id::k) l h):ab P r f R w0 S Y n (.code (.block id c)::k) l h:=fun t w Ds hF hS=>.block (hg t w Ds hF hS)
theorem ab.inScope {c:Code} (hg:ab P r f R w0 S Y n k l h):ab P r f R w0 S Y n (.inScope c::k) l h:=fun t w Ds hF hS=>.inScope (hg t w Ds hF hS)
theorem ab.exit {id:Nat} (he:exitTo id k=some k') (hg:ab P r f R w0 S Y n k' l h):ab P r f R w0 S Y n (.code (.exit id)::k) l h:=fun t w Ds hF hS=>.exit he (hg t w Ds hF hS)
theorem ab.region {id:Nat} {ops:Array Oper} (hg:ab P r f R w0 S Y n (.inRegion ops (List.range' 0 ops.size)::k) l h):ab P r f R w0 S Y n (.code (.region id ops false)::k) l h:=fun t w Ds hF hS=>.region (by rw [List.range_eq_range'];exact hg t w Ds hF hS)
theorem ab.mM {ops:Array Oper} (hg:ab P r f R w0 S Y n k l h):ab P r f R w0 S Y n (.inRegion ops []::k) l h:=fun t w Ds hF hS=>.mM (hg t w Ds hF hS)
theorem ab.cond {c:Operand} {x y:Code} {b:Bool} (hc:aM l c=some (.bool b)) (ht:b=true→ab P r f R w0 S Y n (.code x::k) l h) (hf:b=false→ab P r f R w0 S Y n (.code y::k) l h):ab P r f R w0 S Y n (.code (.cond c x y)::k) l h:=fun t w Ds hF hS=>
 .cond (hF.aM hc _) (by cases b;exact hf rfl t w Ds hF hS;exact ht rfl t w Ds hF hS)
theorem ab.dO {c:Operand} {x y:Code} (hc:aM l c=some (.bool true)) (ht:ab P r f R w0 S Y n (.code x::k) l h):ab P r f R w0 S Y n (.code (.cond c x y)::k) l h:=.cond hc (fun _=>ht) (fun e=>by cases e)
theorem ab.kY {c:Operand} {x y:Code} (hc:aM l c=some (.bool false)) (hf:ab P r f R w0 S Y n (.code y::k) l h):ab P r f R w0 S Y n (.code (.cond c x y)::k) l h:=.cond hc (fun e=>by cases e) (fun _=>hf)
theorem ab.cases {d:Nat} {b:Bool} (hv:look l d=some (.bool b)) (ht:b=true→ab P r f R w0 S Y n k ((d,.bool true)::l) h) (hf:b=false→ab P r f R w0 S Y n k ((d,.bool false)::l) h):ab P r f R w0 S Y n k l h:=by
 have key:∀t c,iW n t l→b=c→iW n t ((d,.bool c)::l):=by
  rintro t c hF rfl;refine ⟨hF.1,fun i u hu=>?_⟩;unfold look at hu;cases hb:Nat.beq d i with
  |true=>rw [hb] at hu;obtain rfl:=Nat.eq_of_beq_eq_true hb;cases hu;exact hF.2 _ _ hv
  |false=>rw [hb] at hu;exact hF.2 _ _ hu
 cases b;exact fun t w Ds hF hS=>hf rfl t w Ds (key t _ hF rfl) hS;exact fun t w Ds hF hS=>ht rfl t w Ds (key t _ hF rfl) hS
theorem ab.loop {σ:Type} {c:Code} (L:σ→Fl) (H:σ→Hl) (I:σ→Prop) (μ:σ→Nat) (s0:σ) (h0:I s0) (hl:bh (L s0) l) (hh:(H s0).Sublist h)
  (round:∀s,I s→(∀(s':σ) (l':Fl) (h':Hl),I s'→μ s'<μ s→bh (L s') l'→(H s').Sublist h'→ab P r f R w0 S Y n (.inLoop c::k) l' h')→ab P r f R w0 S Y n (.code c::.inLoop c::k) (L s) (H s)):
  ab P r f R w0 S Y n (.code (.loop c)::k) l h:=by
 have key:∀m s,μ s=m→I s→ab P r f R w0 S Y n (.code c::.inLoop c::k) (L s) (H s):=by
  intro m
  induction m using Nat.strongRecOn with
  |_ m ih=>
   intro s hm hI;refine round s hI (fun s' l' h' hI' hlt hsl hsh=>?_);have:=ih (μ s') (hm ▸ hlt) s' rfl hI';exact .sub hsl (.cn hsh (fun t w Ds hF hS=>.inLoop (this t w Ds hF hS)))
 exact .sub hl (.cn hh (fun t w Ds hF hS=>.loop (key _ s0 rfl h0 t w Ds hF hS)))
theorem ab.val {ops:Array Oper} {i d:Nat} {rest:List Nat} {o:Oper} {v:Value} (ho:ops[i]?=some o) (hw:aq ops l o.guard=true) (hdst:o.dst=some d) (hnd:fO o.op=false) (hd:Nat.blt d n=true)
  (hr:∀(t:Array Value) (w:World) (Ds:List Nat) (Y':List (Nat×Obj)),iW n t l→St w0 S w h Y'→∃nx,(execOp (Act.eval ⟨t,Ds.map mark⟩) o).run P w=.ok nx w∧nx=.value v)
  (hk:ab P r f R w0 S Y n (.inRegion ops rest::k) ((d,v)::l) h):ab P r f R w0 S Y n (.inRegion ops (i::rest)::k) l h:=by
 intro t w Ds hF hS;obtain ⟨nx,hx,rfl⟩:=hr t w Ds _ hF hS;refine dR.op ho (eJ hF hw) (du hnd) hx (.inl rfl) ?_;rw [hdst];exact hk _ w Ds (hF.put v hd) hS
theorem ab.mem {ops:Array Oper} {i d:Nat} {rest:List Nat} {o:Oper} (ho:ops[i]?=some o) (hw:aq ops l o.guard=true) (hdst:o.dst=some d) (hnd:fO o.op=false) (hd:Nat.blt d n=true)
  (hr:∀(t:Array Value) (w:World) (Ds:List Nat) (Y':List (Nat×Obj)),iW n t l→St w0 S w h Y'→∃v w' h',(execOp (Act.eval ⟨t,Ds.map mark⟩) o).run P w=.ok (.value v) w'∧St w0 S w' h' Y'∧ab P r f R w0 S Y n (.inRegion ops rest::k) ((d,v)::l) h'):
  ab P r f R w0 S Y n (.inRegion ops (i::rest)::k) l h:=by
 intro t w Ds hF hS;obtain ⟨v,w',h',hx,hS',hk⟩:=hr t w Ds _ hF hS;refine dR.op ho (eJ hF hw) (du hnd) hx (.inl rfl) ?_;rw [hdst];exact hk _ w' Ds (hF.put v hd) hS'
theorem ab.Kv {ops:Array Oper} {i:Nat} {rest:List Nat} {o:Oper} (ho:ops[i]?=some o) (hw:aq ops l o.guard=true) (hdst:o.dst=none) (hnd:fO o.op=false)
  (hr:∀(t:Array Value) (w:World) (Ds:List Nat) (Y':List (Nat×Obj)),iW n t l→St w0 S w h Y'→∃w' h',(execOp (Act.eval ⟨t,Ds.map mark⟩) o).run P w=.ok .skip w'∧St w0 S w' h' Y'∧ab P r f R w0 S Y n (.inRegion ops rest::k) l h'):
  ab P r f R w0 S Y n (.inRegion ops (i::rest)::k) l h:=by
 intro t w Ds hF hS;obtain ⟨w',h',hx,hS',hk⟩:=hr t w Ds _ hF hS;refine dR.op ho (eJ hF hw) (du hnd) hx (.inr ⟨rfl,rfl⟩) ?_;rw [hdst];exact hk _ w' Ds hF hS'
theorem ab.no {ops:Array Oper} {i d:Nat} {rest:List Nat} {o:Oper} (ho:ops[i]?=some o) (hw:nh ops l o.guard=true) (hdst:o.dst=some d) (hd:Nat.blt d n=true)
  (hk:ab P r f R w0 S Y n (.inRegion ops rest::k) ((d,undef)::l) h):ab P r f R w0 S Y n (.inRegion ops (i::rest)::k) l h:=by
 intro t w Ds hF hS;refine dR.pj ho (oe hF hw) ?_;rw [hdst];exact hk _ w Ds (hF.put undef hd) hS
def af (P:Program) (w0:World) (S:List Nat) (n:Nat) (h:Hl) (ops:Array Oper) (i:Nat) (l:Fl) (d:Nat) (v:Value):Prop:=
 ∃o,ops[i]?=some o∧aq ops l o.guard=true∧o.dst=some d∧fO o.op=false∧Nat.blt d n=true∧
  ∀(t:Array Value) (w:World) (Ds:List Nat) (Y':List (Nat×Obj)),iW n t l→St w0 S w h Y'→∃nx,(execOp (Act.eval ⟨t,Ds.map mark⟩) o).run P w=.ok nx w∧nx=.value v
theorem af.of {ops:Array Oper} {i d:Nat} {o:Oper} {v:Value} (ho:ops[i]?=some o) (hw:aq ops l o.guard=true) (hdst:o.dst=some d) (hnd:fO o.op=false) (hd:Nat.blt d n=true)
  (hr:∀(t:Array Value) (w:World) (Ds:List Nat) (Y':List (Nat×Obj)),iW n t l→St w0 S w h Y'→∃nx,(execOp (Act.eval ⟨t,Ds.map mark⟩) o).run P w=.ok nx w∧nx=.value v):af P w0 S n h ops i l d v:=
 ⟨o,ho,hw,hdst,hnd,hd,hr⟩
theorem ab.v {ops:Array Oper} {i d:Nat} {rest:List Nat} {v:Value} (hv:af P w0 S n h ops i l d v) (hk:ab P r f R w0 S Y n (.inRegion ops rest::k) ((d,v)::l) h):ab P r f R w0 S Y n (.inRegion ops (i::rest)::k) l h:=by
 obtain ⟨o,ho,hw,hdst,hnd,hd,hr⟩:=hv;exact .val ho hw hdst hnd hd hr hk
end
section
variable {P:Program} {r:Option Nat} {f:FuncId} {R:Value→World→Prop} {w0:World} {S:List Nat} {Y:List (Nat×Obj)} {n:Nat} {k k':List Item} {l l':Fl} {h h':Hl}
variable {ops:Array Oper} {i d:Nat} {rest:List Nat} {ty:TypeId} {pos:String} {aft:Array Edge} {g:Option (Nat×Bool)}
theorem af.mv {x:Operand} {v:Value} (ho:ops[i]?=some ⟨some d,.move x,ty,pos,aft,g⟩) (hw:aq ops l g=true) (hx:aM l x=some v) (hd:Nat.blt d n=true):af P w0 S n h ops i l d (v):=
 .of ho hw rfl rfl hd (fun t w Ds _ hF _=>⟨_,by simp only [execOp,hF.aM hx];rfl,rfl⟩)
theorem af.zQ {x:Operand} {v:Value} (ho:ops[i]?=some ⟨some d,.assign x,ty,pos,aft,g⟩) (hw:aq ops l g=true) (hx:aM l x=some v) (hd:Nat.blt d n=true):af P w0 S n h ops i l d (v):=
 .of ho hw rfl rfl hd (fun t w Ds _ hF _=>⟨_,by simp only [execOp,hF.aM hx];rfl,rfl⟩)
theorem af.eD {c x y:Operand} {u:Value} (ho:ops[i]?=some ⟨some d,.pick c x y,ty,pos,aft,g⟩) (hw:aq ops l g=true) (hc:aM l c=some (.bool true)) (hx:aM l x=some u) (hd:Nat.blt d n=true):af P w0 S n h ops i l d (u):=
 .of ho hw rfl rfl hd (fun t w Ds _ hF _=>⟨_,by simp only [execOp,hF.aM hc,hF.aM hx];rfl,rfl⟩)
theorem af.E1 {c x y:Operand} {u:Value} (ho:ops[i]?=some ⟨some d,.pick c x y,ty,pos,aft,g⟩) (hw:aq ops l g=true) (hc:aM l c=some (.bool false)) (hy:aM l y=some u) (hd:Nat.blt d n=true):af P w0 S n h ops i l d (u):=
 .of ho hw rfl rfl hd (fun t w Ds _ hF _=>⟨_,by simp only [execOp,hF.aM hc,hF.aM hy];rfl,rfl⟩)
def ly (P:Program) (op:BinOp) (tx:TypeId) (a b v:Value):Prop:=∀(x y:Operand) (w:World),(do eqGuard op tx x y a b;binOp op tx a b:Sem Value).run P w=.ok v w
theorem af.bin {op:BinOp} {tx tyy:TypeId} {x y:Operand} {a b v:Value} (ho:ops[i]?=some ⟨some d,.binOp op tx x y tyy,ty,pos,aft,g⟩) (hw:aq ops l g=true) (hx:aM l x=some a) (hy:aM l y=some b) (hb:ly P op tx a b v) (hd:Nat.blt d n=true):af P w0 S n h ops i l d (v):=
 .of ho hw rfl rfl hd (fun t w Ds _ hF _=>⟨.value v,by
  have:=hb x y w;simp only [execOp,hF.aM hx,hF.aM hy];rw [Sem.run_bind,this];rfl,rfl⟩)
def JV (P:Program) (op:UnOp) (a v:Value):Prop:=∀(w:World),(Op.unary op a).run P w=.ok v w
theorem af.un {op:UnOp} {tx:TypeId} {x:Operand} {a v:Value} (ho:ops[i]?=some ⟨some d,.unOp op tx x,ty,pos,aft,g⟩) (hw:aq ops l g=true) (hx:aM l x=some a) (hb:JV P op a v) (hd:Nat.blt d n=true):af P w0 S n h ops i l d (v):=
 .of ho hw rfl rfl hd (fun t w Ds _ hF _=>⟨.value v,by
  have:=hb w;simp only [execOp,hF.aM hx];rw [Sem.run_bind,this];rfl,rfl⟩)
def Ln (P:Program) (s t:TypeId) (a v:Value):Prop:=∀(w:World),(convert s t a).run P w=.ok v w
theorem af.conv {s t:TypeId} {x:Operand} {a v:Value} (ho:ops[i]?=some ⟨some d,.convert s t x,ty,pos,aft,g⟩) (hw:aq ops l g=true) (hx:aM l x=some a) (hb:Ln P s t a v) (hd:Nat.blt d n=true):af P w0 S n h ops i l d (v):=
 .of ho hw rfl rfl hd (fun t w Ds _ hF _=>⟨.value v,by
  have:=hb w;simp only [execOp,hF.aM hx];rw [Sem.run_bind,this];rfl,rfl⟩)
theorem af.ext {x:Operand} {j:Nat} {vs:Array Value} {v:Value} (ho:ops[i]?=some ⟨some d,.extract x j,ty,pos,aft,g⟩) (hw:aq ops l g=true) (hx:aM l x=some (.tuple vs)) (hb:vs[j]?=some v) (hd:Nat.blt d n=true):af P w0 S n h ops i l d (v):=
 .of ho hw rfl rfl hd (fun t w Ds _ hF _=>⟨.value v,by
  simp only [execOp,hF.aM hx,Instr.extract,hb];rfl,rfl⟩)
theorem af.wP {fn:Fn} {first captured:Array Operand} {fs cs:List Value} (ho:ops[i]?=some ⟨some d,.makeFunc fn first captured,ty,pos,aft,g⟩) (hw:aq ops l g=true) (hf:cP l first.toList=some fs) (hc:cP l captured.toList=some cs) (hd:Nat.blt d n=true):af P w0 S n h ops i l d (.func fn fs.toArray cs.toArray):=
 .of ho hw rfl rfl hd (fun t w Ds _ hF _=>⟨.value (.func fn fs.toArray cs.toArray),by
  have e1:first.map (Act.eval ⟨t,Ds.map mark⟩)=fs.toArray:=by rw [←Array.toList_inj];simp [hF.cP (Ds.map mark) hf]
  have e2:captured.map (Act.eval ⟨t,Ds.map mark⟩)=cs.toArray:=by rw [←Array.toList_inj];simp [hF.cP (Ds.map mark) hc]
  simp only [execOp,Instr.makeFunc,e1,e2];rfl,rfl⟩)
def KW (P:Program) (b:Builtin) (ts:Array TypeId) (ty:TypeId) (vs:List Value) (v:Value):Prop:=∀(cs:Array Bool) (w:World),(builtin b ts ty cs vs.toArray).run P w=.ok (.value v) w
theorem af.blt {b:Builtin} {az:Array Operand} {ts:Array TypeId} {vs:List Value} {v:Value} (ho:ops[i]?=some ⟨some d,.call ⟨.builtin b,az,ts⟩,ty,pos,aft,g⟩) (hw:aq ops l g=true) (hx:cP l az.toList=some vs) (hb:KW P b ts ty vs v) (hd:Nat.blt d n=true):af P w0 S n h ops i l d (v):=
 .of ho hw rfl rfl hd (fun t w Ds _ hF _=>⟨.value v,by
  have e1:az.map (Act.eval ⟨t,Ds.map mark⟩)=vs.toArray:=by rw [←Array.toList_inj];simp [hF.cP (Ds.map mark) hx]
  have:=hb (az.map fun|.const _=>true|_=>false) w;simp only [execOp,resolve,e1,Sem.run_bind,Sem.run_pure,Result.andThen_ok,invoke];exact this,rfl⟩)
theorem eA {t e:TypeId} (hu:P.underlying t=some (.slice e)) {a:Option Addr} {m c:Nat}:KW P .len #[t] ty [.slice a m c] (.int .i64 m):=by
 intro cs w;simp [builtin,Builtin.len_,run_underlying hu,goInt]
def ny (a:Option Addr) (i:Nat):Addr:=⟨(a.getD ⟨0,0,none⟩).block,(a.getD ⟨0,0,none⟩).off+i,none⟩
structure Sl (w:World) (a:Option Addr) (xs:List Value):Prop where
  isSome:0<xs.length→∃b o,a=some ⟨b,o,none⟩∧b<w.heap.size
  cell:∀i,i<xs.length→w.cell? (ny a i)=some (xs.getD i undef)
theorem Sl.ex {w0 w:World} {S:List Nat} {a:Option Addr} {xs:List Value} (h:Sl w0 a xs) (e:Ex S w0 w) (hS:∀b o,a=some ⟨b,o,none⟩→b∉S):Sl w a xs:=by
 refine ⟨fun h0=>?_,fun i hi=>?_⟩;obtain ⟨b,o,ha,hb⟩:=h.isSome h0;exact ⟨b,o,ha,Nat.lt_of_lt_of_le hb e.size⟩;obtain ⟨b,o,ha,hb⟩:=h.isSome (by omega);rw [←h.cell i hi];refine World.cell?_of_block ?_;subst ha;exact e.block b hb (hS b o rfl)
theorem Sl.nil (w:World) (a:Option Addr):Sl w a []:=⟨fun h=>by simp at h,fun i hi=>by simp at hi⟩
theorem Sl.db {w:World} {b:Nat} {xs sp:List Value} {e:TypeId} {fr:Nat×Nat} (h:w.heap[b]?=some (.cells (xs++sp).toArray e fr)):Sl w (some ⟨b,0,none⟩) xs:=by
 refine ⟨fun _=>⟨b,0,rfl,(Array.getElem?_eq_some_iff.1 h).1⟩,fun i hi=>?_⟩;simp [World.cell?,ny,h,List.getElem?_append,hi]
theorem D2 {w:World} {a:Option Addr} {xs:List Value} (h:Sl w a xs) {t e:TypeId}
  (hu:P.underlying t=some (.slice e)) (he:∀w,(sizeOf e).run P w=.ok 1 w) (cap:Nat) (kd:IntKind) (j:Nat) (hj:j<xs.length) (w':World):
  (Instr.indexAt t (.slice a xs.length cap) (.int kd j)).run P w'=.ok (.pointer (some (ny a j))) w':=by
 obtain ⟨b,o,rfl,_⟩:=h.isSome (by omega);simp only [Instr.indexAt,asIntOf,Sem.run_bind,Sem.run_pure,Result.andThen_ok,run_underlying hu];rw [if_pos ⟨by omega,by omega⟩];simp only [Sem.run_bind,he,Result.andThen_ok,Sem.run_pure,Addr.add,ny,Nat.mul_one,Option.getD_some,Int.toNat_natCast];split;rename_i h0;rw [h0];rfl;rfl
theorem af.idx {t e:TypeId} {x y:Operand} {a:Option Addr} {m cap:Nat} {kd:IntKind} {j:Int} {xs:List Value} (ho:ops[i]?=some ⟨some d,.indexAddr t x y,ty,pos,aft,g⟩) (hw:aq ops l g=true)
  (hx:aM l x=some (.slice a m cap)) (hy:aM l y=some (.int kd j)) (hd:Nat.blt d n=true) (hu:P.underlying t=some (.slice e)) (he:∀w,(sizeOf e).run P w=.ok 1 w)
  (hs:∃w,Sl w a xs) (hm:m=xs.length) (j':Nat) (hj:j=j'∧j'<xs.length):af P w0 S n h ops i l d (.pointer (some (ny a j'))):=by
 obtain ⟨w1,hs⟩:=hs;obtain ⟨rfl,hj⟩:=hj;subst hm;exact .of ho hw rfl rfl hd (fun t w Ds _ hF _=>⟨.value (.pointer (some (ny a j'))),by
  simp only [execOp,hF.aM hx,hF.aM hy,Sem.run_bind,D2 hs hu he cap kd j' hj w];rfl,rfl⟩)
theorem A8 {t:TypeId} (ha:∀w,(isAgg t).run P w=.ok false w) {p:Addr} {v:Value} {w:World} (hc:w.cell? p=some v):(Instr.loadAt t (.pointer (some p))).run P w=.ok v w:=by
 simp [Instr.loadAt,Instr.sureAddr,loadVar,ha,hc]
theorem af.ld {t:TypeId} {x:Operand} {p:Addr} {v:Value} (ho:ops[i]?=some ⟨some d,.load t x,ty,pos,aft,g⟩) (hw:aq ops l g=true)
  (hx:aM l x=some (.pointer (some p))) (hd:Nat.blt d n=true) (ha:∀w,(isAgg t).run P w=.ok false w) (hc:∀w Y',St w0 S w h Y'→w.cell? p=some v):af P w0 S n h ops i l d (v):=
 .of ho hw rfl rfl hd (fun t w Ds _ hF hS=>⟨.value v,by
  simp only [execOp,hF.aM hx,Sem.run_bind,A8 ha (hc w _ hS)];rfl,rfl⟩)
theorem af.dh {t:TypeId} {x:Operand} {p:Addr} {v:Value} (ha:∀w,(isAgg t).run P w=.ok false w) (hc:∀w Y',St w0 S w h Y'→w.cell? p=some v) (ho:ops[i]?=some ⟨some d,.load t x,ty,pos,aft,g⟩:=by exact rfl) (hw:aq ops l g=true:=by exact rfl) (hx:aM l x=some (.pointer (some p)):=by exact rfl) (hd:Nat.blt d n=true:=by exact rfl):af P w0 S n h ops i l d (v):=af.ld (ho:=ho) (hw:=hw) (hx:=hx) (hd:=hd) (ha:=ha) (hc:=hc)
theorem af.te {t:TypeId} {x:Operand} {b off:Nat} {cs:Array Value} {e:TypeId} {fr:Nat×Nat} {v:Value} (ho:ops[i]?=some ⟨some d,.load t x,ty,pos,aft,g⟩) (hw:aq ops l g=true)
  (hx:aM l x=some (.pointer (some ⟨b,off,none⟩))) (hd:Nat.blt d n=true) (ha:∀w,(isAgg t).run P w=.ok false w) (j:Nat) (hj:h[j]?=some (some b,.cells cs e fr)) (hv:cs[off]?=some v):af P w0 S n h ops i l d (v):=
 af.ld ho hw hx hd ha (fun w Ds hS=>by simp [World.cell?,hS.get hj,hv])
theorem sO {t:TypeId} (hz:∀w,(sizeOf t).run P w=.ok 1 w) {b off:Nat} {cs:Array Value} {e:TypeId} {v:Value} {w:World} (hb:w.heap[b]?=some (.cells cs e (0,0))) (ho:off<cs.size) (hv:v.oneCell'=true):
  (Instr.storeAt t (.pointer (some ⟨b,off,none⟩)) v).run P w=.ok () (w.setCell ⟨b,off,none⟩ v):=by
 have hcell:w.cell? ⟨b,off,none⟩=some cs[off]:=by simp [World.cell?,hb,ho]
 have hfr:w.frozen? ⟨b,off,none⟩=false:=by simp [World.frozen?,hb]
 have hcs:v.cells=#[v]:=by cases v<;>first|rfl|cases hv
 simp only [Instr.storeAt,Instr.sureAddr,storeVar,Sem.run_bind,Sem.run_pure,Result.andThen_ok,hz,hcs];simp only [List.size_toArray,List.length_cons,List.length_nil,Nat.zero_add,ne_eq,not_true_eq_false,if_false];simp [storeCells,run_store _ _ _ _ _ hv,hcell,hfr,Addr.add]
theorem ab.st {t:TypeId} {x y:Operand} {b off:Nat} {cs:Array Value} {e:TypeId} {v:Value} (ho:ops[i]?=some ⟨none,.store t x y,ty,pos,aft,g⟩) (hw:aq ops l g=true)
  (hx:aM l x=some (.pointer (some ⟨b,off,none⟩))) (hy:aM l y=some v) (hz:∀w,(sizeOf t).run P w=.ok 1 w) (hv:v.oneCell'=true) (j:Nat) (hj:h[j]?=some (some b,.cells cs e (0,0))) (hoff:Nat.blt off cs.size=true)
  (hk:ab P r f R w0 S Y n (.inRegion ops rest::k) l (h.set j (some b,.cells (cs.setIfInBounds off v) e (0,0)))):ab P r f R w0 S Y n (.inRegion ops (i::rest)::k) l h:=
 .Kv ho hw rfl rfl (fun t' w Ds _ hF hS=>by
  refine ⟨w.setCell ⟨b,off,none⟩ v,_,?_,hS.pZ hj (o':=.cells (cs.setIfInBounds off v) e (0,0)) rfl rfl rfl rfl ?_ ?_ ?_,hk⟩;simp only [execOp,hF.aM hx,hF.aM hy,Sem.run_bind,sO hz (hS.get hj) (by simpa [Nat.blt_eq] using hoff) hv];rfl;simp [World.setCell];obtain ⟨hlt,hg⟩:=Array.getElem?_eq_some_iff.1 (hS.get hj);simp only [World.setCell];rw [Array.getElem?_modify,if_pos rfl,hS.get hj];rfl;intro q _ hq;exact Below.heap_setCell _ _ _ _ hq)
theorem ab.lZ {t:TypeId} {x y:Operand} {b off:Nat} {cs:Array Value} {e:TypeId} {v:Value} (hz:∀w,(sizeOf t).run P w=.ok 1 w) (j:Nat) (hk:ab P r f R w0 S Y n (.inRegion ops rest::k) l (h.set j (some b,.cells (cs.setIfInBounds off v) e (0,0)))) (ho:ops[i]?=some ⟨none,.store t x y,ty,pos,aft,g⟩:=by exact rfl) (hw:aq ops l g=true:=by exact rfl) (hx:aM l x=some (.pointer (some ⟨b,off,none⟩)):=by exact rfl) (hy:aM l y=some v:=by exact rfl) (hv:v.oneCell'=true:=by exact rfl) (hj:h[j]?=some (some b,.cells cs e (0,0)):=by exact rfl) (hoff:Nat.blt off cs.size=true:=by exact rfl):ab P r f R w0 S Y n (.inRegion ops (i::rest)::k) l h:=ab.st (ho:=ho) (hw:=hw) (hx:=hx) (hy:=hy) (hz:=hz) (hv:=hv) (j:=j) (hj:=hj) (hoff:=hoff) (hk:=hk)
theorem ab.z7 {e:TypeId} {z:Value} (ho:ops[i]?=some ⟨some d,.alloc e,ty,pos,aft,g⟩) (hw:aq ops l g=true) (hd:Nat.blt d n=true) (hz:∀w,(zeroValue e).run P w=.ok z w)
  (hk:∀b,ab P r f R w0 S Y n (.inRegion ops rest::k) ((d,.pointer (some ⟨b,0,none⟩))::l) ((some b,.cells z.cells e)::h)):ab P r f R w0 S Y n (.inRegion ops (i::rest)::k) l h:=
 .mem ho hw rfl rfl hd (fun t' w Ds _ hF hS=>⟨.pointer (some ⟨w.heap.size,0,none⟩),w.alloc (.cells z.cells e),_,by
  simp [execOp,Instr.alloc,hz,newVar,newRow],hS.alloc rfl,hk _⟩)
theorem ab.cH {e:TypeId} {z:Value} (hz:∀w,(zeroValue e).run P w=.ok z w) (hk:∀b,ab P r f R w0 S Y n (.inRegion ops rest::k) ((d,.pointer (some ⟨b,0,none⟩))::l) ((some b,.cells z.cells e)::h)) (ho:ops[i]?=some ⟨some d,.alloc e,ty,pos,aft,g⟩:=by exact rfl) (hw:aq ops l g=true:=by exact rfl) (hd:Nat.blt d n=true:=by exact rfl):ab P r f R w0 S Y n (.inRegion ops (i::rest)::k) l h:=ab.z7 (ho:=ho) (hw:=hw) (hd:=hd) (hz:=hz) (hk:=hk)
theorem ab.bx {e:TypeId} {x:Operand} {v:Value} (ho:ops[i]?=some ⟨some d,.box e x,ty,pos,aft,g⟩) (hw:aq ops l g=true) (hx:aM l x=some v) (hd:Nat.blt d n=true)
  (hk:∀b,ab P r f R w0 S Y n (.inRegion ops rest::k) ((d,.pointer (some ⟨b,0,none⟩))::l) ((some b,.cells v.cells e)::h)):ab P r f R w0 S Y n (.inRegion ops (i::rest)::k) l h:=
 .mem ho hw rfl rfl hd (fun t' w Ds _ hF hS=>⟨.pointer (some ⟨w.heap.size,0,none⟩),w.alloc (.cells v.cells e),_,by
  simp [execOp,Instr.box,hF.aM hx,newVar,newRow],hS.alloc rfl,hk _⟩)
theorem ab.mY {e:TypeId} {x:Operand} {v:Value} (hk:∀b,ab P r f R w0 S Y n (.inRegion ops rest::k) ((d,.pointer (some ⟨b,0,none⟩))::l) ((some b,.cells v.cells e)::h)) (ho:ops[i]?=some ⟨some d,.box e x,ty,pos,aft,g⟩:=by exact rfl) (hw:aq ops l g=true:=by exact rfl) (hx:aM l x=some v:=by exact rfl) (hd:Nat.blt d n=true:=by exact rfl):ab P r f R w0 S Y n (.inRegion ops (i::rest)::k) l h:=ab.bx (ho:=ho) (hw:=hw) (hx:=hx) (hd:=hd) (hk:=hk)
theorem vZ {w w':World} (hg:w.grownBy w' none):Ex [] w w':=⟨hg.os,hg.tape,hg.output,hg.size,fun b hb _=>hg.block b hb (by simp)⟩
def br (q:Option Nat) (n cap:Nat):Value:=.slice (q.map (fun b=>⟨b,0,none⟩)) n cap
theorem vC (z:Value) (hz1:z.cells=#[z]) (m:Nat):(madeCells z.cells (m*1)).toList=List.replicate m z:=by
 rw [hz1];apply List.ext_getElem?;intro q;simp only [madeCells,Array.toList_map,Array.toList_range,List.getElem?_map,Nat.mul_one,List.getElem?_replicate];by_cases hq:q<m;simp [hq,Nat.mod_one];simp [hq]
theorem ab.LF {t e:TypeId} {x y:Operand} {kx ky:IntKind} {m:Nat} {inf:TypeInfo} {z:Value} (ho:ops[i]?=some ⟨some d,.makeSlice t x y,ty,pos,aft,g⟩) (hw:aq ops l g=true) (hx:aM l x=some (.int kx m)) (hy:aM l y=some (.int ky m)) (hd:Nat.blt d n=true)
  (hu:P.underlying t=some (.slice e)) (hi:P.info? e=some inf) (hz:inf.zero=some z) (hz1:z.cells=#[z]) (hs:inf.size=1) (hb:inf.bytes*m≤281474976710656) (hm:m≤maxLen)
  (hk:∀b,ab P r f R w0 S Y n (.inRegion ops rest::k) ((d,br (some b) m m)::l) ((some b,.cells (List.replicate m z++[]).toArray e)::h)):ab P r f R w0 S Y n (.inRegion ops (i::rest)::k) l h:=
 .mem ho hw rfl rfl hd (fun t' w Ds _ hF hS=>by
  obtain ⟨w',hrun,⟨_,hown⟩,hg⟩:=run_make_full (P:=P) w w.heap.size t e inf z 1 hu hi hz hs kx ky m hb hm (Nat.le_refl _);rw [vC z hz1] at hown;rcases hown with ⟨h1,_⟩|⟨b,cap,cur,hv,hbg,hheap,hnc,_,hcs,htk⟩;simp at h1;simp only [Value.slice.injEq,Option.some.injEq,Addr.mk.injEq,and_true,true_and] at hv;obtain ⟨rfl,rfl⟩:=hv;have hcur:cur=(List.replicate m z++[]).toArray:=by
   rw [←Array.toList_inj,List.append_nil];rw [←htk,List.take_of_length_le (by simp [hcs])]
  rw [hcur] at hheap;refine ⟨_,w',_,?_,hS.Br (vZ hg) hheap rfl hbg,hk _⟩;simp [execOp,hF.aM hx,hF.aM hy,hrun,br])
theorem qI {t e:TypeId} {inf:TypeInfo} {z:Value} (hu:P.underlying t=some (.slice e)) (hi:P.info? e=some inf) (hz:inf.zero=some z) {size:Nat} (hsz:inf.size=size) (hz1:z.cells.size=size)
    {w:World} {Ds:List (Nat×Obj)} (hS:St w0 S w h Ds) {q:Option Nat} {xs sp:List Value} {nx:Nat} (hnx:xs.length=nx*size) {cap:Nat} (aj:(xs++sp).length=cap*size) (hq:q=none→nx=0∧cap=0) {j:Nat} (hj:h[j]?=some (q,.cells (xs++sp).toArray e (0,0)))
    {a:Addr} {m c:Nat} {news:List Value} (hl:news.length=m*size) (hm0:0<m) (hnews:∀j u,news[j]?=some u→w.cell? (a.add j)=some u) (h1:∀u∈news,u.oneCell'=true) (hmx:nx+m≤maxLen) (hbytes:(nx+m)*inf.bytes≤140737488355328) (ty:TypeId):
    ∃b' sp' cap' w',(Builtin.append_ #[t,t] ty #[br q nx cap,.slice (some a) m c]).run P w=.ok (br (some b') (nx+m) cap') w'∧(xs++news++sp').length=cap'*size∧
      St w0 S w' (h.set j (some b',.cells (xs++news++sp').toArray e (0,0))) Ds:=by
  subst hsz;have hsmall:nx+m≤9223372036854775807:=by simp only [maxLen] at hmx;omega
  have hzc:∀q,(Builtin.zeroCells z.cells q).toList.length=q*inf.size:=fun q=>by simp [size_zeroCells,hz1]
  cases q with
  |none=>
    obtain ⟨rfl,rfl⟩:=hq rfl;obtain rfl:xs=[]:=List.eq_nil_of_length_eq_zero (by simpa using hnx);have hr:=run_append_nil (P:=P) w t ty e inf z hu hi hz a m c news hl hnews hm0 (by omega) (by simp only [Nat.zero_add] at hbytes;omega);have hge:=grownCap_ge w m 0 e;refine ⟨w.heap.size,(Builtin.zeroCells z.cells (grownCap w m 0 e - m)).toList,grownCap w m 0 e,w.drew.alloc (.cells (news.toArray++Builtin.zeroCells z.cells (grownCap w m 0 e - m)) e),?_,?_,?_⟩;simp only [br,Nat.zero_add,Option.map_some,Option.map_none];exact hr;rw [List.nil_append,List.length_append,hl,hzc,←Nat.add_mul];congr 1;omega
    refine hS.swap ((uC w).trans (rR w.drew _) (by simp)) j ?_ rfl (Nat.le_refl _);have:=heap_alloc_new w.drew (.cells (news.toArray++Builtin.zeroCells z.cells (grownCap w m 0 e - m)) e);rw [show w.drew.heap.size=w.heap.size from rfl] at this;rw [this];congr 2;rw [←Array.toList_inj];simp
  |some b=>
    have hb:=hS.get hj;have hlo:xs.length≤(xs++sp).length:=by simp
    by_cases hroom:nx+m≤cap;have hfit:nx*inf.size+news.length≤(xs++sp).toArray.size:=by
      rw [List.size_toArray,aj,hl,←Nat.add_mul];exact Nat.mul_le_mul_right _ hroom
    have hr:=run_append_room (P:=P) w t ty e inf hu hi b nx cap _ hb a m c news hl hnews h1 hroom hfit;have hsz0:(xs++sp).toArray.size=(xs++sp).length:=by simp
    have hrow:((xs++sp).toArray.toList.take (nx*inf.size)++news++(xs++sp).toArray.toList.drop (nx*inf.size+news.length))=xs++news++sp.drop news.length:=by
      simp only [←hnx];rw [List.take_left,List.drop_append,List.drop_eq_nil_of_le (by omega),List.nil_append]
      congr 2;omega
    rw [hrow] at hr;refine ⟨b,sp.drop news.length,cap,w.setRow b (xs++news++sp.drop news.length).toArray,hr,?_,hS.pZ hj rfl rfl rfl rfl (by simp [World.setRow]) (setRow_heap w b _ _ e _ hb) (fun i _ hi=>setRow_other w b i _ hi)⟩;rw [hsz0] at hfit;rw [←aj];simp only [List.length_append,List.length_drop] at hfit⊢;omega;have holds:∀j v,xs[j]?=some v→w.cell? ((⟨b,0,none⟩:Addr).add j)=some v:=by
      intro j v hv;have hjl:=(List.getElem?_eq_some_iff.1 hv).1;have e1:(⟨b,0,none⟩:Addr).add j=⟨b,j,none⟩:=by unfold Addr.add;split;(rename_i h0;rw [h0]);simp
      rw [e1];rw [List.getElem?_eq_getElem hjl] at hv;cases hv;simp [World.cell?,hb,List.getElem?_append,hjl]
    have hfit:Builtin.nextslicecap (nx+m) cap*inf.bytes≤281474976710656:=by
      have:=nextslicecap_le (need:=nx+m) (old:=cap) (by omega)
      calc _≤(2*(nx+m))*inf.bytes:=Nat.mul_le_mul_right _ this
        _≤_:=by rw [Nat.mul_assoc];omega
    have hr:=run_append_grow (P:=P) w t ty e inf z hu hi hz ⟨b,0,none⟩ nx cap xs hnx holds a m c news hl hnews (by omega) (by omega) hfit;have hge:=grownCap_ge w (nx+m) cap e;refine ⟨w.heap.size,(Builtin.zeroCells z.cells (grownCap w (nx+m) cap e - (nx+m))).toList,grownCap w (nx+m) cap e,_,hr,?_,?_⟩;rw [List.length_append,List.length_append,hl,hnx,hzc,←Nat.add_mul,←Nat.add_mul];congr 1;omega
    refine hS.swap ((uC w).trans (rR w.drew _) (by simp)) j ?_ rfl (Nat.le_refl _);have:=heap_alloc_new w.drew (.cells (xs.toArray++news.toArray++Builtin.zeroCells z.cells (grownCap w (nx+m) cap e - (nx+m))) e);rw [show w.drew.heap.size=w.heap.size from rfl] at this;rw [this];congr 2;rw [←Array.toList_inj];simp
theorem ab.app {t e:TypeId} {x y:Operand} {inf:TypeInfo} {z:Value} {q:Option Nat} {xs sp:List Value} {nx cap:Nat} {bn m c:Nat} {news spn:List Value} {en:TypeId} {frn:Nat×Nat} (size:Nat)
  (ho:ops[i]?=some ⟨some d,.call ⟨.builtin .append,#[x,y],#[t,t]⟩,ty,pos,aft,g⟩) (hw:aq ops l g=true) (hx:aM l x=some (br q nx cap)) (hy:aM l y=some (.slice (some ⟨bn,0,none⟩) m c)) (hd:Nat.blt d n=true)
  (hu:P.underlying t=some (.slice e)) (hi:P.info? e=some inf) (hz:inf.zero=some z) (hsz:inf.size=size) (hz1:z.cells.size=size)
  (hq:q=none→nx=0∧cap=0) (j:Nat) (hj:h[j]?=some (q,.cells (xs++sp).toArray e (0,0))) (jn:Nat) (hjn:h[jn]?=some (some bn,.cells (news++spn).toArray en frn))
  (hnx:xs.length=nx*size) (aj:(xs++sp).length=cap*size) (hl:news.length=m*size) (hm0:0<m) (h1:∀u∈news,u.oneCell'=true) (hmx:nx+m≤maxLen) (hbytes:(nx+m)*inf.bytes≤140737488355328)
  (hk:∀b' sp' cap',(xs++news++sp').length=cap'*size→ab P r f R w0 S Y n (.inRegion ops rest::k) ((d,br (some b') (nx+m) cap')::l) (h.set j (some b',.cells (xs++news++sp').toArray e (0,0)))):ab P r f R w0 S Y n (.inRegion ops (i::rest)::k) l h:=
 .mem ho hw rfl rfl hd (fun t' w Ds _ hF hS=>by
  have hbn:=hS.get hjn;have hnews:∀j u,news[j]?=some u→w.cell? ((⟨bn,0,none⟩:Addr).add j)=some u:=by
   intro j u hv;have hjl:=(List.getElem?_eq_some_iff.1 hv).1;have e1:(⟨bn,0,none⟩:Addr).add j=⟨bn,j,none⟩:=by unfold Addr.add;split;(rename_i h0;rw [h0]);simp
   rw [e1];rw [List.getElem?_eq_getElem hjl] at hv;cases hv;simp [World.cell?,hbn,List.getElem?_append,hjl]
  obtain ⟨b',sp',cap',w',hrun,hlen,hS'⟩:=qI hu hi hz hsz hz1 hS hnx aj hq hj (c:=c) hl hm0 hnews h1 hmx hbytes ty;refine ⟨_,w',_,?_,hS',hk b' sp' cap' hlen⟩;have e1:(#[x,y]:Array Operand).map (Act.eval ⟨t',Ds.map mark⟩)=#[br q nx cap,.slice (some ⟨bn,0,none⟩) m c]:=by simp [hF.aM hx,hF.aM hy]
  simp only [execOp,resolve,e1,Sem.run_bind,Sem.run_pure,Result.andThen_ok,invoke,builtin,hrun])
def Cn (P:Program) (gf:FuncId) (args:List Value) (w:World) (Rc:Value→World→Prop):Prop:=
 Calls P gf args.toArray w fun e w'=>∃v,e=.returned v∧(Ex [] w w'∧Rc v w')
theorem gI {az:Array Operand} {ts:Array TypeId} {cal:Operand} {fn:Fn} {first captured:Array Value} {vs:List Value} {t:Array Value} {Ds:List Nat} {w:World} (hF:iW n t l) (hc:aM l cal=some (.func fn first captured)) (hx:cP l az.toList=some vs):
  (resolve (Act.eval ⟨t,Ds.map mark⟩) ⟨.value cal,az,ts⟩ ty).run P w=.ok {target:=.fn fn captured,args:=first++vs.toArray} w:=by
 have e1:az.map (Act.eval ⟨t,Ds.map mark⟩)=vs.toArray:=by rw [←Array.toList_inj];simp [hF.cP (Ds.map mark) hx]
 simp only [resolve,e1,hF.aM hc,Deferred.ofValue,Sem.run_pure]
theorem ab.yM {az:Array Operand} {ts:Array TypeId} {cal:Operand} {gf:FuncId} {first captured:Array Value} {vs:List Value} (ho:ops[i]?=some ⟨some d,.call ⟨.value cal,az,ts⟩,ty,pos,aft,g⟩) (hw:aq ops l g=true)
  (hc:aM l cal=some (.func (.func gf) first captured)) (hx:cP l az.toList=some vs) (hd:Nat.blt d n=true) (hcf:∀args w,(callFunc gf args).run P w=.ok (.enter gf args) w)
  (hk:∀w Y',St w0 S w h Y'→∃Rc:Value→World→Prop,(Calls P gf (first++vs.toArray++captured) w fun e w'=>∃v,e=.returned v∧Rc v w')∧∀v w',Rc v w'→∃h',St w0 S w' h' Y'∧ab P r f R w0 S Y n (.inRegion ops rest::k) ((d,v)::l) h'):
  ab P r f R w0 S Y n (.inRegion ops (i::rest)::k) l h:=by
 intro t w Ds hF hS;obtain ⟨Rc,hcall,hres⟩:=hk w _ hS;refine dR.call (Rc:=Rc) (g:=gf) (args:=first++vs.toArray++captured) (w':=w) ho (eJ hF hw) (du rfl) ?_ hcall (fun v w2 hR=>?_);simp only [execOp,Sem.run_bind,gI hF hc hx,Result.andThen_ok,invoke,hcf];obtain ⟨h',hS',hgo⟩:=hres v w2 hR;exact hgo _ w2 Ds (hF.put v hd) hS'
theorem ab.mx {az:Array Operand} {ts:Array TypeId} {cal:Operand} {gf:FuncId} {vs:List Value} {v:Value} (ho:ops[i]?=some ⟨some d,.call ⟨.value cal,az,ts⟩,ty,pos,aft,g⟩) (hw:aq ops l g=true)
  (hc:aM l cal=some (.func (.func gf) #[] #[])) (hx:cP l az.toList=some vs) (hd:Nat.blt d n=true) (hcf:∀args w,(callFunc gf args).run P w=.ok (.enter gf args) w)
  (hcall:∀w Y',St w0 S w h Y'→Cn P gf vs w (fun u _=>u=v))
  (hk:ab P r f R w0 S Y n (.inRegion ops rest::k) ((d,v)::l) h):ab P r f R w0 S Y n (.inRegion ops (i::rest)::k) l h:=
 .yM ho hw hc hx hd hcf (fun w Ds hS=>⟨fun u w'=>Ex [] w w'∧u=v,by
  have:=hcall w Ds hS;unfold Cn at this;simpa using this,fun u w' ⟨he,hu⟩=>⟨h,hS.later he,hu ▸ hk⟩⟩)
theorem ab.nq {az:Array Operand} {ts:Array TypeId} {cal:Operand} {gf:FuncId} {vs:List Value} (Rc:World→Value→World→Prop) (ho:ops[i]?=some ⟨some d,.call ⟨.value cal,az,ts⟩,ty,pos,aft,g⟩) (hw:aq ops l g=true)
  (hc:aM l cal=some (.func (.func gf) #[] #[])) (hx:cP l az.toList=some vs) (hd:Nat.blt d n=true) (hcf:∀args w,(callFunc gf args).run P w=.ok (.enter gf args) w)
  (hcall:∀w Y',St w0 S w h Y'→Cn P gf vs w (Rc w))
  (hk:∀v w w' Y',St w0 S w h Y'→Ex [] w w'→Rc w v w'→∃h',St w0 S w' h' Y'∧ab P r f R w0 S Y n (.inRegion ops rest::k) ((d,v)::l) h'):ab P r f R w0 S Y n (.inRegion ops (i::rest)::k) l h:=
 .yM ho hw hc hx hd hcf (fun w Ds hS=>⟨fun u w'=>Ex [] w w'∧Rc w u w',by
  have:=hcall w Ds hS;unfold Cn at this;simpa using this,fun u w' ⟨he,hu⟩=>hk u w w' Ds hS he hu⟩)
end
def shut (w:World):List Nat→World
 |[]=>w
 |D::Ds=>shut {w with heap:=w.heap.setIfInBounds D (.deferred none)} Ds
theorem xN {w0:World}:∀{Ds:List Nat} {w:World},(∀D∈Ds,w0.heap.size≤D)→(shut w Ds).os=w.os∧(shut w Ds).tape=w.tape∧(shut w Ds).output=w.output∧(shut w Ds).heap.size=w.heap.size∧∀b,b∉Ds→(shut w Ds).heap[b]?=w.heap[b]?
 |[],w,_=>⟨rfl,rfl,rfl,rfl,fun _ _=>rfl⟩
 |D::Ds,w,h=>by
  obtain ⟨h1,h2,h3,h4,h5⟩:=xN (Ds:=Ds) (w:={w with heap:=w.heap.setIfInBounds D (.deferred none)}) (fun D hD=>h D (List.mem_cons_of_mem _ hD));refine ⟨h1,h2,h3,by rw [shut,h4];simp,fun b hb=>?_⟩;rw [shut,h5 b (fun hm=>hb (List.mem_cons_of_mem _ hm))];have:D≠b:=fun e=>hb (by rw [e];exact List.mem_cons_self ..);simp [this]
theorem qR {P:Program}:∀{Ds:List Nat} {w:World} {fr:Frame} {cs:List Frame},fr.mode=.returning→fr.defers=Ds.map mark→(∀D∈Ds,w.heap[D]?=some (.deferred (some [])))→Ds.Nodup→
  Steps P (lone fr cs w) (lone {fr with defers:=[]} cs (shut w Ds))
 |[],w,fr,cs,hm,hd,_,_=>by
  have:fr={fr with defers:=[]}:=by cases fr;simp at hd;simp [hd]
  rw [←this];exact .refl _ _
 |D::Ds,w,fr,cs,hm,hd,hall,hn=>by
  have hD:=hall D (List.mem_cons_self ..);have htake:(Instr.takeDeferred D).run P w=.ok [] {w with heap:=w.heap.setIfInBounds D (.deferred none)}:=by
   simp [Instr.takeDeferred,getObj,setObj,Sem.run,hD,bind,Sem.bind,pure]
  have h1:=step_collected (P:=P) (fr:=fr) (cs:=cs) (w:=w) (d:=mark D) (ds:=Ds.map mark) (by rw [hm];simp) hd rfl htake;rw [List.nodup_cons] at hn;refine .head h1 (qR (fr:={fr with defers:=[]++Ds.map mark}) hm rfl (fun D' hD'=>?_) hn.2);have:D≠D':=fun e=>hn.1 (e ▸ hD');simp [this];exact hall D' (List.mem_cons_of_mem _ hD')
def zg (l:Fl):List ResultVar→Option (List Value)
 |[]=>some []
 |.tmp t::rs=>match look l t,zg l rs with
  |some v,some vs=>some (v::vs)
  |_,_=>none
 |_=>none
def gX:List Value→Value
 |[v]=>v
 |vs=>.tuple vs.toArray
theorem DO {Ds:List Nat} {D:Nat} (h:D∈Ds):(D,(.deferred (some []):Obj))∈ou Ds:=List.mem_map.2 ⟨D,h,rfl⟩
theorem yl (Ds:List Nat):(ou Ds).map (·.1)=Ds:=by simp [ou,Function.comp_def]
theorem St.marks {w0:World} {S:List Nat} {w:World} {h:Hl} {Y:List (Nat×Obj)} {Ds:List Nat} (s:St w0 S w h (ou Ds++Y)):(∀D∈Ds,w0.heap.size≤D∧w.heap[D]?=some (.deferred (some [])))∧Ds.Nodup:=by
 refine ⟨fun D hD=>?_,?_⟩;obtain ⟨h1,h2,_⟩:=s.sys _ (List.mem_append_left _ (DO hD));exact ⟨h1,h2⟩;have:=s.yY;rw [List.map_append,yl] at this;exact (List.nodup_append.1 this).1
theorem St.shut {w0:World} {S:List Nat} {w:World} {h:Hl} {Y:List (Nat×Obj)} {Ds:List Nat} (s:St w0 S w h (ou Ds++Y)):St w0 S (shut w Ds) h Y:=by
 have hm:=s.marks;obtain ⟨h1,h2,h3,h4,h5⟩:=xN (w0:=w0) (Ds:=Ds) (w:=w) (fun D hD=>(hm.1 D hD).1);have hnd:=s.yY;rw [List.map_append,yl,List.nodup_append] at hnd;refine ⟨⟨h1.trans s.ext.os,h2.trans s.ext.tape,h3.trans s.ext.output,by rw [h4];exact s.ext.size,fun b hb hn=>?_⟩,fun p hp b hb=>?_,s.apart,fun p hp=>?_,hnd.2.1⟩;rw [h5 b (fun hmm=>by have:=(hm.1 b hmm).1;omega)];exact s.ext.block b hb hn;obtain ⟨q1,q2,q3⟩:=s.own p hp b hb;refine ⟨?_,q2,q3⟩;rw [h5 b ?_];exact q1;intro hmm;have e1:=q1.symm.trans (hm.1 b hmm).2;rw [Option.some.inj e1] at q2;cases q2;obtain ⟨q1,q2,q3⟩:=s.sys p (List.mem_append_right _ hp);refine ⟨q1,?_,q3⟩;rw [h5 p.1 (fun hmm=>hnd.2.2 _ hmm _ (List.mem_map.2 ⟨p,hp,rfl⟩) rfl)];exact q2
theorem vB {P:Program} {w:World} {n:Nat} {t:Array Value} {l:Fl} (hF:iW n t l):∀{rs:List ResultVar} {vs:List Value},zg l rs=some vs→
  (rs.mapM (m:=Sem) fun|.tmp t'=>pure (t.getD t' undef)|.cell a ty=>do loadVar ty (←asAddr (t.getD a undef))).run P w=.ok vs w
 |[],vs,h=>by cases h;rfl
 |.tmp q::rs,vs,h=>by
  simp only [zg] at h;split at h;rename_i v us hv hus;cases h;rw [List.mapM_cons];simp only [Sem.run_bind,Sem.run_pure,Result.andThen_ok,vB hF hus,hF.2 _ _ hv];cases h
 |.cell a ty::rs,vs,h=>by cases h
theorem vk {P:Program} {fn:Func} {w:World} {n:Nat} {t:Array Value} {l:Fl} (hF:iW n t l) {vs:List Value} (h:zg l fn.results.toList=some vs):(results fn t).run P w=.ok (gX vs) w:=by
 unfold results;rw [Array.mapM_eq_mapM_toList];have hm:=vB (P:=P) (w:=w) hF h;simp only [Sem.run_bind,Sem.run_map,Sem.run_pure];refine (congrArg (fun x=>(x.andThen fun a w'=>Result.ok a.toArray w').andThen fun a w'=>Result.ok (if h:a.size=1 then a[0] else Value.tuple a) w') hm).trans ?_;simp only [Result.andThen_ok];cases vs with
 |nil=>rfl
 |cons v us=>cases us with
  |nil=>rfl
  |cons u us=>simp [gX]
section
variable {P:Program} {r:Option Nat} {f:FuncId} {R:Value→World→Prop} {w0:World} {S:List Nat} {Y:List (Nat×Obj)} {n:Nat} {k k':List Item} {l l':Fl} {h h':Hl} {fn:Func}
theorem tj {t:Array Value} {Ds:List Nat} {w:World} {v:Value} (hf:P.funcs[f]?=some fn) (hS:St w0 S w h (ou Ds++Y)) (mT:∀cs,step P (lone (wm f none t (Ds.map mark) k) cs w)=.next (lone {wm f none t (Ds.map mark) k with mode:=.returning} cs w))
  (hr:(results fn t).run P (shut w Ds)=.ok v (shut w Ds)) (hR:R v (shut w Ds)):dR P none f R k t (Ds.map mark) w:=by
 intro cs _;have h2:=qR (P:=P) (Ds:=Ds) (w:=w) (fr:={wm f none t (Ds.map mark) k with mode:=.returning}) (cs:=cs) rfl rfl (fun D hD=>(hS.marks.1 D hD).2) hS.marks.2;exact ⟨v,shut w Ds,_,hR,.head (mT cs) h2,_,rfl,rfl,rfl,rfl,rfl,fn,hf,hr⟩
theorem ab.ret (fn:Func) (hf:P.funcs[f]?=some fn) {vs:List Value} (hres:zg l fn.results.toList=some vs) (hR:∀w,St w0 S w h Y→R (gX vs) w):ab P none f R w0 S Y n (.code .ret::k) l h:=fun t w Ds hF hS=>
 tj hf hS (fun cs=>by rw [dF];exact stepR_ret rfl) (vk hF hres) (hR _ hS.shut)
def vr:Nat→List Value→Fl
 |_,[]=>[]
 |i,v::vs=>(i,v)::vr (i+1) vs
theorem td:∀{vs:List Value} {i j:Nat} {v:Value},look (vr i vs) j=some v→i≤j∧vs[j - i]?=some v
 |[],_,_,_,h=>by cases h
 |u::us,i,j,v,h=>by
  unfold vr look at h;cases hb:Nat.beq i j with
  |true=>rw [hb] at h;obtain rfl:=Nat.eq_of_beq_eq_true hb;cases h;simp
  |false=>
   rw [hb] at h;obtain ⟨h1,h2⟩:=td h;refine ⟨by omega,?_⟩;rw [show j - i=(j - (i+1))+1 from by omega,List.getElem?_cons_succ];exact h2
theorem zA {args:List Value} {nt:Nat} (hn:args.length≤nt):iW nt (args.toArray++Array.replicate (nt - args.toArray.size) undef) (vr 0 args):=by
 refine ⟨by simp;omega,fun i v hv=>?_⟩;have:=(td hv).2;rw [Nat.sub_zero] at this;obtain ⟨h1,h2⟩:=List.getElem?_eq_some_iff.1 this;simp [Array.getD_eq_getD_getElem?,Array.getElem?_append,h1,h2]
theorem v9 {c:Code} {args:List Value} (hf:P.funcs[f]?=some fn) (hb:fn.body=some c) (hn:Nat.ble args.length fn.ntmps=true) (h:Hl) (hS:St w0 S w0 h [])
  (hgo:ab P none f R w0 S [] fn.ntmps [.code c] (vr 0 args) h):Calls P f args.toArray w0 fun e w'=>∃v,e=.returned v∧R v w':=by
 intro cs;obtain ⟨v,w',m,hR,mT,fr,rfl,hfn,hl⟩:=hgo _ w0 [] (zA (Nat.le_of_ble_eq_true hn)) hS cs (by simp);refine ⟨.returned v,w',fr,⟨v,rfl,hR⟩,?_,hfn,hl⟩;have henter:Frame.enter P f args.toArray .normal=wm f none (args.toArray++Array.replicate (fn.ntmps - args.toArray.size) undef) [] [.code c]:=by
  simp [Frame.enter,hf,hb,wm]
 show Steps P _ _;rw [henter];exact mT
theorem C9 (w:World):St w [] w [] []:=⟨Ex.refl _ _,by simp,.nil,by simp,by simp⟩
theorem Cn.of {c:Code} {args:List Value} {Rc:Value→World→Prop} (hf:P.funcs[f]?=some fn) (hb:fn.body=some c) (hn:Nat.ble args.length fn.ntmps=true)
  (hgo:ab P none f (fun v w'=>Ex [] w0 w'∧Rc v w') w0 [] [] fn.ntmps [.code c] (vr 0 args) []):Cn P f args w0 Rc:=by
 unfold Cn;exact v9 hf hb hn [] (C9 w0) hgo
theorem Cn.mono {gf:FuncId} {args:List Value} {w:World} {R R':Value→World→Prop} (h:Cn P gf args w R) (hr:∀v w',Ex [] w w'→R v w'→R' v w'):Cn P gf args w R':=
 Calls.mono h (fun _ w' ⟨v,e,he,hR⟩=>⟨v,e,he,hr v w' he hR⟩)
end
section
variable {P:Program} {t:TypeId} {x y:aE} {a b:Int}
theorem uE (op:BinOp) (t:TypeId) (p q:Operand) (k k':IntKind) (a b:Int):eqGuard op t p q (.int k a) (.int k' b)=pure ():=by unfold eqGuard;cases op<;>rfl
theorem BN (op:BinOp) (t:TypeId) (p q:Operand) (a b:Bool):eqGuard op t p q (.bool a) (.bool b)=pure ():=by unfold eqGuard;cases op<;>rfl
theorem ll {op:BinOp} {u v z:Value} (h1:∀p q,eqGuard op t p q u v=pure ()) (h2:binOp op t u v=pure z):ly P op t u v z:=by
 intro p q w;rw [h1,h2];rfl
theorem bU (op:BinOp) {z:Value} (h2:binOp op t (U x) (U y)=pure z):ly P op t (U x) (U y) z:=ll (fun p q=>zI t x y op p q) h2
theorem EI:ly P .and t (U x) (U y) (U (x &&& y)):=bU _ (EC t x y)
theorem LU:ly P .or t (U x) (U y) (U (x|||y)):=bU _ (Hq t x y)
theorem EH:ly P .andNot t (U x) (U y) (U (x &&& ~~~y)):=bU _ (xp t x y)
theorem xv:ly P .eql t (U x) (U y) (.bool (x==y)):=bU _ (EB t x y)
theorem Jt:ly P .neq t (U x) (U y) (.bool (x !=y)):=bU _ (EA t x y)
theorem BO (op:BinOp) (p q:Operand) (k:IntKind) (b:Int):eqGuard op t p q (U x) (.int k b)=pure ():=by unfold eqGuard U;cases op<;>rfl
theorem m9 (j:Nat) (h:b=j) {k:IntKind}:ly P .shl t (U x) (.int k b) (U (x<<<j)):=by subst h;exact ll (fun p q=>BO _ p q k _) (wc t x k j)
theorem ED (j:Nat) (h:b=j) {k:IntKind}:ly P .shr t (U x) (.int k b) (U (x>>>j)):=by subst h;exact ll (fun p q=>BO _ p q k _) (wb t x k j)
theorem bI (op:BinOp) {k:IntKind} {z:Value} (h2:binOp op t (.int k a) (.int k b)=pure z):ly P op t (.int k a) (.int k b) z:=ll (fun p q=>uE op t p q k k a b) h2
theorem xx (h:-9223372036854775808≤a+b∧a+b≤9223372036854775807):ly P .add t (.int .i64 a) (.int .i64 b) (.int .i64 (a+b)):=bI _ (by rw [binOp_add];show pure (Value.int .i64 (IntKind.i64.wrap (a+b)))=_;rw [IntWalk.i64_in _ h])
theorem lY (h:-9223372036854775808≤a - b∧a - b≤9223372036854775807):ly P .sub t (.int .i64 a) (.int .i64 b) (.int .i64 (a - b)):=bI _ (by rw [binOp_sub];show pure (Value.int .i64 (IntKind.i64.wrap (a - b)))=_;rw [IntWalk.i64_in _ h])
theorem tQ {a:Int} (h:0≤a∧a<18446744073709551616):IntKind.u64.wrap a=a:=by
 rw [IntKind.wrap_u64];omega
theorem eG {c:Int} (e:a - b=c) (h:-9223372036854775808≤c∧c≤9223372036854775807):ly P .sub t (.int .i64 a) (.int .i64 b) (.int .i64 c):=e ▸ lY (by omega)
theorem Ch {k:IntKind}:ly P .eql t (.int k a) (.int k b) (.bool (a==b)):=bI _ (binOp_eql ..)
theorem xu {k:IntKind}:ly P .neq t (.int k a) (.int k b) (.bool (a !=b)):=bI _ (binOp_neq ..)
theorem EF {k:IntKind}:ly P .lss t (.int k a) (.int k b) (.bool (decide (a<b))):=bI _ (binOp_lss ..)
theorem Lc {k:IntKind}:ly P .leq t (.int k a) (.int k b) (.bool (decide (a≤b))):=bI _ (binOp_leq ..)
theorem Jw {k:IntKind}:ly P .gtr t (.int k a) (.int k b) (.bool (decide (a>b))):=bI _ (binOp_gtr ..)
theorem Fs {k:IntKind}:ly P .geq t (.int k a) (.int k b) (.bool (decide (a≥b))):=bI _ (binOp_geq ..)
theorem zH (dd:Nat) {p q:Bool} (hu:P.underlying t=some .bool) (w:World):(Op.equalIn (dd+1) t (.bool p) (.bool q)).run P w=.ok (p==q) w:=by
 simp only [Op.equalIn,Sem.run_bind,run_underlying hu,Result.andThen_ok];rfl
theorem Ef {p q:Bool} (hu:P.underlying t=some .bool) (w:World):(Op.equal t (.bool p) (.bool q)).run P w=.ok (p==q) w:=zH 9999 hu w
theorem Jx {p q:Bool} (hu:P.underlying t=some .bool):ly P .eql t (.bool p) (.bool q) (.bool (p==q)):=by
 intro c d w;rw [BN];show (do pure (Value.bool (←Op.equal t (.bool p) (.bool q))):Sem Value).run P w=_;rw [Sem.run_bind,Ef hu];rfl
theorem CT {p:Bool}:JV P .not (.bool p) (.bool (!p)):=fun _=>rfl
theorem Hm {s t:TypeId} {k k':IntKind} {c:TypeDesc} (hs:P.underlying s=some c) (ht:P.underlying t=some (.int k)) (hk:k.wrap a=a):Ln P s t (.int k' a) (.int k a):=by
 intro w;simp only [convert,Sem.run_bind,run_underlying hs,run_underlying ht,Result.andThen_ok];cases c<;>simp [Conv.intToInt,hk]
end
theorem pV {p q:Option Nat×Obj} (h:nR p q):nR q p:=fun b hb hp=>h b hp hb
theorem St.perm {w0:World} {S:List Nat} {w:World} {h h':Hl} {Y:List (Nat×Obj)} (s:St w0 S w h Y) (hp:h.Perm h'):St w0 S w h' Y:=
 ⟨s.ext,fun p hm=>s.own p (hp.mem_iff.2 hm),(hp.pairwise_iff (fun {_ _}=>pV)).1 s.apart,s.sys,s.yY⟩
section
variable {P:Program} {f:FuncId} {R:Value→World→Prop} {w0:World} {S:List Nat} {Y:List (Nat×Obj)} {n:Nat} {k k':List Item} {l l':Fl} {h h':Hl}
section
variable {ops:Array Oper} {i d:Nat} {rest:List Nat} {ty:TypeId} {pos:String} {aft:Array Edge} {gd:Option (Nat×Bool)}
end
end
def cG (ops:Array Oper) (i:Nat):List Nat:=match ops[i]? with
 |some o=>(o.after.toList.filter (Region.binds .any)).map (·.on)
 |none=>[]
def bK (ops:Array Oper) (i:Nat):Option Nat:=(ops[i]?).bind (·.dst)
def fH:Op→Bool
 |.select ..=>false
 |_=>true
def gG (ops:Array Oper) (o:Oper):List Nat:=
 (match o.guard with|none=>[]|some (j,_)=>(bK ops j).toList)++o.op.operands.toList.filterMap (fun|.tmp s=>some s|_=>none)
def xj (ops:Array Oper) (_l:Fl) (m:Nat):Bool:=
 (Nat.beq ops.size m||(Nat.beq ops.size (m+1) && (List.range m).all (fun i=>(cG ops m).contains i))) &&
 (List.range ops.size).all (fun i=>(cG ops i).all (fun j=>Nat.blt j i)) &&
 (List.range m).all (fun i=>match ops[i]? with
  |none=>false
  |some o=>fH o.op && match o.dst with
   |none=>false
   |some d=>(List.range m).all (fun j=>Nat.beq j i||!(bK ops j==some d)) &&
    (gG ops o).all (fun s=>(List.range m).all (fun j=>!(bK ops j==some s)||(cG ops i).contains j)))
section
variable {P:Program} {r:Option Nat} {f:FuncId} {R:Value→World→Prop} {w0:World} {S:List Nat} {Y:List (Nat×Obj)} {n:Nat} {k:List Item} {l:Fl} {h:Hl} {ops:Array Oper}
def jB (P:Program) (w0:World) (S:List Nat) (n:Nat) (h:Hl) (ops:Array Oper) (i:Nat) (t:Array Value) (d:Nat) (v:Value):Prop:=
 ∃o,ops[i]?=some o∧o.dst=some d∧d<n∧fO o.op=false∧
  ((Region.wanted o (yielded ops t)=true∧∀(w:World) (Ds:List Nat) (Y':List (Nat×Obj)),St w0 S w h Y'→(execOp (Act.eval ⟨t,Ds.map mark⟩) o).run P w=.ok (.value v) w∨
   ∃gf args,(execOp (Act.eval ⟨t,Ds.map mark⟩) o).run P w=.ok (.enter gf args) w∧Calls P gf args w fun e w'=>∃u,e=.returned u∧(Ex [] w w'∧u=v))∨(Region.wanted o (yielded ops t)=false∧v=undef))
def H7 (P:Program) (w0:World) (S:List Nat) (n:Nat) (h:Hl) (ops:Array Oper) (F:Array Value→Prop):Nat→Nat→Array Value→Prop
 |_,0,t=>F t
 |i,m+1,t=>∃d v,jB P w0 S n h ops i t d v∧H7 P w0 S n h ops F (i+1) m (t.setIfInBounds d v)
def aR (P:Program) (r:Option Nat) (f:FuncId) (R:Value→World→Prop) (w0:World) (S:List Nat) (Y:List (Nat×Obj)) (n:Nat) (k:List Item) (ops:Array Oper) (i m:Nat) (l:Fl) (h:Hl):Prop:=
 ∀t,iW n t l→H7 P w0 S n h ops (fun t'=>∀w Ds,St w0 S w h (ou Ds++Y)→dR P r f R (.inRegion ops (List.range' (i+m) (ops.size - (i+m)))::k) t' (Ds.map mark) w) i m t
theorem aR.nil {i:Nat} (hg:ab P r f R w0 S Y n (.inRegion ops (List.range' i (ops.size - i))::k) l h):aR P r f R w0 S Y n k ops i 0 l h:=fun t hF w Ds hS=>hg t w Ds hF hS
theorem aR.v {i m d:Nat} {v:Value} (hv:af P w0 S n h ops i l d v) (hg:aR P r f R w0 S Y n k ops (i+1) m ((d,v)::l) h):aR P r f R w0 S Y n k ops i (m+1) l h:=by
 intro t hF;obtain ⟨o,ho,hw,hdst,hnd,hd,hr⟩:=hv;refine ⟨d,v,⟨o,ho,hdst,by simpa [Nat.blt_eq] using hd,hnd,.inl ⟨eJ hF hw,fun w Ds Y' hS=>?_⟩⟩,?_⟩;obtain ⟨nx,h1,rfl⟩:=hr t w Ds Y' hF hS;exact .inl h1;have:=hg _ (hF.put v hd);rw [show i+(m+1)=i+1+m from by omega];exact this
theorem aR.no {i m d:Nat} {o:Oper} (ho:ops[i]?=some o) (hw:nh ops l o.guard=true) (hdst:o.dst=some d) (hnd:fO o.op=false) (hd:Nat.blt d n=true) (hg:aR P r f R w0 S Y n k ops (i+1) m ((d,undef)::l) h):aR P r f R w0 S Y n k ops i (m+1) l h:=by
 intro t hF;refine ⟨d,undef,⟨o,ho,hdst,by simpa [Nat.blt_eq] using hd,hnd,.inr ⟨oe hF hw,rfl⟩⟩,?_⟩;have:=hg _ (hF.put undef hd);rw [show i+(m+1)=i+1+m from by omega];exact this
theorem oD {t:Array Value} {d:Nat} {b c:Bool} (hF:iW n t l) (hv:look l d=some (.bool b)) (e:b=c):iW n t ((d,.bool c)::l):=by
 subst e;refine ⟨hF.1,fun i u hu=>?_⟩;unfold look at hu;cases hb:Nat.beq d i with
 |true=>rw [hb] at hu;obtain rfl:=Nat.eq_of_beq_eq_true hb;cases hu;exact hF.2 _ _ hv
 |false=>rw [hb] at hu;exact hF.2 _ _ hu
theorem aR.cases {i m d:Nat} {b:Bool} (hv:look l d=some (.bool b)) (ht:b=true→aR P r f R w0 S Y n k ops i m ((d,.bool true)::l) h) (hf:b=false→aR P r f R w0 S Y n k ops i m ((d,.bool false)::l) h):aR P r f R w0 S Y n k ops i m l h:=by
 intro t hF;cases hb:b with
 |true=>exact ht hb t (oD hF hv hb)
 |false=>exact hf hb t (oD hF hv hb)
def qh (D:Nat→Nat) (V:Nat→Value) (t:Array Value):Nat→Array Value
 |0=>t
 |j+1=>(qh D V t j).setIfInBounds (D j) (V j)
theorem kF (D:Nat→Nat) (V:Nat→Value) (t:Array Value):∀j,qh D V t (j+1)=qh (fun j=>D (j+1)) (fun j=>V (j+1)) (t.setIfInBounds (D 0) (V 0)) j
 |0=>rfl
 |j+1=>by rw [qh,kF D V t j];rfl
theorem H7.seq {F:Array Value→Prop}:∀{m i:Nat} {t:Array Value},H7 P w0 S n h ops F i m t→∃(D:Nat→Nat) (V:Nat→Value),(∀j,j<m→jB P w0 S n h ops (i+j) (qh D V t j) (D j) (V j))∧F (qh D V t m)
 |0,_,t,hF=>⟨fun _=>0,fun _=>undef,fun j hj=>by omega,hF⟩
 |m+1,i,t,⟨d,v,ho,hr⟩=>by
  obtain ⟨D,V,h1,h2⟩:=H7.seq hr;refine ⟨fun j=>match j with|0=>d|j+1=>D j,fun j=>match j with|0=>v|j+1=>V j,fun j hj=>?_,?_⟩;cases j with
  |zero=>exact ho
  |succ j=>
   have:=h1 j (by omega);rw [show i+(j+1)=i+1+j from by omega,kF];exact this
  rw [kF];exact h2
theorem gU {D:Nat→Nat} {V:Nat→Value} {t:Array Value}:∀j,(qh D V t j).size=t.size
 |0=>rfl
 |j+1=>by simp [qh,gU j]
theorem cQ {t:Array Value} {d s:Nat} {v:Value} (hd:d<t.size):(t.setIfInBounds d v).getD s undef=if d=s then v else t.getD s undef:=by
 rw [Array.getD_eq_getD_getElem?,Array.getD_eq_getD_getElem?,Array.getElem?_setIfInBounds];split;simp;rfl
theorem lB {D:Nat→Nat} {V:Nat→Value} {t:Array Value} {m:Nat} (hd:∀j,j<m→D j<t.size) (hinj:∀i j,i<m→j<m→D i=D j→i=j):∀q,q≤m→
  (∀j,j<q→(qh D V t q).getD (D j) undef=V j)∧(∀s,(∀j,j<q→D j≠s)→(qh D V t q).getD s undef=t.getD s undef)
 |0,_=>⟨fun j hj=>by omega,fun _ _=>rfl⟩
 |q+1,hq=>by
  obtain ⟨h1,h2⟩:=lB hd hinj q (by omega);have hs:D q<(qh D V t q).size:=by rw [gU];exact hd q (by omega)
  refine ⟨fun j hj=>?_,fun s hs'=>?_⟩;rw [qh,cQ hs];split;rename_i e;rw [hinj q j (by omega) (by omega) e];rename_i e;refine h1 j ?_;rcases Nat.lt_or_ge j q with hl|hl;exact hl;exact absurd (by rw [show j=q from by omega]) e;rw [qh,cQ hs,if_neg (hs' q (by omega))];exact h2 s (fun j hj=>hs' j (by omega))
theorem jc {t t':Array Value} (hs:t.size=t'.size) {s:Nat} (h:t.getD s undef=t'.getD s undef):t[s]?=t'[s]?:=by
 rw [Array.getD_eq_getD_getElem?,Array.getD_eq_getD_getElem?] at h;rcases Nat.lt_or_ge s t.size with hl|hl;rw [Array.getElem?_eq_getElem hl,Array.getElem?_eq_getElem (hs ▸ hl)] at h⊢;simpa using h;rw [Array.getElem?_eq_none hl,Array.getElem?_eq_none (hs ▸ hl)]
theorem jB.congr {i d:Nat} {v:Value} {t t':Array Value} (ho:jB P w0 S n h ops i t d v) (hsel:∀o,ops[i]?=some o→fH o.op=true) (hs:t'.size=t.size)
  (he:∀o,ops[i]?=some o→∀s∈gG ops o,t'.getD s undef=t.getD s undef):jB P w0 S n h ops i t' d v:=by
 obtain ⟨o,h1,h2,h3,h4,h5⟩:=ho;have hw:Region.wanted o (yielded ops t')=Region.wanted o (yielded ops t):=by
  unfold Region.wanted;cases hg:o.guard with
  |none=>rfl
  |some p=>
   obtain ⟨j,want⟩:=p;have:yielded ops t' j=yielded ops t j:=by
    unfold yielded;cases hd:(ops[j]?).bind (·.dst) with
    |none=>rfl
    |some dj=>
     simp only [Option.bind_some];rw [jc hs (he o h1 dj (by simp [gG,hg,bK,hd]))]
   simp only [this]
 refine ⟨o,h1,h2,h3,h4,?_⟩;rcases h5 with ⟨a,b⟩|⟨a,b⟩;refine .inl ⟨hw.trans a,fun w Ds Y' hS=>?_⟩;rw [execOp_congr (ρ':=Act.eval ⟨t,Ds.map mark⟩) o (fun cs bb e=>by have:=hsel o h1;rw [e] at this;cases this) (fun x hx=>?_)];exact b w Ds Y' hS;cases x with
 |tmp s=>exact he o h1 s (by
   simp only [gG,List.mem_append];exact .inr (List.mem_filterMap.2 ⟨.tmp s,by simpa using hx,rfl⟩))
 |const v=>rfl
 |global g=>rfl
 |func g=>rfl
 exact .inr ⟨hw.trans a,b⟩
theorem jB.go {i d:Nat} {v:Value} {t:Array Value} {rest:List Nat} {w:World} {Ds:List Nat} (ho:jB P w0 S n h ops i t d v) (hS:St w0 S w h (ou Ds++Y))
  (hk:∀w',St w0 S w' h (ou Ds++Y)→dR P r f R (.inRegion ops rest::k) (t.setIfInBounds d v) (Ds.map mark) w'):dR P r f R (.inRegion ops (i::rest)::k) t (Ds.map mark) w:=by
 obtain ⟨o,h1,h2,h3,h4,h5⟩:=ho;rcases h5 with ⟨a,b⟩|⟨a,rfl⟩;rcases b w Ds _ hS with hb|⟨gf,args,hb,hcall⟩;refine dR.op h1 a (du h4) hb (.inl rfl) ?_;rw [h2];exact hk w hS;refine dR.call h1 a (du h4) hb hcall (fun u w2 hu=>?_);obtain ⟨he,rfl⟩:=hu;rw [h2];exact hk w2 (hS.later he);refine dR.pj h1 a ?_;rw [h2];exact hk w hS
structure tM (ops:Array Oper) (m:Nat):Prop where
  size:ops.size=m∨(ops.size=m+1∧∀i,i<m→i∈cG ops m)
  lt:∀i,i<ops.size→∀j∈cG ops i,j<i
  Ay:∀i,i<m→∀o,ops[i]?=some o→fH o.op=true
  inj:∀i j d,i<m→j<m→bK ops i=some d→bK ops j=some d→i=j
  Fj:∀i,i<m→∀o,ops[i]?=some o→∀s∈gG ops o,∀j,j<m→bK ops j=some s→j∈cG ops i
theorem kS {i:Nat} {o:Oper} (ho:ops[i]?=some o) {j:Nat}:j∈cG ops i↔∃e∈o.after,Region.binds .any e=true∧e.on=j:=by
 simp only [cG,ho,List.mem_map,List.mem_filter,Array.mem_toList_iff];constructor;rintro ⟨e,⟨h1,h2⟩,h3⟩;exact ⟨e,h1,h2,h3⟩;rintro ⟨e,h1,h2,h3⟩;exact ⟨e,⟨h1,h2⟩,h3⟩
theorem aJ {listed:Array Bool} {i j:Nat} (hi:i<listed.size):(listed.setIfInBounds i true).getD j false=if i=j then true else listed.getD j false:=by
 rw [Array.getD_eq_getD_getElem?,Array.getD_eq_getD_getElem?,Array.getElem?_setIfInBounds];split;simp;rfl
theorem lK {listed:Array Bool} {j:Nat} (hj:j<listed.size):listed.getD j true=listed.getD j false:=by
 simp [Array.getD_eq_getD_getElem?,hj]
theorem count_set {listed:Array Bool} {N i:Nat} (hs:listed.size=N) (hi:i<N) (hu:listed.getD i false=false):
  (List.range N).countP (fun j=>!(listed.setIfInBounds i true).getD j false)+1≤(List.range N).countP (fun j=>!listed.getD j false):=by
 have h1:∀M,M≤N→(List.range M).countP (fun j=>!(listed.setIfInBounds i true).getD j false)+(if i<M then 1 else 0)=(List.range M).countP (fun j=>!listed.getD j false):=by
  intro M
  induction M with
  |zero=>simp
  |succ M ih=>
   intro hM;have:=ih (by omega);rw [List.range_succ,List.countP_append,List.countP_append,←this];simp only [List.countP_cons,List.countP_nil,aJ (hs ▸ hi)];by_cases e:i=M;subst e;simp [hu];have e1:(if i=M then true else listed.getD M false)=listed.getD M false:=if_neg e;have e2:(if i<M+1 then 1 else 0)=(if i<M then 1 else 0):=by
    by_cases hlt:i<M;rw [if_pos hlt,if_pos (by omega)];rw [if_neg hlt,if_neg (by omega)]
   rw [e1,e2];omega
 have:=h1 N (Nat.le_refl _);rw [if_pos hi] at this;omega
theorem zJ {m:Nat} (hf:tM ops m) {D:Nat→Nat} {V:Nat→Value} {t0:Array Value} (ht0:t0.size=n)
  (hout:∀j,j<m→jB P w0 S n h ops j (qh D V t0 j) (D j) (V j)) (hF:∀w Ds,St w0 S w h (ou Ds++Y)→dR P r f R (.inRegion ops (List.range' m (ops.size - m))::k) (qh D V t0 m) (Ds.map mark) w):
  ∀(fuel τ:Nat) (listed:Array Bool) (t:Array Value),listed.size=ops.size→(∀j,listed.getD j false=true→∀e∈cG ops j,listed.getD e false=true)→(m<ops.size→listed.getD m false=false)→t.size=n→
   (∀j,j<m→listed.getD j false=true→t.getD (D j) undef=V j)→(∀s,(∀j,j<m→listed.getD j false=true→D j≠s)→t.getD s undef=t0.getD s undef)→
   (List.range ops.size).countP (fun j=>!listed.getD j false)≤fuel→∀w Ds,St w0 S w h (ou Ds++Y)→dR P r f R (.inRegion ops (Region.linearise.go .any ops fuel τ listed [])::k) t (Ds.map mark) w:=by
 have hDst:∀j,j<m→bK ops j=some (D j):=fun j hj=>by
  obtain ⟨o,h1,h2,_⟩:=hout j hj;simp [bK,h1,h2]
 have hDlt:∀j,j<m→D j<t0.size:=fun j hj=>by
  obtain ⟨o,_,_,h3,_⟩:=hout j hj;omega
 have hDinj:∀i j,i<m→j<m→D i=D j→i=j:=fun i j hi hj e=>hf.inj i j (D i) hi hj (hDst i hi) (by rw [hDst j hj,e]);have hmN:m≤ops.size:=by rcases hf.size with e|e<;>omega
 have hall:∀(listed:Array Bool) (t:Array Value),t.size=n→(∀j,j<m→listed.getD j false=true)→(∀j,j<m→listed.getD j false=true→t.getD (D j) undef=V j)→(∀s,(∀j,j<m→listed.getD j false=true→D j≠s)→t.getD s undef=t0.getD s undef)→t=qh D V t0 m:=by
  intro listed t hts hl h1 h2;obtain ⟨g1,g2⟩:=lB hDlt hDinj m (Nat.le_refl _);refine Array.ext_getElem? (fun s=>jc (by rw [hts,gU,ht0]) ?_);by_cases hs:∃j,j<m∧D j=s;obtain ⟨j,hj,rfl⟩:=hs;rw [h1 j hj (hl j hj),g1 j hj];rw [h2 s (fun j hj _ e=>hs ⟨j,hj,e⟩),g2 s (fun j hj e=>hs ⟨j,hj,e⟩)]
 intro fuel
 induction fuel with
 |zero=>
  intro τ listed t hls hcl hm hts h1 h2 hc w Ds hS;have hl:∀j,j<ops.size→listed.getD j false=true:=fun j hj=>by
   have:=List.countP_eq_zero.1 (Nat.le_zero.1 hc) j (by simpa using hj);simpa using this
  have hmm:m=ops.size:=by
   rcases Nat.lt_or_ge m ops.size with hlt|hge;have:=hl m hlt;rw [hm hlt] at this;cases this;omega
  rw [hall listed t hts (fun j hj=>hl j (by omega)) h1 h2];have:=hF w Ds hS;rw [hmm,Nat.sub_self] at this;rw [hmm];exact this
 |succ fuel ih=>
  intro τ listed t hls hcl hm hts h1 h2 hc w Ds hS;have hready:(∃j,j<ops.size∧listed.getD j false=false)→Region.ready .any ops listed≠[]:=by
   rintro ⟨j,hj,hu⟩;have key:∀q,q<ops.size→listed.getD q false=false→Region.ready .any ops listed≠[]:=by
    intro q
    induction q using Nat.strongRecOn with
    |_ q ihq=>
     intro hq hqu;by_cases hb:∃e∈cG ops q,listed.getD e false=false;obtain ⟨e,he,heu⟩:=hb;have hlt:=hf.lt q hq e he;exact ihq e hlt (by omega) heu;obtain ⟨o,ho⟩:∃o,ops[q]?=some o:=⟨ops[q],Array.getElem?_eq_getElem hq⟩;have:q∈Region.ready .any ops listed:=by
      rw [mem_ready];refine ⟨by rw [lK (by omega)];exact hqu,o,ho,fun e he hbd=>?_⟩;cases hx:listed.getD e.on false with
      |true=>rfl
      |false=>exact absurd ⟨e.on,(kS ho).2 ⟨e,he,hbd,rfl⟩,hx⟩ hb
     exact List.ne_nil_of_mem this
   exact key j hj hu
  simp only [Region.linearise.go];change dR P r f R (.inRegion ops (match (Region.ready .any ops listed)[τ%(Region.ready .any ops listed).length]? with
   |some i=>Region.linearise.go .any ops fuel (τ / (Region.ready .any ops listed).length) (listed.setIfInBounds i true) [i]
   |none=>[].reverse)::k) t (Ds.map mark) w;cases hi:(Region.ready .any ops listed)[τ%(Region.ready .any ops listed).length]? with
  |none=>
   have hnil:Region.ready .any ops listed=[]:=by
    cases hr:Region.ready .any ops listed with
    |nil=>rfl
    |cons x xs=>
     rw [hr] at hi;have hlt:τ%(x::xs).length<(x::xs).length:=Nat.mod_lt _ (by simp);rw [List.getElem?_eq_getElem hlt] at hi;cases hi
   have hl:∀j,j<ops.size→listed.getD j false=true:=fun j hj=>by
    cases hx:listed.getD j false with
    |true=>rfl
    |false=>exact absurd hnil (hready ⟨j,hj,hx⟩)
   have hmm:m=ops.size:=by
    rcases Nat.lt_or_ge m ops.size with hlt|hge;have:=hl m hlt;rw [hm hlt] at this;cases this;omega
   rw [hall listed t hts (fun j hj=>hl j (by omega)) h1 h2];have:=hF w Ds hS;rw [hmm,Nat.sub_self] at this;rw [hmm];exact this
  |some i=>
   have hmem:=List.mem_of_getElem? hi;rw [mem_ready] at hmem;obtain ⟨hu,o,ho,hdep⟩:=hmem;have hiN:i<ops.size:=(Array.getElem?_eq_some_iff.1 ho).1;rw [lK (by omega)] at hu;simp only [];rw [linearise_go_acc,List.reverse_singleton,List.singleton_append];have hdl:∀e∈cG ops i,listed.getD e false=true:=fun e he=>by
    obtain ⟨e',he',hb,rfl⟩:=(kS ho).1 he;exact hdep e' he' hb
   have hcl':∀j,(listed.setIfInBounds i true).getD j false=true→∀e∈cG ops j,(listed.setIfInBounds i true).getD e false=true:=by
    intro j hj e he;rw [aJ (by omega)] at hj⊢;split;rfl;split at hj;rename_i hij;subst hij;exact hdl e he;exact hcl j hj e he
   have hcnt:=count_set (listed:=listed) hls hiN hu;by_cases him:i<m;have hgo:=hout i him;have heq:jB P w0 S n h ops i t (D i) (V i):=by
    refine hgo.congr (hf.Ay i him) (by rw [hts,gU,ht0]) (fun o' ho' s hs=>?_);obtain ⟨g1,g2⟩:=lB hDlt hDinj i (by omega);by_cases hx:∃j,j<m∧D j=s;obtain ⟨j,hj,rfl⟩:=hx;have hjd:=hf.Fj i him o' ho' (D j) hs j hj (hDst j hj);rw [h1 j hj (hdl j hjd),g1 j (hf.lt i hiN j hjd)];rw [h2 s (fun j hj _ e=>hx ⟨j,hj,e⟩),g2 s (fun j hj e=>hx ⟨j,by omega,e⟩)]
   refine heq.go hS (fun w hS=>?_);have hDi:D i<t.size:=by rw [hts,←ht0];exact hDlt i him
   refine ih _ _ _ (by simpa using hls) hcl' (fun hlt=>?_) (by simpa using hts) (fun j hj hlj=>?_) (fun s hs=>?_) (by omega) w Ds hS;rw [aJ (by omega),if_neg (by omega)];exact hm hlt;rw [cQ hDi];split;rename_i e;rw [hDinj i j him hj e];rename_i e;rw [aJ (by omega)] at hlj;split at hlj;rename_i e2;subst e2;exact absurd rfl e;exact h1 j hj hlj;rw [cQ hDi,if_neg (hs i him (by rw [aJ (by omega),if_pos rfl]))];refine h2 s (fun j hj hlj=>hs j hj ?_);rw [aJ (by omega)];split;rfl;exact hlj
   -- the last operation
   have hsz:ops.size=m+1∧∀i,i<m→i∈cG ops m:=by
    rcases hf.size with e|e;omega;exact e
   have him':i=m:=by omega
   subst him';have hl:∀j,j<i→listed.getD j false=true:=fun j hj=>hdl j (hsz.2 j hj);have hnil:Region.linearise.go .any ops fuel (τ / (Region.ready .any ops listed).length) (listed.setIfInBounds i true) []=[]:=by
    have hr0:Region.ready .any ops (listed.setIfInBounds i true)=[]:=by
     rw [List.eq_nil_iff_forall_not_mem];intro j hj;rw [mem_ready] at hj;obtain ⟨a,o',ho',_⟩:=hj;have hjN:j<ops.size:=(Array.getElem?_eq_some_iff.1 ho').1;rw [lK (by simp;omega),aJ (by omega)] at a;split at a;cases a;rw [hl j (by omega)] at a;cases a
    cases fuel with
    |zero=>rfl
    |succ fuel=>
     simp only [Region.linearise.go];change (match (Region.ready .any ops (listed.setIfInBounds i true))[_%(Region.ready .any ops (listed.setIfInBounds i true)).length]? with
      |some i=>_
      |none=>[].reverse)=[];rw [hr0];rfl
   rw [hnil,hall listed t hts hl h1 h2];have:=hF w Ds hS;rw [hsz.1,show i+1 - i=1 from by omega] at this;exact this
theorem BH {m:Nat} (hc:xj ops l m=true):tM ops m:=by
 simp only [xj,Bool.and_eq_true,Bool.or_eq_true,Nat.beq_eq,List.all_eq_true,List.mem_range,Nat.blt_eq,List.contains_iff_mem] at hc;obtain ⟨⟨hsz,hlt⟩,hr⟩:=hc;have hat:∀i,i<m→∃o d,ops[i]?=some o∧o.dst=some d∧fH o.op=true∧(∀j,j<m→j=i∨bK ops j≠some d)∧(∀s∈gG ops o,∀j,j<m→bK ops j≠some s∨j∈cG ops i):=by
  intro i hi;have:=hr i hi;cases ho:ops[i]? with
  |none=>simp [ho] at this
  |some o=>
   cases hd:o.dst with
   |none=>simp [ho,hd] at this
   |some d=>
    simp only [ho,hd,Bool.and_eq_true,List.all_eq_true,List.mem_range,Bool.or_eq_true,Nat.beq_eq,Bool.not_eq_true',beq_eq_false_iff_ne,List.contains_iff_mem] at this;exact ⟨o,d,rfl,hd,this.1,this.2.1,this.2.2⟩
 refine ⟨hsz,hlt,fun i hi o ho=>?_,fun i j d hi hj h1 h2=>?_,fun i hi o ho s hs j hj hd=>?_⟩;obtain ⟨o',d,h1,_,h3,_⟩:=hat i hi;rw [ho] at h1;cases h1;exact h3;obtain ⟨o,d',e1,e2,_,e5,_⟩:=hat i hi;have:d'=d:=by simp [bK,e1,e2] at h1;exact h1
 subst this;rcases e5 j hj with e|e;exact e.symm;exact absurd h2 e;obtain ⟨o',d,e1,_,_,_,e6⟩:=hat i hi;rw [ho] at e1;cases e1;rcases e6 s hs j hj with e|e;exact absurd hd e;exact e
theorem ab.draw {id:Nat} (m:Nat) (hmix:P.follows .mixedOrders=true) (hc:xj ops l m=true) (hg:aR P r f R w0 S Y n k ops 0 m l h):ab P r f R w0 S Y n (.code (.region id ops true)::k) l h:=by
 intro t w Ds hF hS;have hf:=BH hc;refine .jJ (fun τ=>?_);obtain ⟨D,V,hout,hfin⟩:=(hg t hF).seq;simp only [Nat.zero_add] at hout hfin;simp only [Region.schedule,hmix,Bool.true_or,if_true,Region.linearise];refine zJ hf hF.1 hout hfin ops.size τ _ t (by simp) (fun j hj=>?_) (fun _=>?_) hF.1 (fun j _ hj=>?_) (fun s _=>rfl) ?_ _ Ds hS.drew;exfalso;simp [Array.getD_eq_getD_getElem?,Array.getElem?_replicate] at hj;split at hj<;>simp at hj
 simp [Array.getD_eq_getD_getElem?,Array.getElem?_replicate];split<;>simp
 exfalso;simp [Array.getD_eq_getD_getElem?,Array.getElem?_replicate] at hj;split at hj<;>simp at hj
 exact Nat.le_trans (List.countP_le_length) (by simp)
def aw (ops:Array Oper) (listed:List Nat):List Nat:=(List.range ops.size).filter (fun i=>!listed.contains i && (cG ops i).all (fun e=>listed.contains e))
theorem kK {arr:Array Bool} {listed:List Nat} (hs:arr.size=ops.size) (h:∀j,arr.getD j false=listed.contains j):Region.ready .any ops arr=aw ops listed:=by
 unfold Region.ready aw;refine List.filter_congr (fun i hi=>?_);have hi':i<ops.size:=by simpa using hi
 have e1:arr.getD i true=listed.contains i:=by rw [←h i];simp [Array.getD_eq_getD_getElem?,hs,hi']
 rw [e1]
 congr 1
 have hg:ops[i]?=some ops[i]:=Array.getElem?_eq_getElem hi';unfold cG;rw [hg];simp only [Option.map_some,Option.getD_some,←Array.all_toList];rw [List.all_map,List.all_filter]
 congr 1
 funext e;simp only [Function.comp,h]
end
end Go.Proofs.Wit
namespace Go.Proofs.Wit
def ew (s:aE):List Nat:=(List.range 64).filter (fun i=>s.getLsbD i)
def Jk:List Int:=[0,1,56,2,57,49,28,3,61,58,42,50,38,29,17,4,62,47,59,36,45,43,51,22,53,39,33,30,24,18,12,5,63,55,48,27,60,41,37,16,46,35,44,21,52,32,23,11,54,26,40,15,34,20,31,10,25,14,19,9,13,8,7,6]
end Go.Proofs.Wit
