/- Laws of walks, for any program, under the conditions that each theorem states. -/
import Derived.Test.YtchhieaagchhhaaGreatDoorXT38
import Derived.Test.YtchhieaagchhhaaGreatDoorXT28
set_option maxRecDepth 100000
set_option maxHeartbeats 4000000
namespace Go.Proofs.Wit
open Go Go.RowKit
structure Ws where
  q:Option Nat
  cap:Nat
  ls:List LV
  sp:List Value
  H:Hl
def HY (tw tl:TypeId) (er:Value) (bw:Nat) (s:Ws):Hl:=[(some bw,.cells #[bB s.q s.ls.length s.cap,er] tw (0,0)),(s.q,zO tl s.ls s.sp)]
def cg (tw tl:TypeId) (er:Value) (bw:Nat) (s:Ws):Hl:=(some bw,.cells #[bB s.q s.ls.length s.cap,er] tw (0,0))::(s.q,zO tl s.ls s.sp)::s.H
theorem CM {tw tl:TypeId} {er:Value} {bw:Nat} {s:Ws}:(HY tw tl er bw s).Sublist (cg tw tl er bw s):=.cons_cons _ (.cons_cons _ (List.nil_sublist _))
def Ws.uM (s:Ws) (p:Option Nat×Obj):Ws:={s with H:=p::s.H}
structure fy (tn:TypeId) (Γ:List FV) (σ:Sg) (s:Ws):Prop where
  nil:s.q=none→s.ls.length=0∧s.cap=0
  cap:(s.ls.flatMap LV.cells++s.sp).length=s.cap*5
  Em:s.ls.map LV.d=σ.ls.map (fun x=>x.v.d)
  HP:s.ls.length≤400
  ctx:∀x∈Γ,x.tH tn s.H∧x.f.length≤maxLen
  GZ:∀x∈s.ls,x.f∈Γ
  HM:∀x∈σ.ls,x.t.ok
section
variable {tn tw tl:TypeId} {er:Value} {bw:Nat} {Γ:List FV} {σ:Sg} {s:Ws}
theorem fy.len (h:fy tn Γ σ s):s.ls.length=σ.ls.length:=by have:=congrArg List.length h.Em;simpa using this
theorem fy.at (h:fy tn Γ σ s) {k:Nat} (hk:k<s.ls.length):s.ls[k].f.f=bT (gA σ k)∧(gA σ k).ok∧s.ls[k].f∈Γ:=by
 have hk2:k<σ.ls.length:=by rw [←h.len];exact hk
 have h1:s.ls[k].d=(σ.ls[k]).v.d:=by
  have:=congrArg (fun l=>l[k]?) h.Em;simpa [hk,hk2] using this
 have ht:gA σ k=(σ.ls[k]).t:=by simp [gA,List.getD_eq_getElem?_getD,hk2]
 refine ⟨?_,by rw [ht];exact h.HM _ (List.getElem_mem hk2),h.GZ _ (List.getElem_mem hk)⟩;rw [ht];exact congrArg LD.f h1
theorem fy.fa (h:fy tn Γ σ s) {x:FV} (hx:x∈Γ) {w0 w:World} {S:List Nat} {pre:Hl} {Y:List (Nat×Obj)} (hS:St w0 S w (pre++cg tw tl er bw s) Y):FA w x.a x.f:=
 ((h.ctx x hx).1.mono (fun _ hp=>List.mem_append_right _ (List.mem_cons_of_mem _ (List.mem_cons_of_mem _ hp)))).at hS
theorem fy.add (h:fy tn Γ σ s) {q:Option Nat} {f:List NV} {cap:Nat} {sp:List Value} (hq:q=none→f.length=0∧cap=0) (hl:f.length≤maxLen):fy tn (⟨q.map (fun b=>⟨b,0,none⟩),cap,f⟩::Γ) σ (s.uM (q,dk tn f sp)):=
 ⟨h.nil,h.cap,h.Em,h.HP,fun x hx=>by
  rcases List.mem_cons.1 hx with rfl|hx;exact ⟨⟨q,sp,List.mem_cons_self ..,rfl,fun e=>(hq e).1⟩,hl⟩;exact ⟨(h.ctx x hx).1.mono (List.subset_cons_self _ _),(h.ctx x hx).2⟩,fun x hx=>List.mem_cons_of_mem _ (h.GZ x hx),h.HM⟩
def FV.Z (x:FV):Prop:=x.f=[]→x.a=none
theorem fy.JZ (h:fy tn Γ σ s) {x:FV} (hx:x∈Γ) (hz:x.Z):x.a=none↔x.f=[]:=by
 refine ⟨fun e=>?_,hz⟩;obtain ⟨q,sp,_,h2,h3⟩:=(h.ctx x hx).1;cases q with
 |none=>exact List.eq_nil_of_length_eq_zero (h3 rfl)
 |some b=>rw [h2] at e;cases e
end
theorem gG.stay {w0 w1:World} {h0 hR pre h1:Hl} {Y:List (Nat×Obj)} (g:gG w0 (h0++hR)) (s:St w0 (bZ h0) w1 (pre++h1) Y):gG w1 (h1++(pre++hR)):=by
 have hap:=List.pairwise_append.1 g.apart;have hkeep:∀p∈hR,∀b,p.1=some b→w1.heap[b]?=some p.2∧b<w0.heap.size∧b∉bZ h0:=fun p hp b hb=>by
  have h2:=(g.own p (List.mem_append_right _ hp) b hb).1;have hlt:=(Array.getElem?_eq_some_iff.1 h2).1;have hn:b∉bZ h0:=fun hm=>by
   obtain ⟨o,ho⟩:=gl.1 hm;exact hap.2.2 _ ho p hp b rfl hb
  exact ⟨by rw [s.ext.block b hlt hn];exact h2,hlt,hn⟩
 have hs:=List.pairwise_append.1 s.apart;have hcross:∀p∈pre++h1,∀q∈hR,nR p q:=fun p hp q hq b hb hqb=>by
  obtain ⟨_,hlt,hn⟩:=hkeep q hq b hqb;rcases (s.own p hp b hb).2.2 with h|h;omega;exact hn h
 refine ⟨fun p hp b hb=>?_,?_⟩;rcases List.mem_append.1 hp with hp|hp;exact ⟨(s.own p (List.mem_append_right _ hp) b hb).1,(s.own p (List.mem_append_right _ hp) b hb).2.1⟩;rcases List.mem_append.1 hp with hp|hp;exact ⟨(s.own p (List.mem_append_left _ hp) b hb).1,(s.own p (List.mem_append_left _ hp) b hb).2.1⟩;exact ⟨(hkeep p hp b hb).1,(g.own p (List.mem_append_right _ hp) b hb).2⟩;refine List.pairwise_append.2 ⟨hs.2.1,List.pairwise_append.2 ⟨hs.1,hap.2.1,fun p hp q hq=>hcross p (List.mem_append_left _ hp) q hq⟩,fun p hp q hq=>?_⟩;rcases List.mem_append.1 hq with hq|hq;exact fun b hb hqb=>hs.2.2 q hq p hp b hqb hb;exact hcross p (List.mem_append_right _ hp) q hq
def sy (P:Program) (tn tw tl:TypeId) (ef:Bool→Value) (bw:Nat) (Γ:List FV) (σ:Sg) (gf:FuncId) (args:List Value) (w:World) (hR:Hl) (r:Nat×Sg):Prop:=
 ∀s,fy tn Γ σ s→gG w (cg tw tl (ef σ.bad) bw s++hR)→lu P gf args w (cg tw tl (ef σ.bad) bw s) (fun v h'=>∃s' Γ',v=.int .i64 (r.1:Int)∧h'=cg tw tl (ef r.2.bad) bw s'∧fy tn Γ' r.2 s'∧Γ⊆Γ')
section
variable {P:Program} {tn tw tl:TypeId} {er:Value} {ef:Bool→Value} {bw:Nat} {Γ:List FV} {σ:Sg} {s:Ws}
variable {r:Option Nat} {f:FuncId} {R:Value→World→Prop} {w0:World} {S:List Nat} {Y:List (Nat×Obj)} {n:Nat} {k:List Item} {l:Fl} {ops:Array Oper} {i d:Nat} {rest:List Nat} {ty:TypeId} {pos:String} {aft:Array Edge} {g:Option (Nat×Bool)}
variable {az:Array Operand} {ts:Array TypeId} {cal:Operand} {gf:FuncId} {vs:List Value} {u:Tr}
theorem jU {q:Option Nat} {f:List NV} {cap:Nat}:bB q f.length cap=FV.v ⟨q.map (fun b=>⟨b,0,none⟩),cap,f⟩:=by cases q<;>rfl
theorem iF {t:Tr}:(bT t).length≤maxLen:=aE rfl
theorem oh {p:Option Nat×Obj} {pre:Hl}:(p::(pre++cg tw tl er bw s)).Perm (pre++cg tw tl er bw (s.uM p)):=by
 refine (List.perm_middle (l₁:=pre) (a:=p)).symm.trans (List.Perm.append_left pre ?_);unfold cg Ws.uM;exact (List.Perm.swap _ _ _).trans (List.Perm.cons _ (List.Perm.swap _ _ _))
theorem ab.qt {pre:Hl} (hW:fy tn Γ σ s) (ho:ops[i]?=some ⟨some d,.call ⟨.value cal,az,ts⟩,ty,pos,aft,g⟩) (hw:au ops l g=true)
  (hc:aO l cal=some (.func (.func gf) #[] #[])) (hx:cQ l az.toList=some vs) (hd:Nat.blt d n=true) (hcf:∀args w,(callFunc gf args).run P w=.ok (.enter gf args) w)
  (hcall:∀w Y',St w0 S w (pre++cg tw tl er bw s) Y'→Cn P gf vs w (fun v w'=>gx tn w w' v (bT u)))
  (hk:∀x s',x.f=bT u→x.Z→fy tn (x::Γ) σ s'→ab P r f R w0 S Y n (.inRegion ops rest::k) ((d,x.v)::l) (pre++cg tw tl er bw s')):
  ab P r f R w0 S Y n (.inRegion ops (i::rest)::k) l (pre++cg tw tl er bw s):=by
 refine ab.nm (fun w v w'=>gx tn w w' v (bT u)) ho hw hc hx hd hcf hcall (fun v w w' Y' hS he hO=>?_);obtain ⟨ho,hz⟩:=hO;obtain ⟨q,cap,sp,rfl,hq,ak,hS'⟩:=aj hS he ho;refine ⟨_,hS'.perm oh,?_⟩;rw [jU];refine hk _ _ rfl (fun e=>?_) (hW.add hq iF);have:=hz e;cases q with
 |none=>rfl
 |some b=>cases this
theorem ab.iz {pre:Hl} (hW:fy tn Γ σ s) (hcf:∀args w,(callFunc gf args).run P w=.ok (.enter gf args) w) (hcall:∀w Y',St w0 S w (pre++cg tw tl er bw s) Y'→Cn P gf vs w (fun v w'=>gx tn w w' v (bT u))) (hk:∀x s',x.f=bT u→x.Z→fy tn (x::Γ) σ s'→ab P r f R w0 S Y n (.inRegion ops rest::k) ((d,x.v)::l) (pre++cg tw tl er bw s')) (ho:ops[i]?=some ⟨some d,.call ⟨.value cal,az,ts⟩,ty,pos,aft,g⟩:=by exact rfl) (hw:au ops l g=true:=by exact rfl) (hc:aO l cal=some (.func (.func gf) #[] #[]):=by exact rfl) (hx:cQ l az.toList=some vs:=by exact rfl) (hd:Nat.blt d n=true:=by exact rfl):ab P r f R w0 S Y n (.inRegion ops (i::rest)::k) l (pre++cg tw tl er bw s):=ab.qt (hW:=hW) (ho:=ho) (hw:=hw) (hc:=hc) (hx:=hx) (hd:=hd) (hcf:=hcf) (hcall:=hcall) (hk:=hk)
theorem ab.wL {pre:Hl} (hW:fy tn Γ σ s) (ho:ops[i]?=some ⟨some d,.call ⟨.value cal,az,ts⟩,ty,pos,aft,g⟩) (hw:au ops l g=true)
  (hc:aO l cal=some (.func (.func gf) #[] #[])) (hx:cQ l az.toList=some vs) (hd:Nat.blt d n=true) (hcf:∀args w,(callFunc gf args).run P w=.ok (.enter gf args) w)
  (hcall:∀w Y',St w0 S w (pre++cg tw tl er bw s) Y'→Cn P gf vs w (fun v w'=>ax tn w w' v (bT u)))
  (hk:∀x s',x.f=bT u→fy tn (x::Γ) σ s'→ab P r f R w0 S Y n (.inRegion ops rest::k) ((d,x.v)::l) (pre++cg tw tl er bw s')):
  ab P r f R w0 S Y n (.inRegion ops (i::rest)::k) l (pre++cg tw tl er bw s):=by
 refine ab.nm (fun w v w'=>ax tn w w' v (bT u)) ho hw hc hx hd hcf hcall (fun v w w' Y' hS he hO=>?_);obtain ⟨q,cap,sp,rfl,hq,ak,hS'⟩:=aj hS he hO;refine ⟨_,hS'.perm oh,?_⟩;rw [jU];exact hk _ _ rfl (hW.add hq iF)
theorem ab.eg {pre hR hR':Hl} {s0:Ws} {er0:Value} {res:Nat×Sg} (h0:gG w0 (cg tw tl er0 bw s0++hR)) (hW:fy tn Γ σ s) (hsub:hR'.Sublist (pre++hR)) (ho:ops[i]?=some ⟨some d,.call ⟨.value cal,az,ts⟩,ty,pos,aft,g⟩) (hw:au ops l g=true)
  (hc:aO l cal=some (.func (.func gf) #[] #[])) (hx:cQ l az.toList=some vs) (hd:Nat.blt d n=true) (hcf:∀args w,(callFunc gf args).run P w=.ok (.enter gf args) w)
  (hcall:∀w Y',St w0 (bZ (cg tw tl er0 bw s0)) w (pre++cg tw tl (ef σ.bad) bw s) Y'→sy P tn tw tl ef bw Γ σ gf vs w hR' res)
  (hk:∀s' Γ',fy tn Γ' res.2 s'→Γ⊆Γ'→ab P r f R w0 (bZ (cg tw tl er0 bw s0)) Y n (.inRegion ops rest::k) ((d,.int .i64 (res.1:Int))::l) (pre++cg tw tl (ef res.2.bad) bw s')):
  ab P r f R w0 (bZ (cg tw tl er0 bw s0)) Y n (.inRegion ops (i::rest)::k) l (pre++cg tw tl (ef σ.bad) bw s):=by
 refine ab.gZ (h':=cg tw tl (ef σ.bad) bw s++pre) List.perm_append_comm ?_;refine ab.eX (h:=cg tw tl (ef σ.bad) bw s) (hF:=pre) (fs:=[]) (cs:=[]) (fun _ v h'=>∃s' Γ',v=.int .i64 (res.1:Int)∧h'=cg tw tl (ef res.2.bad) bw s'∧fy tn Γ' res.2 s'∧Γ⊆Γ') ho hw hc hx hd hcf (fun w Y' hS=>?_) (fun w v h' hR2=>?_);rw [List.nil_append,List.append_nil];have hS2:=hS.perm (List.perm_append_comm (l₁:=cg tw tl (ef σ.bad) bw s) (l₂:=pre));exact hcall w _ hS2 s hW ((h0.stay hS2).sub (List.Sublist.append (List.Sublist.refl _) hsub));obtain ⟨s',Γ',rfl,rfl,hW',hs⟩:=hR2;exact ab.gZ List.perm_append_comm (hk s' Γ' hW' hs)
theorem ab.dI {pre hR hR':Hl} {s0:Ws} {er0:Value} {res:Nat×Sg} (h0:gG w0 (cg tw tl er0 bw s0++hR)) (hW:fy tn Γ σ s) (hsub:hR'.Sublist (pre++hR)) (hcf:∀args w,(callFunc gf args).run P w=.ok (.enter gf args) w) (hcall:∀w Y',St w0 (bZ (cg tw tl er0 bw s0)) w (pre++cg tw tl (ef σ.bad) bw s) Y'→sy P tn tw tl ef bw Γ σ gf vs w hR' res) (hk:∀s' Γ',fy tn Γ' res.2 s'→Γ⊆Γ'→ab P r f R w0 (bZ (cg tw tl er0 bw s0)) Y n (.inRegion ops rest::k) ((d,.int .i64 (res.1:Int))::l) (pre++cg tw tl (ef res.2.bad) bw s')) (ho:ops[i]?=some ⟨some d,.call ⟨.value cal,az,ts⟩,ty,pos,aft,g⟩:=by exact rfl) (hw:au ops l g=true:=by exact rfl) (hc:aO l cal=some (.func (.func gf) #[] #[]):=by exact rfl) (hx:cQ l az.toList=some vs:=by exact rfl) (hd:Nat.blt d n=true:=by exact rfl):ab P r f R w0 (bZ (cg tw tl er0 bw s0)) Y n (.inRegion ops (i::rest)::k) l (pre++cg tw tl (ef σ.bad) bw s):=ab.eg (h0:=h0) (hW:=hW) (hsub:=hsub) (ho:=ho) (hw:=hw) (hc:=hc) (hx:=hx) (hd:=hd) (hcf:=hcf) (hcall:=hcall) (hk:=hk)
end
section
variable {P:Program} {tn tw tl:TypeId} {er:Value} {ef:Bool→Value} {bw:Nat} {Γ:List FV} {σ:Sg} {s:Ws}
variable {r:Option Nat} {f:FuncId} {R:Value→World→Prop} {w0:World} {S:List Nat} {Y:List (Nat×Obj)} {n:Nat} {k:List Item} {l:Fl} {ops:Array Oper} {i d:Nat} {ty:TypeId} {pos:String} {aft:Array Edge} {g:Option (Nat×Bool)}
variable {az:Array Operand} {ts:Array TypeId} {cal:Operand} {gf:FuncId} {vs:List Value} {u:Tr} {hb:Hl} {q:Nat} {Dn:List Nat}
theorem FK {pre:Hl} (hs:hb.Sublist (pre++HY tw tl er bw s)) {s':Ws} (e:HY tw tl er bw s'=HY tw tl er bw s):hb.Sublist (pre++cg tw tl er bw s'):=hs.trans (List.Sublist.append (List.Sublist.refl _) (by rw [←e];exact CM))
theorem ao.qt {pre:Hl} (hW:fy tn Γ σ s) (hs:hb.Sublist (pre++HY tw tl er bw s)) (h1:av ops Dn=[i]) (ho:ops[i]?=some ⟨some d,.call ⟨.value cal,az,ts⟩,ty,pos,aft,g⟩) (hw:au ops l g=true)
  (hc:aO l cal=some (.func (.func gf) #[] #[])) (hx:cQ l az.toList=some vs) (hd:Nat.blt d n=true) (hcf:∀args w,(callFunc gf args).run P w=.ok (.enter gf args) w)
  (hcall:∀w Y',St w0 S w (pre++cg tw tl er bw s) Y'→Cn P gf vs w (fun v w'=>gx tn w w' v (bT u)))
  (hk:∀x p,x.f=bT u→x.Z→fy tn (x::Γ) σ (s.uM p)→ao P r f R w0 S Y n k ops hb q (i::Dn) ((d,x.v)::l) (pre++cg tw tl er bw (s.uM p))):
  ao P r f R w0 S Y n k ops hb (q+1) Dn l (pre++cg tw tl er bw s):=by
 refine ao.call (fun w v w'=>gx tn w w' v (bT u)) h1 ho hw hc hx hd hcf hcall (fun v w w' Y' hS he hO=>?_);obtain ⟨ho,hz⟩:=hO;obtain ⟨q,cap,sp,rfl,hq,ak,hS'⟩:=aj hS he ho;refine ⟨_,hS'.perm oh,FK hs rfl,?_⟩;rw [jU];refine hk _ _ rfl (fun e=>?_) (hW.add hq iF);have:=hz e;cases q with
 |none=>rfl
 |some b=>cases this
theorem ao.eg {pre hR hR':Hl} {s0:Ws} {er0:Value} {res:Nat×Sg} (h0:gG w0 (cg tw tl er0 bw s0++hR)) (hW:fy tn Γ σ s) (hsub:hR'.Sublist (pre++hR)) (hs:hb.Sublist pre) (h1:av ops Dn=[i]) (ho:ops[i]?=some ⟨some d,.call ⟨.value cal,az,ts⟩,ty,pos,aft,g⟩) (hw:au ops l g=true)
  (hc:aO l cal=some (.func (.func gf) #[] #[])) (hx:cQ l az.toList=some vs) (hd:Nat.blt d n=true) (hcf:∀args w,(callFunc gf args).run P w=.ok (.enter gf args) w)
  (hcall:∀w Y',St w0 (bZ (cg tw tl er0 bw s0)) w (pre++cg tw tl (ef σ.bad) bw s) Y'→sy P tn tw tl ef bw Γ σ gf vs w hR' res)
  (hk:∀s' Γ',fy tn Γ' res.2 s'→Γ⊆Γ'→ao P r f R w0 (bZ (cg tw tl er0 bw s0)) Y n k ops hb q (i::Dn) ((d,.int .i64 (res.1:Int))::l) (pre++cg tw tl (ef res.2.bad) bw s')):
  ao P r f R w0 (bZ (cg tw tl er0 bw s0)) Y n k ops hb (q+1) Dn l (pre++cg tw tl (ef σ.bad) bw s):=by
 refine ao.eX (hC:=cg tw tl (ef σ.bad) bw s) (hF:=pre) (fs:=[]) (cs:=[]) List.perm_append_comm (fun _ v h'=>∃s' Γ',v=.int .i64 (res.1:Int)∧h'=cg tw tl (ef res.2.bad) bw s'∧fy tn Γ' res.2 s'∧Γ⊆Γ') h1 ho hw hc hx hd hcf (fun w Y' hS=>?_) (fun w v h' hR2=>?_);rw [List.nil_append,List.append_nil];have hS2:=hS.perm (List.perm_append_comm (l₁:=cg tw tl (ef σ.bad) bw s) (l₂:=pre));exact hcall w _ hS2 s hW ((h0.stay hS2).sub (List.Sublist.append (List.Sublist.refl _) hsub));obtain ⟨s',Γ',rfl,rfl,hW',hs'⟩:=hR2;exact ⟨_,List.perm_append_comm,hs.trans (List.sublist_append_left _ _),hk s' Γ' hW' hs'⟩
theorem sy.of {gf:FuncId} {fn:Func} {c:Code} {args:List Value} {w:World} {hR:Hl} {res:Nat×Sg} (hf:P.funcs[gf]?=some fn) (hb:fn.body=some c) (hn:Nat.ble args.length fn.ntmps=true)
  (hgo:∀s,fy tn Γ σ s→gG w (cg tw tl (ef σ.bad) bw s++hR)→ab P none gf (fun v w'=>∃h',(∃s' Γ',v=.int .i64 (res.1:Int)∧h'=cg tw tl (ef res.2.bad) bw s'∧fy tn Γ' res.2 s'∧Γ⊆Γ')∧St w (bZ (cg tw tl (ef σ.bad) bw s)) w' h' []) w (bZ (cg tw tl (ef σ.bad) bw s)) [] fn.ntmps [.code c] (vj 0 args) (cg tw tl (ef σ.bad) bw s)):
  sy P tn tw tl ef bw Γ σ gf args w hR res:=fun s hW hH=>lu.of (hH.sub (List.sublist_append_left _ _)) hf hb hn (hgo s hW hH)
end
theorem JM {tn tw tl:TypeId} {ef:Bool→Value} {bw:Nat} {Γ Γ':List FV} {res:Nat×Sg} {s':Ws} {w w':World} {S:List Nat} {pre:Hl} {v:Value} (hv:v=.int .i64 (res.1:Int)) (hW:fy tn Γ' res.2 s') (hg:Γ⊆Γ') (hS:St w S w' (pre++cg tw tl (ef res.2.bad) bw s') []):
  ∃h',(∃s' Γ',v=.int .i64 (res.1:Int)∧h'=cg tw tl (ef res.2.bad) bw s'∧fy tn Γ' res.2 s'∧Γ⊆Γ')∧St w S w' h' []:=⟨_,⟨s',Γ',hv,rfl,hW,hg⟩,hS.bQ (List.sublist_append_right _ _)⟩
theorem fy.bad {tn:TypeId} {Γ:List FV} {σ:Sg} {s:Ws} {b:Bool} (h:fy tn Γ σ s):fy tn Γ ⟨σ.ls,b⟩ s:=⟨h.nil,h.cap,h.Em,h.HP,h.ctx,h.GZ,h.HM⟩
theorem ew {tn tw tl:TypeId} {ef:Bool→Value} {bw:Nat} {Γ Γ':List FV} {res res':Nat×Sg} {s':Ws} {w w':World} {S:List Nat} {pre:Hl} {v:Value} (he:res=res') (hv:v=.int .i64 (res'.1:Int)) (hW:fy tn Γ' res'.2 s') (hg:Γ⊆Γ') (hS:St w S w' (pre++cg tw tl (ef res'.2.bad) bw s') []):
  ∃h',(∃s' Γ',v=.int .i64 (res.1:Int)∧h'=cg tw tl (ef res.2.bad) bw s'∧fy tn Γ' res.2 s'∧Γ⊆Γ')∧St w S w' h' []:=by subst he;exact JM hv hW hg hS
structure JG (S:List Nat) (w:World) (a:Option Addr) (xs:List Int):Prop where
  at_:jd w a xs
  sep:∀b o,a=some ⟨b,o,none⟩→b∉S
theorem JG.aq {S:List Nat} {w0 w:World} {a:Option Addr} {xs:List Int} (h:JG S w0 a xs) (e:Ex S w0 w):jd w a xs:=jd.aq h.at_ e h.sep
theorem gG.read {w:World} {h0 hR:Hl} (g:gG w (h0++hR)) {b:Nat} {o:Obj} (hm:(some b,o)∈hR):w.heap[b]?=some o∧b∉bZ h0:=by
 refine ⟨(g.own _ (List.mem_append_right _ hm) b rfl).1,fun hb=>?_⟩;obtain ⟨o',ho⟩:=gl.1 hb;exact (List.pairwise_append.1 g.apart).2.2 _ ho _ hm b rfl rfl
theorem gG.KJ {w:World} {h0 hR:Hl} (g:gG w (h0++hR)) {q:Option Nat} {xs:List Int} {e:TypeId} {sp:List Value} (hm:(q,ob aV e xs sp)∈hR) (hq:q=none→xs=[]):JG (bZ h0) w (q.map (fun b=>⟨b,0,none⟩)) xs:=by
 cases q with
 |none=>rw [hq rfl];exact ⟨Sl.nil _ _,fun b o e=>by cases e⟩
 |some b=>exact ⟨Sl.dq (g.read hm).1,fun b' o e=>by cases e;exact (g.read hm).2⟩
theorem fy.put {tn:TypeId} {Γ:List FV} {σ:Sg} {s:Ws} (h:fy tn Γ σ s) {x:FV} (h1:x.tH tn s.H) (h2:x.f.length≤maxLen):fy tn (x::Γ) σ s:=⟨h.nil,h.cap,h.Em,h.HP,fun y hy=>by
  rcases List.mem_cons.1 hy with rfl|hy;exact ⟨h1,h2⟩;exact h.ctx y hy,fun y hy=>List.mem_cons_of_mem _ (h.GZ y hy),h.HM⟩
theorem gG.aY {w:World} {h:Hl} (g:gG w h) (o:Obj):gG w (h++[(none,o)]):=by
 constructor;intro p hp b hb;rcases List.mem_append.1 hp with hp|hp;exact g.own p hp b hb;rw [List.mem_singleton.1 hp] at hb;cases hb;refine List.pairwise_append.2 ⟨g.apart,List.pairwise_singleton _ _,fun p _ q hq b _ hqb=>?_⟩;rw [List.mem_singleton.1 hq] at hqb;cases hqb
section
variable {P:Program} {tn tw tl:TypeId} {ef:Bool→Value} {bw:Nat} {Γ:List FV} {σ:Sg} {s:Ws}
variable {r:Option Nat} {f:FuncId} {R:Value→World→Prop} {w0:World} {S:List Nat} {Y:List (Nat×Obj)} {n:Nat} {k:List Item} {l:Fl} {ops:Array Oper} {i d:Nat} {rest:List Nat} {ty:TypeId} {pos:String} {aft:Array Edge} {g:Option (Nat×Bool)}
variable {az:Array Operand} {ts:Array TypeId} {cal:Operand} {gf:FuncId} {vs:List Value}
theorem ab.rS {pre hR':Hl} {res:Nat×Sg} (hW:fy tn Γ σ s) (hsub:hR'.Sublist pre) (ho:ops[i]?=some ⟨some d,.call ⟨.value cal,az,ts⟩,ty,pos,aft,g⟩) (hw:au ops l g=true)
  (hc:aO l cal=some (.func (.func gf) #[] #[])) (hx:cQ l az.toList=some vs) (hd:Nat.blt d n=true) (hcf:∀args w,(callFunc gf args).run P w=.ok (.enter gf args) w)
  (hcall:∀w Y',St w0 S w (pre++cg tw tl (ef σ.bad) bw s) Y'→sy P tn tw tl ef bw Γ σ gf vs w hR' res)
  (hk:∀s' Γ',fy tn Γ' res.2 s'→Γ⊆Γ'→ab P r f R w0 S Y n (.inRegion ops rest::k) ((d,.int .i64 (res.1:Int))::l) (pre++cg tw tl (ef res.2.bad) bw s')):
  ab P r f R w0 S Y n (.inRegion ops (i::rest)::k) l (pre++cg tw tl (ef σ.bad) bw s):=by
 refine ab.gZ (h':=cg tw tl (ef σ.bad) bw s++pre) List.perm_append_comm ?_;refine ab.eX (h:=cg tw tl (ef σ.bad) bw s) (hF:=pre) (fs:=[]) (cs:=[]) (fun _ v h'=>∃s' Γ',v=.int .i64 (res.1:Int)∧h'=cg tw tl (ef res.2.bad) bw s'∧fy tn Γ' res.2 s'∧Γ⊆Γ') ho hw hc hx hd hcf (fun w Y' hS=>?_) (fun w v h' hR2=>?_);rw [List.nil_append,List.append_nil];have hS2:=hS.perm (List.perm_append_comm (l₁:=cg tw tl (ef σ.bad) bw s) (l₂:=pre));exact hcall w _ hS2 s hW (hS.has.sub (List.Sublist.append (List.Sublist.refl _) hsub));obtain ⟨s',Γ',rfl,rfl,hW',hs⟩:=hR2;exact ab.gZ List.perm_append_comm (hk s' Γ' hW' hs)
end
theorem fy.own {tn tw tl:TypeId} {Γ:List FV} {σ:Sg} {s:Ws} {er:Value} {bw:Nat} {w0 w:World} {pre:Hl} {Y:List (Nat×Obj)} (h:fy tn Γ σ s) (hS:St w0 [] w (pre++cg tw tl er bw s) Y):iT tn tl w0 w (bB s.q s.ls.length s.cap) s.ls:=
 ⟨s.q,s.cap,s.sp,s.H,rfl,h.nil,h.cap,(fO.of hS).sub ((List.sublist_cons_self _ _).trans (List.sublist_append_right pre _)),fun x hx=>h.ctx _ (h.GZ x hx)⟩
theorem fy.start {tn:TypeId}:fy tn [] ⟨[],false⟩ ⟨none,0,[],[],[]⟩:=by
 refine ⟨fun _=>⟨rfl,rfl⟩,rfl,rfl,Nat.zero_le _,?_,?_,?_⟩<;>(intro _ h;cases h)
structure rV (b:List NV):Prop where
  jt:aN b=0
  DF:∀n∈b,dw b n
section
variable {b:List NV}
theorem rV.x (h:rV b) {i:Nat} (hi:i<b.length) (hX:4≤(nd b i).op):0≤(nd b i).x∧(nd b i).x<i:=by
 rw [bM hi] at*;have ho:=(aB.1 h.jt).nodes i hi;have h1:=h.DF _ (List.getElem_mem hi);have hu:dh b[i].op=true:=by unfold dh;unfold dw at h1;simp;omega
 have:=ho.x hu;omega
theorem rV.y (h:rV b) {i:Nat} (hi:i<b.length) (hX:(nd b i).op=5∨(nd b i).op=6):0≤(nd b i).y∧(nd b i).y<i:=by
 rw [bM hi] at*;have ho:=(aB.1 h.jt).nodes i hi;have hu:cD b[i].op=true:=by unfold cD;rcases hX with e|e<;>rw [e]<;>rfl
 have:=ho.y hu;omega
theorem rV.node (h:rV b) {i:Nat} (hi:i<b.length):((nd b i).op≤3∧aa b i=.leaf (nd b i).op (nd b i).i (nd b i).e (nd b i).g)∨(((nd b i).op=4∨(nd b i).op=9∨(nd b i).op=10)∧aa b i=.un (nd b i).op (nd b i).i (nd b i).e (nd b i).g (aa b (nd b i).x.toNat))∨(((nd b i).op=5∨(nd b i).op=6)∧aa b i=.bin (nd b i).op (nd b i).i (nd b i).e (nd b i).g (aa b (nd b i).x.toNat) (aa b (nd b i).y.toNat)):=by
 rw [bM hi];have hO:=(aB.1 h.jt).nodes;have hn:=h.DF _ (List.getElem_mem hi);unfold dw at hn;have hX:dh b[i].op=true↔4≤b[i].op:=by
  unfold dh;simp;omega
 have hY:cD b[i].op=true↔b[i].op=5∨b[i].op=6:=by
  unfold cD;simp;omega
 rcases bS hi hO with ⟨h1,h2⟩|⟨h1,h2,h3⟩|⟨h1,h2⟩;refine .inl ⟨?_,h2⟩;have:¬4≤b[i].op:=fun e=>by rw [hX.2 e] at h1;cases h1
 omega;refine .inr (.inl ⟨?_,h3⟩);have:=hX.1 h1;have:¬(b[i].op=5∨b[i].op=6):=fun e=>by rw [hY.2 e] at h2;cases h2
 omega;exact .inr (.inr ⟨hY.1 h1,h2⟩)
theorem rV.nf (h:rV b):∀(i:Nat),i<b.length→pF (aa b i):=by
 intro i
 induction i using Nat.strongRecOn with
 |_ i ih=>
 intro hi;rcases h.node hi with ⟨h1,h2⟩|⟨h1,h2⟩|⟨h1,h2⟩;rw [h2];exact h1;have hx:=h.x hi (by omega);rw [h2];by_cases h4:(nd b i).op=4;have hn:=h.DF _ (List.getElem_mem hi);unfold dw at hn;rw [←bM hi] at hn;have h3:(nd b (nd b i).x).op=3:=by omega
 obtain ⟨k,hk⟩:∃k:Nat,(nd b i).x=k:=⟨(nd b i).x.toNat,by omega⟩;rw [hk] at h3⊢;have hkl:k<b.length:=by omega
 rcases h.node hkl with ⟨g1,g2⟩|⟨g1,g2⟩|⟨g1,g2⟩;rw [Int.toNat_natCast,g2,h3];exact .inl ⟨h4,_,_,_,rfl⟩;omega;omega;exact .inr ⟨by omega,ih _ (by omega) (by omega)⟩;have hx:=h.x hi (by omega);have hy:=h.y hi h1;rw [h2];exact ⟨h1,ih _ (by omega) (by omega),ih _ (by omega) (by omega)⟩
theorem rV.top (h:rV b):pF (bu b):=by
 have hp:=(aB.1 h.jt).pos;rw [dE];exact h.nf _ (by omega)
end
open Classical in
noncomputable def sZ (ei:Bool) (f:List NV):Int:=if aN f≠0 then aN f else if ¬∀n∈ah f,dw (ah f) n then 10 else if (aK ae ei (bu f) ⟨[],false⟩).2.bad=true then 8 else 0
noncomputable def Gu (ei:Bool) (f:List NV):List LD:=(aK ae ei (bu f) ⟨[],false⟩).2.ls.map (fun x=>x.v.d)
structure SP where
  bw:Nat
  bs:Nat
  l:Int
  A:Option Addr
  cA:Nat
  b:List NV
  B:Option Addr
  cB:Nat
  tl:List SV
  x:SV
  full:aC
  Z:Option Addr
  cZ:Nat
  last:List Nat
def SP.cs (p:SP):Array Value:=#[.pointer (some ⟨p.bw,0,none⟩),.int .i64 p.l,.slice p.A p.b.length p.cA,.slice p.B p.tl.length p.cB,U p.x.d.set,.int .i64 p.x.d.al,.int .i64 p.x.d.on,.int .i64 p.x.d.e,.slice p.x.fa p.x.d.fr.length p.x.fc,U p.full,.slice p.Z p.last.length p.cZ]
structure SP.At (p:SP) (t:TypeId) (w:World):Prop where
  dq:w.heap[p.bs]?=some (.cells p.cs t (0,0))
  fa:FA w p.A p.b
  sa:Sl w p.B (p.tl.flatMap SV.cells)
  HL:jd w p.x.fa p.x.d.fr
  JB:jd w p.Z (p.last.map (fun j:Nat=>(j:Int)))
structure SP.R (p:SP) (t:TypeId) (S:List Nat) (w:World):Prop where
  at_:p.At t w
  s1:p.bs∉S
  s2:∀b o,p.A=some ⟨b,o,none⟩→b∉S
  s3:∀b o,p.B=some ⟨b,o,none⟩→b∉S
  s4:∀b o,p.x.fa=some ⟨b,o,none⟩→b∉S
  s5:∀b o,p.Z=some ⟨b,o,none⟩→b∉S
theorem SP.R.ex {p:SP} {t:TypeId} {S:List Nat} {w w':World} (h:p.R t S w) (e:Ex S w w'):p.At t w':=by
 refine ⟨?_,h.at_.fa.aq e h.s2,Sl.ex h.at_.sa e h.s3,jd.aq h.at_.HL e h.s4,jd.aq h.at_.JB e h.s5⟩;have h1:=h.at_.dq;rw [e.block p.bs (Array.getElem?_eq_some_iff.1 h1).1 h.s1];exact h1
theorem SP.At.aq {p:SP} {t:TypeId} {w w':World} (h:p.At t w) (e:Ex [] w w'):p.At t w':=⟨e.iA h.dq,h.fa.aq e,Sl.ex h.sa e (by simp),h.HL.aq e,h.JB.aq e⟩
structure SP.In (p:SP) (t tn ts ti:TypeId) (hR:Hl):Prop where
  dq:(some p.bs,.cells p.cs t (0,0))∈hR
  fa:∃q sp,(q,dk tn p.b sp)∈hR∧p.A=q.map (fun b=>⟨b,0,none⟩)∧(q=none→p.b.length=0)
  sa:∃q sp,(q,kO ts p.tl sp)∈hR∧p.B=q.map (fun b=>⟨b,0,none⟩)∧(q=none→p.tl.length=0)
  HL:∃q sp,(q,ob aV ti p.x.d.fr sp)∈hR∧p.x.fa=q.map (fun b=>⟨b,0,none⟩)∧(q=none→p.x.d.fr.length=0)
  JB:∃q sp,(q,ob aV ti (p.last.map (fun j:Nat=>(j:Int))) sp)∈hR∧p.Z=q.map (fun b=>⟨b,0,none⟩)∧(q=none→p.last.length=0)
theorem SP.In.mono {p:SP} {t tn ts ti:TypeId} {hR hR':Hl} (h:p.In t tn ts ti hR) (hs:hR⊆hR'):p.In t tn ts ti hR':=by
 obtain ⟨h1,⟨q2,s2,a2,b2⟩,⟨q3,s3,a3,b3⟩,⟨q4,s4,a4,b4⟩,⟨q5,s5,a5,b5⟩⟩:=h;exact ⟨hs h1,⟨q2,s2,hs a2,b2⟩,⟨q3,s3,hs a3,b3⟩,⟨q4,s4,hs a4,b4⟩,⟨q5,s5,hs a5,b5⟩⟩
theorem SP.In.r {p:SP} {t tn ts ti:TypeId} {hR h0:Hl} {w:World} (h:p.In t tn ts ti hR) (g:gG w (h0++hR)):p.R t (bZ h0) w:=by
 obtain ⟨h1,⟨q2,s2,a2,b2,c2⟩,⟨q3,s3,a3,b3,c3⟩,⟨q4,s4,a4,b4,c4⟩,⟨q5,s5,a5,b5,c5⟩⟩:=h;obtain ⟨k1,k2⟩:=g.read h1;have hsep:∀{a:Option Addr} {q:Option Nat} {o':Obj},(q,o')∈hR→a=q.map (fun b=>(⟨b,0,none⟩:Addr))→∀b o,a=some ⟨b,o,none⟩→b∉bZ h0:=fun hm e b o e2=>by
  rename_i a q o';subst e;cases q with
  |none=>cases e2
  |some b'=>cases e2;exact (g.read hm).2
 refine ⟨⟨k1,?_,?_,?_,?_⟩,k2,hsep a2 b2,hsep a3 b3,hsep a4 b4,hsep a5 b5⟩;rw [b2];cases q2 with
 |none=>rw [List.eq_nil_of_length_eq_zero (c2 rfl)];exact ⟨Sl.nil _ _⟩
 |some b=>exact ⟨Sl.dq (g.read a2).1⟩
 rw [b3];cases q3 with
 |none=>rw [List.eq_nil_of_length_eq_zero (c3 rfl)];exact Sl.nil _ _
 |some b=>exact Sl.dq (g.read a3).1
 rw [b4];cases q4 with
 |none=>rw [List.eq_nil_of_length_eq_zero (c4 rfl)];exact Sl.nil _ _
 |some b=>exact Sl.dq (g.read a4).1
 rw [b5];cases q5 with
 |none=>rw [List.eq_nil_of_length_eq_zero (c5 rfl)];exact Sl.nil _ _
 |some b=>exact Sl.dq (g.read a5).1
theorem SP.At.part {p:SP} {t:TypeId} {w:World} (h:p.At t w) {o:Nat} {cs:List Value} (hc:∀j,j<cs.length→p.cs[o+j]?=cs[j]?):∀j v,cs[j]?=some v→w.cell? ((⟨p.bs,o,none⟩:Addr).add j)=some v:=fun j v hv=>by
 have hj:=(List.getElem?_eq_some_iff.1 hv).1;have e1:(⟨p.bs,o,none⟩:Addr).add j=⟨p.bs,o+j,none⟩:=by
  unfold Addr.add;split;rename_i h0;rw [h0];rfl;rfl
 rw [e1];exact Ex.cell (Ex.refl _ _) h.dq (by rw [hc j hj];exact hv)
structure JI (S:List Nat) (w:World) (a:Option Addr) (xs:List Value):Prop where
  at_:Sl w a xs
  sep:∀b o,a=some ⟨b,o,none⟩→b∉S
theorem JI.aq {S:List Nat} {w0 w:World} {a:Option Addr} {xs:List Value} (h:JI S w0 a xs) (e:Ex S w0 w):JI S w a xs:=⟨Sl.ex h.at_ e h.sep,h.sep⟩
theorem SP.R.KK {p:SP} {t:TypeId} {S:List Nat} {w:World} (h:p.R t S w):JI S w p.B (p.tl.flatMap SV.cells):=⟨h.at_.sa,h.s3⟩
theorem SP.R.HQ {p:SP} {t:TypeId} {S:List Nat} {w:World} (h:p.R t S w):zU S w p.A p.b:=⟨h.at_.fa.at_,h.s2⟩
def SP.ag (p:SP):Int:=if p.x.d.al=7 then p.x.d.on else (nd p.b p.x.d.on).i
def SP.S0 (p:SP):aC:=dt (cK p.tl) (p.x.d.fr.getD 0 0)
def SP.own (p:SP):List Nat:=if p.x.d.al=6 then eC (p.S0 &&& ~~~ bW (nd p.b p.x.d.on).x) else eC p.S0
def SP.ns (p:SP):List Nat:=if p.x.d.al=6 then p.own else p.own.dropLast
def SP.tg (p:SP):Nat:=if p.x.d.al=6 then (nd p.b p.x.d.on).x.toNat else p.own.getLastD 0
def SP.line (p:SP):Nat:=p.last.getD (p.x.d.fr.getD 0 0).toNat 0
structure SP.Ok (p:SP) (k:Nat):Prop where
  base:aQ p.b
  full:gy p.b p.full
  mc:dJ p.l p.b (cK p.tl) k p.x.d
  Lm:k<p.tl.length
  IN:p.last.length=k
  wz:∀j:Nat,j<p.tl.length→gy p.b (dt (cK p.tl) (j:Int))
  ne:∀j:Nat,j<p.tl.length→eC (dt (cK p.tl) (j:Int))≠[]
  Lw:p.x.d.al=6∨p.x.d.al=7→∀n∈p.own,eY p.b p.full p.ag n=n→(nd p.b n).op=9∨(nd p.b n).op=10
  LB:p.x.d.al=6∨p.x.d.al=7→0≤p.ag∧p.ag<4
noncomputable def IL (p:SP) (G:Tr) (σ:Sg):Nat×Sg:=wN ae p.b G p.full p.ag p.ns p.tg p.own (decide (p.x.d.al=6)) p.line σ
theorem Dr {s u:aC} {n:Nat} (h:n∈eC (s &&& u)):n∈eC s:=dz.2 (by
 have:=dz.1 h;rw [BitVec.getLsbD_and,Bool.and_eq_true] at this;exact this.1)
theorem SP.xN {p:SP} {n:Nat} (h:n∈p.own):n∈eC p.S0:=by
 unfold SP.own at h;split at h;exact Dr h;exact h
theorem SP.Gf {p:SP} {n:Nat} (h:n∈p.ns):n∈p.own:=by
 unfold SP.ns at h;split at h;exact h;exact (List.dropLast_sublist _).subset h
theorem Du {s:aC}:(eC s).length≤64:=by
 have:=List.length_filter_le (fun i=>s.getLsbD i) (List.range 64);simpa [eC] using this
theorem SP.Dy {p:SP}:p.own.length≤64:=by unfold SP.own;split<;>exact Du
theorem SP.DE {p:SP}:p.own.take p.ns.length=p.ns:=by
 unfold SP.ns;split;exact List.take_length;rw [List.length_dropLast,List.dropLast_eq_take]
theorem SP.IA {p:SP}:p.ns.length≤p.own.length:=by
 unfold SP.ns;split;exact Nat.le_refl _;rw [List.length_dropLast];omega
section
variable {P:Program} {tn tw tl:TypeId} {er:Value} {bw:Nat} {Γ:List FV} {σ:Sg} {s:Ws}
variable {r:Option Nat} {f:FuncId} {R:Value→World→Prop} {w0:World} {S:List Nat} {Y:List (Nat×Obj)} {n:Nat} {k:List Item} {l:Fl} {ops:Array Oper} {i d:Nat} {rest:List Nat} {ty:TypeId} {pos:String} {aft:Array Edge} {g:Option (Nat×Bool)}
variable {az:Array Operand} {ts:Array TypeId} {cal:Operand} {gf:FuncId} {vs:List Value} {u:Tr}
theorem ab.CD {pre:Hl} {y:FV} (hW:fy tn Γ σ s) (hy:y∈Γ) (hyz:y.Z) (ho:ops[i]?=some ⟨some d,.call ⟨.value cal,az,ts⟩,ty,pos,aft,g⟩) (hw:au ops l g=true)
  (hc:aO l cal=some (.func (.func gf) #[] #[])) (hx:cQ l az.toList=some vs) (hd:Nat.blt d n=true) (hcf:∀args w,(callFunc gf args).run P w=.ok (.enter gf args) w)
  (hcall:∀w Y',St w0 S w (pre++cg tw tl er bw s) Y'→Cn P gf vs w (fun v w'=>(v=y.v∧y.f=bT u)∨gx tn w w' v (bT u)))
  (hk:∀x s' Γ',x∈Γ'→Γ⊆Γ'→x.f=bT u→x.Z→fy tn Γ' σ s'→ab P r f R w0 S Y n (.inRegion ops rest::k) ((d,x.v)::l) (pre++cg tw tl er bw s')):
  ab P r f R w0 S Y n (.inRegion ops (i::rest)::k) l (pre++cg tw tl er bw s):=by
 refine ab.nm (fun w v w'=>(v=y.v∧y.f=bT u)∨gx tn w w' v (bT u)) ho hw hc hx hd hcf hcall (fun v w w' Y' hS he hO=>?_);rcases hO with ⟨rfl,hf⟩|⟨ho,hz⟩;exact ⟨_,hS.later he,hk y s Γ hy (fun _ h=>h) hf hyz hW⟩;obtain ⟨q,cap,sp,rfl,hq,ak,hS'⟩:=aj hS he ho;refine ⟨_,hS'.perm oh,?_⟩;rw [jU];refine hk _ _ _ (List.mem_cons_self ..) (fun _ h=>List.mem_cons_of_mem _ h) rfl (fun e=>?_) (hW.add hq iF);have:=hz e;cases q with
 |none=>rfl
 |some b=>cases this
end
section
variable {P:Program} {tn tw tl:TypeId} {er:Value} {ef:Bool→Value} {bw:Nat} {Γ:List FV} {σ:Sg} {s:Ws}
variable {r:Option Nat} {f:FuncId} {R:Value→World→Prop} {w0:World} {S:List Nat} {Y:List (Nat×Obj)} {n:Nat} {k:List Item} {l:Fl} {ops:Array Oper} {i d:Nat} {ty:TypeId} {pos:String} {aft:Array Edge} {g:Option (Nat×Bool)}
variable {az:Array Operand} {ts:Array TypeId} {cal:Operand} {gf:FuncId} {vs:List Value} {u:Tr} {hb:Hl} {q:Nat} {Dn:List Nat} {h:Hl}
theorem ao.two {i j d e:Nat} (h1:av ops Dn=[i,j]) (hi:cX P w0 S n h ops i l d (fun v h'=>hb.Sublist h'∧ao P r f R w0 S Y n k ops hb q (i::Dn) ((d,v)::l) h')) (hd:Nat.blt d n=true) (hj:cX P w0 S n h ops j l e (fun v h'=>hb.Sublist h'∧ao P r f R w0 S Y n k ops hb q (j::Dn) ((e,v)::l) h')) (he:Nat.blt e n=true):ao P r f R w0 S Y n k ops hb (q+1) Dn l h:=by
 intro t hF;rw [Dt];refine .inr ⟨by rw [h1];simp,fun m hm=>?_⟩;rw [h1] at hm;simp only [List.mem_cons,List.not_mem_nil,or_false] at hm;rcases hm with rfl|rfl;exact eG.of hi hF (fun v h' ⟨e1,e2⟩=>⟨e1,e2 _ (hF.put v hd)⟩);exact eG.of hj hF (fun v h' ⟨e1,e2⟩=>⟨e1,e2 _ (hF.put v he)⟩)
theorem cX.CD {K:Value→Hl→Prop} {pre:Hl} {y:FV} (hW:fy tn Γ σ s) (hy:y∈Γ) (hyz:y.Z) (ho:ops[i]?=some ⟨some d,.call ⟨.value cal,az,ts⟩,ty,pos,aft,g⟩) (hw:au ops l g=true)
  (hc:aO l cal=some (.func (.func gf) #[] #[])) (hx:cQ l az.toList=some vs) (hd:Nat.blt d n=true) (hcf:∀args w,(callFunc gf args).run P w=.ok (.enter gf args) w)
  (hcall:∀w Y',St w0 S w (pre++cg tw tl er bw s) Y'→Cn P gf vs w (fun v w'=>(v=y.v∧y.f=bT u)∨gx tn w w' v (bT u)))
  (hk:∀x s' Γ',x∈Γ'→Γ⊆Γ'→x.f=bT u→x.Z→fy tn Γ' σ s'→K x.v (pre++cg tw tl er bw s')):cX P w0 S n (pre++cg tw tl er bw s) ops i l d K:=by
 refine cX.call (fun w v w'=>(v=y.v∧y.f=bT u)∨gx tn w w' v (bT u)) ho hw hc hx hd hcf hcall (fun v w w' Y' hS he hO=>?_);rcases hO with ⟨rfl,hf⟩|⟨ho,hz⟩;exact ⟨_,hS.later he,hk y s Γ hy (fun _ h=>h) hf hyz hW⟩;obtain ⟨q,cap,sp,rfl,hq,ak,hS'⟩:=aj hS he ho;refine ⟨_,hS'.perm oh,?_⟩;rw [jU];refine hk _ _ _ (List.mem_cons_self ..) (fun _ h=>List.mem_cons_of_mem _ h) rfl (fun e=>?_) (hW.add hq iF);have:=hz e;cases q with
 |none=>rfl
 |some b=>cases this
theorem cX.qt {K:Value→Hl→Prop} {pre:Hl} (hW:fy tn Γ σ s) (ho:ops[i]?=some ⟨some d,.call ⟨.value cal,az,ts⟩,ty,pos,aft,g⟩) (hw:au ops l g=true)
  (hc:aO l cal=some (.func (.func gf) #[] #[])) (hx:cQ l az.toList=some vs) (hd:Nat.blt d n=true) (hcf:∀args w,(callFunc gf args).run P w=.ok (.enter gf args) w)
  (hcall:∀w Y',St w0 S w (pre++cg tw tl er bw s) Y'→Cn P gf vs w (fun v w'=>gx tn w w' v (bT u)))
  (hk:∀x s',x.f=bT u→x.Z→fy tn (x::Γ) σ s'→K x.v (pre++cg tw tl er bw s')):cX P w0 S n (pre++cg tw tl er bw s) ops i l d K:=by
 refine cX.call (fun w v w'=>gx tn w w' v (bT u)) ho hw hc hx hd hcf hcall (fun v w w' Y' hS he hO=>?_);obtain ⟨ho,hz⟩:=hO;obtain ⟨q,cap,sp,rfl,hq,ak,hS'⟩:=aj hS he ho;refine ⟨_,hS'.perm oh,?_⟩;rw [jU];refine hk _ _ rfl (fun e=>?_) (hW.add hq iF);have:=hz e;cases q with
 |none=>rfl
 |some b=>cases this
theorem cX.wL {K:Value→Hl→Prop} {pre:Hl} (hW:fy tn Γ σ s) (ho:ops[i]?=some ⟨some d,.call ⟨.value cal,az,ts⟩,ty,pos,aft,g⟩) (hw:au ops l g=true)
  (hc:aO l cal=some (.func (.func gf) #[] #[])) (hx:cQ l az.toList=some vs) (hd:Nat.blt d n=true) (hcf:∀args w,(callFunc gf args).run P w=.ok (.enter gf args) w)
  (hcall:∀w Y',St w0 S w (pre++cg tw tl er bw s) Y'→Cn P gf vs w (fun v w'=>ax tn w w' v (bT u)))
  (hk:∀x s',x.f=bT u→fy tn (x::Γ) σ s'→K x.v (pre++cg tw tl er bw s')):cX P w0 S n (pre++cg tw tl er bw s) ops i l d K:=by
 refine cX.call (fun w v w'=>ax tn w w' v (bT u)) ho hw hc hx hd hcf hcall (fun v w w' Y' hS he hO=>?_);obtain ⟨q,cap,sp,rfl,hq,ak,hS'⟩:=aj hS he hO;refine ⟨_,hS'.perm oh,?_⟩;rw [jU];exact hk _ _ rfl (hW.add hq iF)
theorem cX.eg {K:Value→Hl→Prop} {pre hR hR':Hl} {s0:Ws} {er0:Value} {res:Nat×Sg} (h0:gG w0 (cg tw tl er0 bw s0++hR)) (hW:fy tn Γ σ s) (hsub:hR'.Sublist (pre++hR)) (ho:ops[i]?=some ⟨some d,.call ⟨.value cal,az,ts⟩,ty,pos,aft,g⟩) (hw:au ops l g=true)
  (hc:aO l cal=some (.func (.func gf) #[] #[])) (hx:cQ l az.toList=some vs) (hd:Nat.blt d n=true) (hcf:∀args w,(callFunc gf args).run P w=.ok (.enter gf args) w)
  (hcall:∀w Y',St w0 (bZ (cg tw tl er0 bw s0)) w (pre++cg tw tl (ef σ.bad) bw s) Y'→sy P tn tw tl ef bw Γ σ gf vs w hR' res)
  (hk:∀s' Γ',fy tn Γ' res.2 s'→Γ⊆Γ'→K (.int .i64 (res.1:Int)) (pre++cg tw tl (ef res.2.bad) bw s')):cX P w0 (bZ (cg tw tl er0 bw s0)) n (pre++cg tw tl (ef σ.bad) bw s) ops i l d K:=by
 have hp:(pre++cg tw tl (ef σ.bad) bw s).Perm (cg tw tl (ef σ.bad) bw s++pre):=List.perm_append_comm;refine ⟨_,ho,rfl,rfl,rfl,hd,.inl ⟨hw,fun t w Ds Y' hF' hS=>.inr ⟨gf,vs.toArray,fun v w'=>∃h',(∃s' Γ',v=.int .i64 (res.1:Int)∧h'=cg tw tl (ef res.2.bad) bw s'∧fy tn Γ' res.2 s'∧Γ⊆Γ')∧St w (bZ (cg tw tl (ef σ.bad) bw s)) w' h' [],?_,?_,fun v w' ⟨h',h1,h2⟩=>?_⟩⟩⟩;have e1:=gJ (P:=P) (ty:=ty) (ts:=ts) (Ds:=Ds) (w:=w) (first:=#[]) (captured:=#[]) hF' hc hx;simp only [execOp,Sem.run_bind,e1,Result.andThen_ok,invoke,hcf];simp;have:=hcall w Y' hS s hW ((h0.stay hS).sub (List.Sublist.append (List.Sublist.refl _) hsub));exact Calls.mono this (fun e w' ⟨v,h',e1,e2,e3⟩=>⟨v,e1,h',e2,e3⟩);obtain ⟨s',Γ',rfl,rfl,hW',hs'⟩:=h1;exact ⟨_,((hS.perm hp).frame h2).perm List.perm_append_comm,hk s' Γ' hW' hs'⟩
end
theorem xF {w:World} {a:Option Addr} {xs:List Value} (h:Sl w a xs) (n:Nat):Sl w a (xs.take n):=by
 refine ⟨fun hp=>h.isSome (by rw [List.length_take] at hp;omega),fun j hj=>?_⟩;rw [List.length_take] at hj;rw [h.cell j (by omega)];simp [List.getD_eq_getElem?_getD,show j<n by omega]
section
variable {l:Int} {b:List NV} {L:List SD}
theorem B6 (hb:aQ b) {s:aC} {a:Int} {n:Nat} (hn:(l9 l b s a).getLsbD n=true) (he:eY b s a n=n):(nd b n).op=9∨(nd b n).op=10:=by
 obtain ⟨z,_,h⟩:=rP hb hn he;obtain ⟨i,h1,_⟩:=(lg hb).1 hn;have hnb:n<b.length:=by
  rcases h with ⟨h,_⟩|⟨h,_⟩
  all_goals
   refine Classical.byContradiction fun e=>?_;have:aa b n=aa b n:=rfl;obtain ⟨i,h1,h2,h3,h4⟩:=(lg hb).1 hn;rcases h4 with ⟨h4,h5⟩|⟨h4,_⟩;have:=hb.x h1 (by omega);omega;omega
 rcases hb.node hnb with ⟨g1,g2⟩|⟨g1,g2⟩|⟨g1,g2⟩;rcases h with ⟨h,_⟩|⟨h,_⟩<;>rw [g2] at h<;>cases h
 rcases h with ⟨h,_⟩|⟨h,_⟩<;>rw [g2] at h<;>injection h with h1<;>omega
 rcases h with ⟨h,_⟩|⟨h,_⟩<;>rw [g2] at h<;>cases h
theorem iS.JQ (h:iS l b L) {p:SP} {q:Nat} (e1:p.l=l) (e2:p.b=b) (e3:cK p.tl=dN b L) (hq:q<p.tl.length) (e4:p.x=p.tl[q]) (e5:p.full=(di L L.length).getD q 0#64) (e6:p.last.length=q):p.Ok q:=by
 have hb:=h.base;have ht:=h.tr;have htl:p.tl.length=(dN b L).length:=by rw [←e3,dL]
 have hqt:q<(dN b L).length:=by omega
 have hxd:p.x.d=(dN b L)[q]:=by
  rw [e4];have:(cK p.tl)[q]'(by rw [dL];exact hq)=p.tl[q].d:=lP hq;rw [←this];simp only [e3]
 obtain ⟨k,hk,hn,hkq,htq⟩:=wk hqt;have hfull:p.full=L[k].set:=by rw [e5,List.getD_eq_getElem?_getD,←hkq,uu hn (Nat.le_refl _) hk hk];rfl
 have hcor:=ht.mc q hqt;rw [←hxd] at hcor htq;have hru:p.x.d.al=L[k].al:=by rw [htq];rfl
 have hon:p.x.d.on=L[k].on:=by rw [htq];rfl
 have hfr:p.x.d.fr=L[k].fr.map (fun j=>((br (dn L) j.toNat:Nat):Int)):=by rw [htq];rfl
 have hS0:∀j:Nat,L[k].fr=[(j:Int)]→p.S0=nW b L j:=fun j hj=>by
  have hm:(j:Int)∈L[k].fr:=by rw [hj];simp
  unfold SP.S0;rw [hfr,hj,e3];exact tT (by have:=(h.pre hk hn hm).2.1;omega) (h.pre hk hn hm).1
 have l4:=h.Ie hk;have hag9:∀{o:Nat},o<b.length→(nd b o).op=10→0≤(nd b o).i∧(nd b o).i<4:=fun {o} ho h2=>by
  have hok:=hb.ok ho;rcases hb.node ho with ⟨g1,g2⟩|⟨g1,g2⟩|⟨g1,g2⟩;omega;rw [g2] at hok;exact (oq hok (by omega)).1;omega
 refine ⟨e2 ▸ hb,?_,?_,hq,e6,fun j hj=>?_,fun j hj=>?_,fun h67 n hno hsn=>?_,fun h67=>?_⟩;rw [hfull,e2];exact (h.mc k hk).1;rw [e1,e2,e3];exact hcor;rw [e3,e2,eZ (by omega)];exact (ht.mc j (by omega)).1;obtain ⟨n,h1,_⟩:=ht.BG j (by omega);have h2:=ht.sub j (by omega) n h1;rw [e3,eZ (by omega)];exact fun e=>by have:=dz.2 h2;rw [e] at this;cases this
 rw [e2] at hsn⊢;have hns:=SP.xN hno;cases l4 with
 |Fe o g1=>omega
 |neg o e g1=>omega
 |and o j g1=>omega
 |or o j i g1=>omega
 |cut o e j i g1=>omega
 |t o j g1=>omega
 |k o j g1 g2 g3 g4 g5 g6 g7 g8 g9 g10=>
  have hag:p.ag=(nd b o).i:=by unfold SP.ag;rw [if_neg (by omega),e2,hon,g5]
  rw [hS0 j g3] at hns;have hnx:(n:Int)≠(nd b o).x:=fun e=>by
   have hx:=hb.x g6 (by omega);unfold SP.own at hno;rw [if_pos (by omega),dz,ic,e2,hon,g5,pB (by have:=hb.len;omega)] at hno;exact hno.2 e
  have:=g9 n (by
   have hm:(j:Int)∈L[k].fr:=by rw [g3];simp
   have:=(h.pre hk hn hm).2.1;rw [eZ (by omega)];exact h.sub j (by omega) n (dz.1 hns));rw [hag,hfull] at hsn;exact B6 hb (this.resolve_right hnx) hsn
 |d j g1 g2 g3 g4 g5 g6 g7 g8=>
  have hag:p.ag=L[k].on:=by unfold SP.ag;rw [if_pos (by omega),hon]
  rw [hS0 j g4] at hns;rw [hag,hfull] at hsn;exact B6 hb (g7 n (by
   have hm:(j:Int)∈L[k].fr:=by rw [g4];simp
   have:=(h.pre hk hn hm).2.1;rw [eZ (by omega)];exact h.sub j (by omega) n (dz.1 hns))) hsn
 cases l4 with
 |Fe o g1=>omega
 |neg o e g1=>omega
 |and o j g1=>omega
 |or o j i g1=>omega
 |cut o e j i g1=>omega
 |t o j g1=>omega
 |k o j g1 g2 g3 g4 g5 g6 g7 g8 g9 g10=>
  unfold SP.ag;rw [if_neg (by omega),e2,hon,g5];exact hag9 g6 g8
 |d j g1 g2 g3 g4 g5 g6 g7 g8=>
  unfold SP.ag;rw [if_pos (by omega),hon];exact g6
theorem vg {T:Tr→Prop} {tl:List SD} {fl:List aC} {q:Nat}:∀{r:Nat},q≤r→r≤tl.length→(aW T b tl fl q).2.Le (aW T b tl fl r).2
 |0,h,_=>by rw [show q=0 by omega];exact Sg.Le.refl _
 |r+1,h,h2=>by
  by_cases e:q=r+1;rw [e];exact Sg.Le.refl _;refine (vg (r:=r) (by omega) (by omega)).trans ?_;rw [fe (by omega)];exact uX
theorem Dv {T:Tr→Prop}:(aW T b (dN b L) (di L L.length) (dN b L).length).2.Le (iy T b L).2:=by
 unfold iy;dsimp only;split;exact Sg.Le.refl _;exact dA
open Classical in
noncomputable def F0 (l:Int) (b:List NV) (L:List SD):Int:=if lD l b L≠0 then lD l b L else if (iy ae b L).2.bad=true then 8 else 0
noncomputable def Jz (b:List NV) (L:List SD):List LD:=(iy ae b L).2.ls.map (fun x=>x.v.d)
end
section
variable {P:Program} {tn tw tl:TypeId} {ef:Bool→Value} {bw:Nat} {Γ:List FV} {σ:Sg} {s:Ws}
variable {r:Option Nat} {f:FuncId} {R:Value→World→Prop} {w0:World} {S:List Nat} {Y:List (Nat×Obj)} {n:Nat} {k:List Item} {l:Fl} {ops:Array Oper} {i d:Nat} {rest:List Nat} {ty:TypeId} {pos:String} {aft:Array Edge} {g:Option (Nat×Bool)}
variable {az:Array Operand} {ts:Array TypeId} {cal:Operand} {gf:FuncId} {vs:List Value}
theorem E1 {pre H:Hl} {er:Value}:(pre++(cg tw tl er bw s++H)).Perm ((pre++H)++cg tw tl er bw s):=by
 rw [List.append_assoc];exact List.Perm.append_left pre List.perm_append_comm
theorem ab.G8 {pre H hR':Hl} {res:Nat×Sg} (hW:fy tn Γ σ s) (hsub:hR'.Sublist (pre++H)) (ho:ops[i]?=some ⟨some d,.call ⟨.value cal,az,ts⟩,ty,pos,aft,g⟩) (hw:au ops l g=true)
  (hc:aO l cal=some (.func (.func gf) #[] #[])) (hx:cQ l az.toList=some vs) (hd:Nat.blt d n=true) (hcf:∀args w,(callFunc gf args).run P w=.ok (.enter gf args) w)
  (hcall:∀w Y',St w0 S w ((pre++H)++cg tw tl (ef σ.bad) bw s) Y'→sy P tn tw tl ef bw Γ σ gf vs w hR' res)
  (hk:∀s' Γ',fy tn Γ' res.2 s'→Γ⊆Γ'→ab P r f R w0 S Y n (.inRegion ops rest::k) ((d,.int .i64 (res.1:Int))::l) (pre++(cg tw tl (ef res.2.bad) bw s'++H))):
  ab P r f R w0 S Y n (.inRegion ops (i::rest)::k) l (pre++(cg tw tl (ef σ.bad) bw s++H)):=by
 refine ab.gZ E1 ?_;refine ab.rS hW hsub ho hw hc hx hd hcf hcall (fun s' Γ' hW' hg'=>?_);exact ab.gZ E1.symm (hk s' Γ' hW' hg')
theorem ab.J4 {h h':Hl} (hm:∀w Y',St w0 S w h Y'→St w0 S w h' Y') (hg:ab P r f R w0 S Y n k l h'):ab P r f R w0 S Y n k l h:=fun t w Ds hF hS=>hg t w Ds hF (hm w _ hS)
theorem cX.rS {K:Value→Hl→Prop} {pre hR':Hl} {res:Nat×Sg} (hW:fy tn Γ σ s) (hsub:hR'.Sublist pre) (ho:ops[i]?=some ⟨some d,.call ⟨.value cal,az,ts⟩,ty,pos,aft,g⟩) (hw:au ops l g=true)
  (hc:aO l cal=some (.func (.func gf) #[] #[])) (hx:cQ l az.toList=some vs) (hd:Nat.blt d n=true) (hcf:∀args w,(callFunc gf args).run P w=.ok (.enter gf args) w)
  (hcall:∀w Y',St w0 S w (pre++cg tw tl (ef σ.bad) bw s) Y'→sy P tn tw tl ef bw Γ σ gf vs w hR' res)
  (hk:∀s' Γ',fy tn Γ' res.2 s'→Γ⊆Γ'→K (.int .i64 (res.1:Int)) (pre++cg tw tl (ef res.2.bad) bw s')):cX P w0 S n (pre++cg tw tl (ef σ.bad) bw s) ops i l d K:=by
 have hp:(pre++cg tw tl (ef σ.bad) bw s).Perm (cg tw tl (ef σ.bad) bw s++pre):=List.perm_append_comm;refine ⟨_,ho,rfl,rfl,rfl,hd,.inl ⟨hw,fun t w Ds Y' hF' hS=>.inr ⟨gf,vs.toArray,fun v w'=>∃h',(∃s' Γ',v=.int .i64 (res.1:Int)∧h'=cg tw tl (ef res.2.bad) bw s'∧fy tn Γ' res.2 s'∧Γ⊆Γ')∧St w (bZ (cg tw tl (ef σ.bad) bw s)) w' h' [],?_,?_,fun v w' ⟨h',h1,h2⟩=>?_⟩⟩⟩;have e1:=gJ (P:=P) (ty:=ty) (ts:=ts) (Ds:=Ds) (w:=w) (first:=#[]) (captured:=#[]) hF' hc hx;simp only [execOp,Sem.run_bind,e1,Result.andThen_ok,invoke,hcf];simp;have:=hcall w Y' hS s hW ((hS.perm hp).has.sub (List.Sublist.append (List.Sublist.refl _) hsub));exact Calls.mono this (fun e w' ⟨v,h',e1,e2,e3⟩=>⟨v,e1,h',e2,e3⟩);obtain ⟨s',Γ',rfl,rfl,hW',hs'⟩:=h1;exact ⟨_,((hS.perm hp).frame h2).perm List.perm_append_comm,hk s' Γ' hW' hs'⟩
end
theorem vN:∀(xs:List Tr),∃l:List Tr,l.Nodup∧(∀u,u∈l↔u∈xs)∧l.length≤xs.length
 |[]=>⟨[],List.nodup_nil,fun _=>Iff.rfl,Nat.le_refl _⟩
 |x::xs=>by
  obtain ⟨l,h1,h2,h3⟩:=vN xs;by_cases h:x∈l;exact ⟨l,h1,fun u=>by rw [h2,List.mem_cons];exact ⟨.inr,fun e=>e.elim (fun e=>by rw [e];exact (h2 x).1 h) id⟩,by simp;omega⟩;exact ⟨x::l,List.nodup_cons.2 ⟨h,h1⟩,fun u=>by rw [List.mem_cons,List.mem_cons,h2],by simp;omega⟩
theorem G2 {t:Tr} (h:(lX t).length≤10):ae t:=by
 obtain ⟨l,h1,h2,h3⟩:=vN (lX t);exact ⟨l,h1,h2,by omega⟩
def JA (t:Tr) (r:Int) (ls:List TL):Bool:=decide ((cm t).length≤200) && (decide (ls.length<400) && (decide (r≠1)||decide ((lX t).length≤10)))
theorem j6 {t:Tr} {r:Int} {a b:Nat} {g:Int} {ls:List TL} (h:JA t r ls=true):cy ae t r a b g ⟨ls,false⟩=(ls.length,⟨ls++[⟨t,r,a,b,g⟩],false⟩):=by
 unfold JA at h;simp only [Bool.and_eq_true,Bool.or_eq_true,decide_eq_true_eq] at h;obtain ⟨h1,h2,h3⟩:=h;rw [cy,if_neg];rintro (e|e|e|⟨e1,e2⟩);cases e;exact e h1;dsimp only at e;omega;rcases h3 with h3|h3;exact h3 e1;exact e2 (G2 h3)
theorem uc {t:Tr} (h:decide ((cm (aG t)).length≤200)=true):eP t=(ay t).2:=by
 unfold eP;split;rfl;rename_i h2;exact absurd (of_decide_eq_true h:(cm (aG t)).length≤200) h2
theorem DA:eP pT=aG pT:=by rw [uc (by decide+kernel)];decide+kernel
theorem E3:eP (aG pT)=pT:=by rw [uc (by decide+kernel)];decide+kernel
theorem JX:eP (aw 0 pT)=gL 0 (aG pT):=by rw [uc (by decide+kernel)];decide+kernel
theorem mY {g u:Tr} {fr:List Nat} {ls:List TL} (hu:u=cI (fr.map (gA ⟨ls,false⟩)) g) (h:JA u 1 ls=true):aZ ae g fr ⟨ls,false⟩=mn ae g (fr.map (fun n=>(n,gA ⟨ls,false⟩ n))) ls.length ⟨ls++[⟨u,1,0,0,0⟩],false⟩:=by
 rw [aZ,if_neg (by simp),←hu,j6 h]
theorem mU {g u t:Tr} {n m:Nat} {ps:List (Nat×Tr)} {ls:List TL} (hu:u=cI (ps.map (·.2)) g) (h:JA u 10 ls=true):mn ae g ((m,t)::ps) n ⟨ls,false⟩=mn ae g ps ls.length ⟨ls++[⟨u,10,m,n,0⟩],false⟩:=by
 rw [mn,←hu,j6 h]
abbrev Gh:Tr:=aG (aG pT)
abbrev G7 (ei:Bool):Tr:=if ei=true then .bin 6 0 0 0 pT (aG pT) else aG (j8 pT (aG pT))
abbrev Es (ei:Bool):Tr:=if ei=true then .bin 6 0 0 0 (aw 0 pT) (gL 0 (aG pT)) else aG (j8 (aw 0 pT) (gL 0 (aG pT)))
abbrev kP (ei:Bool):Tr:=if ei=true then Gh else pT
abbrev kQ (ei:Bool):Tr:=if ei=true then pT else Gh
abbrev J5 (ei:Bool):List TL:=[⟨G7 ei,1,0,0,0⟩]
abbrev Bd (ei:Bool):List TL:=[⟨G7 ei,1,0,0,0⟩,⟨aR (G7 ei) (aR (kP ei) (kQ ei)),1,0,0,0⟩,⟨aR (kP ei) (kQ ei),10,0,1,0⟩]
abbrev Gs (ei:Bool):List TL:=Bd ei++[⟨aw 0 (aR (kP ei) (kQ ei)),11,2,0,0⟩,⟨aR (aw 0 (aR (kP ei) (kQ ei))) (aR (aw 0 (kP ei)) (aw 0 (kQ ei))),2,0,0,0⟩,⟨aR (aw 0 (kP ei)) (aw 0 (kQ ei)),10,3,4,0⟩,⟨oU (gL 0 (aG pT)) (aG (aw 0 Gh)),7,0,0,0⟩]
abbrev JC (ei:Bool):List TL:=Gs ei++[⟨aR (aR (aw 0 (kP ei)) (aw 0 (kQ ei))) (aR (oU (gL 0 (aG pT)) (aG (aw 0 Gh))) (Es ei)),1,0,0,0⟩,⟨aR (oU (gL 0 (aG pT)) (aG (aw 0 Gh))) (Es ei),10,5,7,0⟩,⟨Es ei,10,6,8,0⟩]
theorem Kk {ei:Bool}:m4 ei pT=G7 ei:=by unfold m4 G7;rw [DA]
theorem Kl {ei:Bool}:m4 ei (aw 0 pT)=Es ei:=by unfold m4 Es;rw [JX]
theorem Gw {ei:Bool}:aK ae ei pT ⟨[],false⟩=(0,⟨J5 ei,false⟩):=by
 show aK ae ei (.leaf 3 0 0 0) _=_;rw [aK,show (Tr.leaf 3 0 0 0)=pT from rfl,Kk,mY (u:=G7 ei) rfl (by cases ei<;>decide+kernel)];rfl
theorem Gx {ei:Bool}:aK ae ei (aw 0 pT) ⟨[],false⟩=(9,⟨JC ei,false⟩):=by
 show aK ae ei (.un 9 0 0 0 pT) _=_;rw [aK,if_pos (.inl rfl),Gw,show (Tr.un 9 0 0 0 pT)=aw 0 pT from rfl];have hp:pV ei 9 pT=kP ei:=by unfold pV kP vT uT;rw [if_pos rfl,if_pos rfl,DA]
 have hq:pU ei 9 pT=kQ ei:=by unfold pU kQ vT uT;rw [if_pos rfl,if_pos rfl,DA]
 have hv:vT 9 pT=aG pT:=by unfold vT;rw [if_pos rfl,DA]
 have h1:aZ ae (aR (kP ei) (kQ ei)) [0] ⟨J5 ei,false⟩=(2,⟨Bd ei,false⟩):=by
  rw [mY (u:=aR (G7 ei) (aR (kP ei) (kQ ei))) rfl (by cases ei<;>decide+kernel)];rw [List.map_cons,List.map_nil,mU (u:=aR (kP ei) (kQ ei)) rfl (by cases ei<;>decide+kernel)];rfl
 have h2:iC ae 0 (kP ei) (kQ ei) 2 ⟨Bd ei,false⟩=(5,⟨Bd ei++[⟨aw 0 (aR (kP ei) (kQ ei)),11,2,0,0⟩,⟨aR (aw 0 (aR (kP ei) (kQ ei))) (aR (aw 0 (kP ei)) (aw 0 (kQ ei))),2,0,0,0⟩,⟨aR (aw 0 (kP ei)) (aw 0 (kQ ei)),10,3,4,0⟩],false⟩):=by
  rw [iC,j6 (by cases ei<;>decide+kernel)];dsimp only;rw [kW,j6 (by cases ei<;>decide+kernel)];dsimp only;rw [j6 (by cases ei<;>decide+kernel)];rfl
 have h3:ey ae 0 (aG pT) ⟨Bd ei++[⟨aw 0 (aR (kP ei) (kQ ei)),11,2,0,0⟩,⟨aR (aw 0 (aR (kP ei) (kQ ei))) (aR (aw 0 (kP ei)) (aw 0 (kQ ei))),2,0,0,0⟩,⟨aR (aw 0 (kP ei)) (aw 0 (kQ ei)),10,3,4,0⟩],false⟩=(6,⟨Gs ei,false⟩):=by
  rw [ey,j6 (by cases ei<;>decide+kernel)];rfl
 have h4:aZ ae (Es ei) [5,6] ⟨Gs ei,false⟩=(9,⟨JC ei,false⟩):=by
  rw [mY (u:=aR (aR (aw 0 (kP ei)) (aw 0 (kQ ei))) (aR (oU (gL 0 (aG pT)) (aG (aw 0 Gh))) (Es ei))) rfl (by cases ei<;>decide+kernel)];rw [List.map_cons,List.map_cons,List.map_nil,mU (u:=aR (oU (gL 0 (aG pT)) (aG (aw 0 Gh))) (Es ei)) rfl (by cases ei<;>decide+kernel),mU (u:=Es ei) rfl (by cases ei<;>decide+kernel)];rfl
 rw [rk,hp,hq,hv,h1];dsimp only;rw [h2];dsimp only;rw [h3];dsimp only;rw [Kl,h4]
def iD:List NV:=[⟨3,0,0,0,0,0⟩,⟨4,0,0,0,0,0⟩,⟨9,0,0,0,0,0⟩]
def CZ:SD:=⟨7#64,1,1,0,[]⟩
def CY:SD:=⟨6#64,5,2,0,[0]⟩
def dR:List SD:=[CZ,CY]
theorem FG:aQ iD:=⟨by decide+kernel,by decide,by decide+kernel⟩
theorem H7:aa iD 0=pT:=by decide+kernel
theorem H6:aa iD 1=aG pT:=by decide+kernel
theorem JN:aa iD 2=aw 0 pT:=by decide+kernel
theorem FE:jq iD 1=0:=pg (i:=1) (j:=0) (by decide) (by rw [H7,show tA iD 1=aa iD 1 from rfl,H6,E3]) (fun k hk=>absurd hk (Nat.not_lt_zero _))
theorem CX:dJ 2 iD dR 0 CZ:=by
 refine ⟨fun k hk=>?_,.inl ⟨rfl,rfl,.inr ⟨by decide+kernel,by decide,by decide+kernel,FE⟩⟩⟩;have:∀k:Fin 64,(7#64).getLsbD k.val=true→k.val<3:=by decide+kernel
 exact this ⟨k,BitVec.lt_of_getLsbD hk⟩ hk
theorem CW:dJ 2 iD dR 1 CY:=by
 refine ⟨fun k hk=>?_,.inr (.inr (.inr (.inr (.inl ⟨rfl,rfl,.inl rfl,⟨by decide,by decide+kernel,by decide+kernel⟩,?_⟩))))⟩;have:∀k:Fin 64,(6#64).getLsbD k.val=true→k.val<3:=by decide+kernel
 exact this ⟨k,BitVec.lt_of_getLsbD hk⟩ hk;exact ⟨⟨⟨by decide,by decide⟩,by decide+kernel⟩,trivial⟩
theorem xu:iS 2 iD dR:=by
 refine ⟨by decide,FG,by decide,by decide,fun k hk=>?_⟩
 match k,hk with
 |0,_=>exact CX
 |1,_=>exact CW
theorem CU:nW iD dR 0=3#64:=by decide+kernel
theorem CT:nW iD dR 1=6#64:=by decide+kernel
theorem EV:dn dR 1=true:=ib.2 (.last rfl)
theorem EW:dn dR 0=true:=ib.2 (.fr (k:=1) (by decide) (.last rfl) (by decide+kernel))
theorem qK:dN iD dR=[⟨3#64,1,1,0,[]⟩,⟨6#64,5,2,0,[0]⟩]:=by
 have h0:nC iD dR 1=[⟨3#64,1,1,0,[]⟩]:=by
  rw [jJ (k:=0) (by decide),if_pos EW];show []++[gI iD dR 0 CZ]=_;rw [gI,CU,if_neg (by decide+kernel)];rfl
 have hc:br (dn dR) 0=0:=rfl;rw [dN];show nC iD dR 2=_;rw [jJ (k:=1) (by decide),if_pos EV,h0];show _++[gI iD dR 1 CY]=_;rw [gI,CT,if_neg (by decide+kernel)];show [_]++[SD.mk 6#64 5 2 0 [((br (dn dR) 0:Nat):Int)]]=_;rw [hc];rfl
theorem Ad:di dR dR.length=[7#64,6#64]:=by
 show di dR 2=_;have h0:di dR 1=[7#64]:=by
  show (match dR[0]? with|some x=>if dn dR 0=true then di dR 0++[x.set] else di dR 0|none=>di dR 0)=_;show (if dn dR 0=true then _ else _)=_;rw [if_pos EW];rfl
 show (if dn dR 1=true then di dR 1++[6#64] else di dR 1)=_;rw [if_pos EV,h0];rfl
abbrev D7:Tr:=aG (j8 pT (aG pT))
abbrev GY:Tr:=aG (j8 (aG pT) (aw 0 pT))
abbrev HT:Tr:=aG (j8 (aG pT) pT)
abbrev wR:List TL:=[⟨HT,1,0,0,0⟩,⟨aR HT D7,1,0,0,0⟩,⟨D7,10,0,1,0⟩]
abbrev HN:List TL:=wR++[⟨aR (aw 0 pT) pT,3,0,0,0⟩,⟨aR (aR (aw 0 pT) pT) (aR D7 GY),1,0,0,0⟩,⟨aR D7 GY,10,3,4,0⟩,⟨GY,10,2,5,0⟩]
theorem IC:dP iD 3#64=D7:=by decide+kernel
theorem IB:dP iD 6#64=GY:=by decide+kernel
theorem J6:aK ae false (aG pT) ⟨[],false⟩=(0,⟨[⟨HT,1,0,0,0⟩],false⟩):=by
 have hc:m4 false (aG pT)=HT:=by unfold m4;rw [if_neg (by decide),E3]
 show aK ae false (.un 4 0 0 0 pT) _=_;rw [aK,if_neg (by decide),show (Tr.un 4 0 0 0 pT)=aG pT from rfl,hc,mY (u:=HT) rfl (by decide+kernel)];rfl
theorem JP:bR ae iD (dN iD dR) 7#64 ⟨3#64,1,1,0,[]⟩ [] ⟨[],false⟩=(2,⟨wR,false⟩):=by
 unfold bR;dsimp only;rw [if_pos rfl,if_neg (by decide+kernel),IC,show tA iD 1=aa iD 1 from rfl,H6,J6];dsimp only;rw [mY (u:=aR HT D7) rfl (by decide+kernel),List.map_cons,List.map_nil,mU (u:=D7) rfl (by decide+kernel)];rfl
theorem JO:bR ae iD (dN iD dR) 6#64 ⟨6#64,5,2,0,[0]⟩ [2] ⟨wR,false⟩=(6,⟨HN,false⟩):=by
 unfold bR;dsimp only;rw [if_neg (by decide),if_neg (by decide),if_neg (by decide),if_neg (by decide),if_pos rfl,IB,show tA iD 2=aa iD 2 from rfl,JN,show tA iD (nd iD 2).x=aa iD 0 from rfl,H7,j6 (by decide+kernel)];dsimp only;rw [show ([2]:List Nat).getD (([0]:List Int).getD 0 0).toNat 0=2 from rfl,show wR.length=3 from rfl];rw [mY (u:=aR (aR (aw 0 pT) pT) (aR D7 GY)) rfl (by decide+kernel),List.map_cons,List.map_cons,List.map_nil,mU (u:=aR D7 GY) rfl (by decide+kernel),mU (u:=GY) rfl (by decide+kernel)];rfl
theorem FX:iy ae iD dR=(6,⟨HN,false⟩):=by
 have hl:(dN iD dR).length=2:=by rw [qK];rfl
 have h1:aW ae iD (dN iD dR) (di dR dR.length) 1=([2],⟨wR,false⟩):=by
  rw [fe (q:=0) (by omega),Ad];have e:(dN iD dR)[0]'(by omega)=⟨3#64,1,1,0,[]⟩:=by simp only [qK];rfl
  rw [e];show ([]++[(bR ae iD (dN iD dR) 7#64 ⟨3#64,1,1,0,[]⟩ [] ⟨[],false⟩).1],(bR ae iD (dN iD dR) 7#64 ⟨3#64,1,1,0,[]⟩ [] ⟨[],false⟩).2)=_;rw [JP];rfl
 have h2:aW ae iD (dN iD dR) (di dR dR.length) 2=([2,6],⟨HN,false⟩):=by
  rw [fe (q:=1) (by omega),h1,Ad];have e:(dN iD dR)[1]'(by omega)=⟨6#64,5,2,0,[0]⟩:=by simp only [qK];rfl
  rw [e];show ([2]++[(bR ae iD (dN iD dR) 6#64 ⟨6#64,5,2,0,[0]⟩ [2] ⟨wR,false⟩).1],(bR ae iD (dN iD dR) 6#64 ⟨6#64,5,2,0,[0]⟩ [2] ⟨wR,false⟩).2)=_;rw [JO];rfl
 unfold iy;dsimp only;rw [hl,h2,if_pos (by rw [qK];decide+kernel)];rfl
theorem ry {l:Int} {σ:Sg} (hg:Good l σ) (hl:0≤l∧l≤6) (h0:0<σ.ls.length) {ls:List LV} (hd:ls.map LV.d=σ.ls.map (fun x=>x.v.d)):ik l ls=0:=by
 have h1:ik l (σ.ls.map TL.v)=0:=mF.2 ⟨hl,by rw [List.length_map];exact h0,by rw [List.length_map];exact hg.len,hg.ok⟩;exact xd (by rw [hd,List.map_map];rfl) h1
theorem yt {ls:List LV} {ts:List TL} (hd:ls.map LV.d=ts.map (fun x=>x.v.d)) {k:Nat} (hk:k<ls.length) (hk2:k<ts.length):ls[k].f.f=bT ts[k].t:=by
 have h1:ls[k].d=ts[k].v.d:=by
  have:=congrArg (fun l=>l[k]?) hd;simpa [hk,hk2] using this
 exact congrArg LD.f h1
theorem J0:pF pT:=by show (3:Int)≤3;decide
theorem J1:pF (aw 0 pT):=.inr ⟨.inl rfl,J0⟩
theorem pX:(aw 0 pT).ok:=bE (by decide) ez
theorem Gt {ei:Bool}:sZ ei (bT pT)=0∧Gu ei (bT pT)=(J5 ei).map (fun x=>x.v.d):=by
 have h1:aN (bT pT)=0:=by decide+kernel
 have h2:bu (bT pT)=pT:=by decide+kernel
 have h3:∀n∈ah (bT pT),dw (ah (bT pT)) n:=by decide+kernel
 refine ⟨?_,?_⟩;rw [sZ,if_neg (by simp [h1]),if_neg (fun h=>h h3),h2,Gw,if_neg (by simp)];rw [Gu,h2,Gw]
theorem zj {ei:Bool}:sZ ei (bT (aw 0 pT))=0∧Gu ei (bT (aw 0 pT))=(JC ei).map (fun x=>x.v.d):=by
 have h1:aN (bT (aw 0 pT))=0:=by decide+kernel
 have h2:bu (bT (aw 0 pT))=aw 0 pT:=by decide+kernel
 have h3:∀n∈ah (bT (aw 0 pT)),dw (ah (bT (aw 0 pT))) n:=by decide+kernel
 refine ⟨?_,?_⟩;rw [sZ,if_neg (by simp [h1]),if_neg (fun h=>h h3),h2,Gx,if_neg (by simp)];rw [Gu,h2,Gx]
theorem IM:sZ false (bT (aR pT pT))=10:=by
 have h1:aN (bT (aR pT pT))=0:=by decide+kernel
 have h3:¬∀n∈ah (bT (aR pT pT)),dw (ah (bT (aR pT pT))) n:=by decide+kernel
 rw [sZ,if_neg (by simp [h1]),if_pos h3]
theorem FZ:F0 2 iD dR=0∧Jz iD dR=HN.map (fun x=>x.v.d):=by
 have h1:lD 2 iD dR=0:=kK.2 xu;refine ⟨?_,?_⟩;rw [F0,if_neg (by simp [h1]),FX,if_neg (by simp)];rw [Jz,FX]
theorem Ja {ls:List LV} (hd:ls.map LV.d=(JC false).map (fun x=>x.v.d)):ik 0 ls=0:=by
 have h:=(mW (l:=0) (ei:=false) J1 pX vH).dV;rw [Gx] at h;exact ry h (by decide) (by decide) hd
theorem I9 {ls:List LV} (hd:ls.map LV.d=HN.map (fun x=>x.v.d)):ik 2 ls=0:=by
 have h:=xu.K8.2.1;rw [FX] at h;exact ry h (by decide) (by decide) hd
theorem G3:aU ⟨3,0,0,0,0,0⟩ []=bT pT:=by decide+kernel
end Go.Proofs.Wit
