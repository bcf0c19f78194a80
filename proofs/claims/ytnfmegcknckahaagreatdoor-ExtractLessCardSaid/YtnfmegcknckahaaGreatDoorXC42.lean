/- Laws of walks, for any program, under the conditions that each theorem states. -/
import Derived.Test.YtnfmegcknckahaaGreatDoorXC40
import Derived.Test.YtnfmegcknckahaaGreatDoorXC27
import Derived.Test.YtnfmegcknckahaaGreatDoorXC13
import Derived.Test.YtnfmegcknckahaaGreatDoorXC25
namespace Go.Proofs.Wit
open Go Go.RowKit
/-! a writer of lines in memory -/
structure Ws where
  q:Option Nat
  cap:Nat
  ls:List LV
  sp:List Value
  H:Hl
def EV (tw tl:TypeId) (er:Value) (bw:Nat) (s:Ws):Hl:=[(some bw,.cells #[cR s.q s.ls.length s.cap,er] tw (0,0)),(s.q,xv tl s.ls s.sp)]
def cn (tw tl:TypeId) (er:Value) (bw:Nat) (s:Ws):Hl:=(some bw,.cells #[cR s.q s.ls.length s.cap,er] tw (0,0))::(s.q,xv tl s.ls s.sp)::s.H
theorem Ak {tw tl:TypeId} {er:Value} {bw:Nat} {s:Ws}:(EV tw tl er bw s).Sublist (cn tw tl er bw s):=.cons_cons _ (.cons_cons _ (List.nil_sublist _))
def Ws.sC (s:Ws) (p:Option Nat×Obj):Ws:={s with H:=p::s.H}
structure fw (tn:TypeId) (Γ:List FV) (σ:Sg) (s:Ws):Prop where
  nil:s.q=none→s.ls.length=0∧s.cap=0
  cap:(s.ls.flatMap LV.cells++s.sp).length=s.cap*5
  BJ:s.ls.map LV.d=σ.ls.map (fun x=>x.v.d)
  EN:s.ls.length≤400
  ctx:∀x∈Γ,x.sH tn s.H∧x.f.length≤maxLen
  D3:∀x∈s.ls,x.f∈Γ
  EJ:∀x∈σ.ls,x.t.ok
section
variable {tn tw tl:TypeId} {er:Value} {bw:Nat} {Γ:List FV} {σ:Sg} {s:Ws}
theorem fw.len (h:fw tn Γ σ s):s.ls.length=σ.ls.length:=by have:=congrArg List.length h.BJ;simpa using this
theorem fw.at (h:fw tn Γ σ s) {k:Nat} (hk:k<s.ls.length):s.ls[k].f.f=bT (fY σ k)∧(fY σ k).ok∧s.ls[k].f∈Γ:=by
 have hk2:k<σ.ls.length:=by rw [←h.len];exact hk
 have h1:s.ls[k].d=(σ.ls[k]).v.d:=by
  have:=congrArg (fun l=>l[k]?) h.BJ
  simpa [hk,hk2] using this
 have ht:fY σ k=(σ.ls[k]).t:=by simp [fY,List.getD_eq_getElem?_getD,hk2]
 refine ⟨?_,by rw [ht];exact h.EJ _ (List.getElem_mem hk2),h.D3 _ (List.getElem_mem hk)⟩
 rw [ht]
 exact congrArg LD.f h1
theorem fw.fa (h:fw tn Γ σ s) {x:FV} (hx:x∈Γ) {w0 w:World} {S:List Nat} {pre:Hl} {Y:List (Nat×Obj)} (hS:St w0 S w (pre++cn tw tl er bw s) Y):FA w x.a x.f:=
 ((h.ctx x hx).1.mono (fun _ hp=>List.mem_append_right _ (List.mem_cons_of_mem _ (List.mem_cons_of_mem _ hp)))).at hS
theorem fw.add (h:fw tn Γ σ s) {q:Option Nat} {f:List NV} {cap:Nat} {sp:List Value} (hq:q=none→f.length=0∧cap=0) (hl:f.length≤maxLen):fw tn (⟨q.map (fun b=>⟨b,0,none⟩),cap,f⟩::Γ) σ (s.sC (q,eX tn f sp)):=
 ⟨h.nil,h.cap,h.BJ,h.EN,fun x hx=>by
  rcases List.mem_cons.1 hx with rfl|hx
  ·exact ⟨⟨q,sp,List.mem_cons_self ..,rfl,fun e=>(hq e).1⟩,hl⟩
  exact ⟨(h.ctx x hx).1.mono (List.subset_cons_self _ _),(h.ctx x hx).2⟩,fun x hx=>List.mem_cons_of_mem _ (h.D3 x hx),h.EJ⟩
def FV.Z (x:FV):Prop:=x.f=[]→x.a=none
theorem fw.G0 (h:fw tn Γ σ s) {x:FV} (hx:x∈Γ) (hz:x.Z):x.a=none↔x.f=[]:=by
 refine ⟨fun e=>?_,hz⟩
 obtain ⟨q,sp,_,h2,h3⟩:=(h.ctx x hx).1
 cases q with
 |none=>exact List.eq_nil_of_length_eq_zero (h3 rfl)
 |some b=>rw [h2] at e;cases e
end
theorem iC.stay {w0 w1:World} {h0 hR pre h1:Hl} {Y:List (Nat×Obj)} (g:iC w0 (h0++hR)) (s:St w0 (cJ h0) w1 (pre++h1) Y):iC w1 (h1++(pre++hR)):=by
 have hap:=List.pairwise_append.1 g.apart
 have hkeep:∀p∈hR,∀b,p.1=some b→w1.heap[b]?=some p.2∧b<w0.heap.size∧b∉cJ h0:=fun p hp b hb=>by
  have h2:=(g.own p (List.mem_append_right _ hp) b hb).1
  have hlt:=(Array.getElem?_eq_some_iff.1 h2).1
  have hn:b∉cJ h0:=fun hm=>by
   obtain ⟨o,ho⟩:=gz.1 hm
   exact hap.2.2 _ ho p hp b rfl hb
  exact ⟨by rw [s.ext.block b hlt hn];exact h2,hlt,hn⟩
 have hs:=List.pairwise_append.1 s.apart
 have hcross:∀p∈pre++h1,∀q∈hR,mG p q:=fun p hp q hq b hb hqb=>by
  obtain ⟨_,hlt,hn⟩:=hkeep q hq b hqb
  rcases (s.own p hp b hb).2.2 with h|h
  ·omega
  exact hn h
 refine ⟨fun p hp b hb=>?_,?_⟩
 ·rcases List.mem_append.1 hp with hp|hp
  ·exact ⟨(s.own p (List.mem_append_right _ hp) b hb).1,(s.own p (List.mem_append_right _ hp) b hb).2.1⟩
  ·rcases List.mem_append.1 hp with hp|hp
   ·exact ⟨(s.own p (List.mem_append_left _ hp) b hb).1,(s.own p (List.mem_append_left _ hp) b hb).2.1⟩
   ·exact ⟨(hkeep p hp b hb).1,(g.own p (List.mem_append_right _ hp) b hb).2⟩
 refine List.pairwise_append.2 ⟨hs.2.1,List.pairwise_append.2 ⟨hs.1,hap.2.1,fun p hp q hq=>hcross p (List.mem_append_left _ hp) q hq⟩,fun p hp q hq=>?_⟩
 rcases List.mem_append.1 hq with hq|hq
 ·exact fun b hb hqb=>hs.2.2 q hq p hp b hqb hb
 exact hcross p (List.mem_append_right _ hp) q hq
def rB (P:Program) (tn tw tl:TypeId) (ef:Bool→Value) (bw:Nat) (Γ:List FV) (σ:Sg) (gf:FuncId) (args:List Value) (w:World) (hR:Hl) (r:Nat×Sg):Prop:=
 ∀s,fw tn Γ σ s→iC w (cn tw tl (ef σ.bad) bw s++hR)→qA P gf args w (cn tw tl (ef σ.bad) bw s) (fun v h'=>∃s' Γ',v=.int .i64 (r.1:Int)∧h'=cn tw tl (ef r.2.bad) bw s'∧fw tn Γ' r.2 s'∧Γ⊆Γ')
section
variable {P:Program} {tn tw tl:TypeId} {er:Value} {ef:Bool→Value} {bw:Nat} {Γ:List FV} {σ:Sg} {s:Ws}
variable {r:Option Nat} {f:FuncId} {R:Value→World→Prop} {w0:World} {S:List Nat} {Y:List (Nat×Obj)} {n:Nat} {k:List Item} {l:Fl} {ops:Array Oper} {i d:Nat} {rest:List Nat} {ty:TypeId} {pos:String} {aft:Array Edge} {g:Option (Nat×Bool)}
variable {az:Array Operand} {ts:Array TypeId} {cal:Operand} {gf:FuncId} {vs:List Value} {u:Tr}
theorem ji {q:Option Nat} {f:List NV} {cap:Nat}:cR q f.length cap=FV.v ⟨q.map (fun b=>⟨b,0,none⟩),cap,f⟩:=by cases q<;>rfl
theorem gV {t:Tr}:(bT t).length≤maxLen:=aD rfl
theorem mW {p:Option Nat×Obj} {pre:Hl}:(p::(pre++cn tw tl er bw s)).Perm (pre++cn tw tl er bw (s.sC p)):=by
 refine (List.perm_middle (l₁:=pre) (a:=p)).symm.trans (List.Perm.append_left pre ?_)
 unfold cn Ws.sC
 exact (List.Perm.swap _ _ _).trans (List.Perm.cons _ (List.Perm.swap _ _ _))
theorem ab.iF {pre:Hl} (hW:fw tn Γ σ s) (ho:ops[i]?=some ⟨some d,.call ⟨.value cal,az,ts⟩,ty,pos,aft,g⟩) (hw:au ops l g=true)
  (hc:aS l cal=some (.func (.func gf) #[] #[])) (hx:dk l az.toList=some vs) (hd:Nat.blt d n=true) (hcf:∀args w,(callFunc gf args).run P w=.ok (.enter gf args) w)
  (hcall:∀w Y',St w0 S w (pre++cn tw tl er bw s) Y'→Cn P gf vs w (fun v w'=>gh tn w w' v (bT u)))
  (hk:∀x s',x.f=bT u→x.Z→fw tn (x::Γ) σ s'→ab P r f R w0 S Y n (.inRegion ops rest::k) ((d,x.v)::l) (pre++cn tw tl er bw s')):
  ab P r f R w0 S Y n (.inRegion ops (i::rest)::k) l (pre++cn tw tl er bw s):=by
 refine ab.nu (fun w v w'=>gh tn w w' v (bT u)) ho hw hc hx hd hcf hcall (fun v w w' Y' hS he hO=>?_)
 obtain ⟨ho,hz⟩:=hO
 obtain ⟨q,cap,sp,rfl,hq,ao,hS'⟩:=ak hS he ho
 refine ⟨_,hS'.perm mW,?_⟩
 rw [ji]
 refine hk _ _ rfl (fun e=>?_) (hW.add hq gV)
 have:=hz e
 cases q with
 |none=>rfl
 |some b=>cases this
theorem ab.uC {pre:Hl} (hW:fw tn Γ σ s) (ho:ops[i]?=some ⟨some d,.call ⟨.value cal,az,ts⟩,ty,pos,aft,g⟩) (hw:au ops l g=true)
  (hc:aS l cal=some (.func (.func gf) #[] #[])) (hx:dk l az.toList=some vs) (hd:Nat.blt d n=true) (hcf:∀args w,(callFunc gf args).run P w=.ok (.enter gf args) w)
  (hcall:∀w Y',St w0 S w (pre++cn tw tl er bw s) Y'→Cn P gf vs w (fun v w'=>aI tn w w' v (bT u)))
  (hk:∀x s',x.f=bT u→fw tn (x::Γ) σ s'→ab P r f R w0 S Y n (.inRegion ops rest::k) ((d,x.v)::l) (pre++cn tw tl er bw s')):
  ab P r f R w0 S Y n (.inRegion ops (i::rest)::k) l (pre++cn tw tl er bw s):=by
 refine ab.nu (fun w v w'=>aI tn w w' v (bT u)) ho hw hc hx hd hcf hcall (fun v w w' Y' hS he hO=>?_)
 obtain ⟨q,cap,sp,rfl,hq,ao,hS'⟩:=ak hS he hO
 refine ⟨_,hS'.perm mW,?_⟩
 rw [ji]
 exact hk _ _ rfl (hW.add hq gV)
theorem ab.bB {pre hR hR':Hl} {s0:Ws} {er0:Value} {res:Nat×Sg} (h0:iC w0 (cn tw tl er0 bw s0++hR)) (hW:fw tn Γ σ s) (hsub:hR'.Sublist (pre++hR)) (ho:ops[i]?=some ⟨some d,.call ⟨.value cal,az,ts⟩,ty,pos,aft,g⟩) (hw:au ops l g=true)
  (hc:aS l cal=some (.func (.func gf) #[] #[])) (hx:dk l az.toList=some vs) (hd:Nat.blt d n=true) (hcf:∀args w,(callFunc gf args).run P w=.ok (.enter gf args) w)
  (hcall:∀w Y',St w0 (cJ (cn tw tl er0 bw s0)) w (pre++cn tw tl (ef σ.bad) bw s) Y'→rB P tn tw tl ef bw Γ σ gf vs w hR' res)
  (hk:∀s' Γ',fw tn Γ' res.2 s'→Γ⊆Γ'→ab P r f R w0 (cJ (cn tw tl er0 bw s0)) Y n (.inRegion ops rest::k) ((d,.int .i64 (res.1:Int))::l) (pre++cn tw tl (ef res.2.bad) bw s')):
  ab P r f R w0 (cJ (cn tw tl er0 bw s0)) Y n (.inRegion ops (i::rest)::k) l (pre++cn tw tl (ef σ.bad) bw s):=by
 refine ab.mV (h':=cn tw tl (ef σ.bad) bw s++pre) List.perm_append_comm ?_
 refine ab.iK (h:=cn tw tl (ef σ.bad) bw s) (hF:=pre) (fs:=[]) (cs:=[]) (fun _ v h'=>∃s' Γ',v=.int .i64 (res.1:Int)∧h'=cn tw tl (ef res.2.bad) bw s'∧fw tn Γ' res.2 s'∧Γ⊆Γ') ho hw hc hx hd hcf (fun w Y' hS=>?_) (fun w v h' hR2=>?_)
 ·rw [List.nil_append,List.append_nil]
  have hS2:=hS.perm (List.perm_append_comm (l₁:=cn tw tl (ef σ.bad) bw s) (l₂:=pre))
  exact hcall w _ hS2 s hW ((h0.stay hS2).sub (List.Sublist.append (List.Sublist.refl _) hsub))
 obtain ⟨s',Γ',rfl,rfl,hW',hs⟩:=hR2
 exact ab.mV List.perm_append_comm (hk s' Γ' hW' hs)
end
section
variable {P:Program} {tn tw tl:TypeId} {er:Value} {ef:Bool→Value} {bw:Nat} {Γ:List FV} {σ:Sg} {s:Ws}
variable {r:Option Nat} {f:FuncId} {R:Value→World→Prop} {w0:World} {S:List Nat} {Y:List (Nat×Obj)} {n:Nat} {k:List Item} {l:Fl} {ops:Array Oper} {i d:Nat} {ty:TypeId} {pos:String} {aft:Array Edge} {g:Option (Nat×Bool)}
variable {az:Array Operand} {ts:Array TypeId} {cal:Operand} {gf:FuncId} {vs:List Value} {u:Tr} {hb:Hl} {q:Nat} {Dn:List Nat}
theorem C1 {pre:Hl} (hs:hb.Sublist (pre++EV tw tl er bw s)) {s':Ws} (e:EV tw tl er bw s'=EV tw tl er bw s):hb.Sublist (pre++cn tw tl er bw s'):=hs.trans (List.Sublist.append (List.Sublist.refl _) (by rw [←e];exact Ak))
theorem aH.iF {pre:Hl} (hW:fw tn Γ σ s) (hs:hb.Sublist (pre++EV tw tl er bw s)) (h1:aC ops Dn=[i]) (ho:ops[i]?=some ⟨some d,.call ⟨.value cal,az,ts⟩,ty,pos,aft,g⟩) (hw:au ops l g=true)
  (hc:aS l cal=some (.func (.func gf) #[] #[])) (hx:dk l az.toList=some vs) (hd:Nat.blt d n=true) (hcf:∀args w,(callFunc gf args).run P w=.ok (.enter gf args) w)
  (hcall:∀w Y',St w0 S w (pre++cn tw tl er bw s) Y'→Cn P gf vs w (fun v w'=>gh tn w w' v (bT u)))
  (hk:∀x p,x.f=bT u→x.Z→fw tn (x::Γ) σ (s.sC p)→aH P r f R w0 S Y n k ops hb q (i::Dn) ((d,x.v)::l) (pre++cn tw tl er bw (s.sC p))):
  aH P r f R w0 S Y n k ops hb (q+1) Dn l (pre++cn tw tl er bw s):=by
 refine aH.call (fun w v w'=>gh tn w w' v (bT u)) h1 ho hw hc hx hd hcf hcall (fun v w w' Y' hS he hO=>?_)
 obtain ⟨ho,hz⟩:=hO
 obtain ⟨q,cap,sp,rfl,hq,ao,hS'⟩:=ak hS he ho
 refine ⟨_,hS'.perm mW,C1 hs rfl,?_⟩
 rw [ji]
 refine hk _ _ rfl (fun e=>?_) (hW.add hq gV)
 have:=hz e
 cases q with
 |none=>rfl
 |some b=>cases this
theorem aH.bB {pre hR hR':Hl} {s0:Ws} {er0:Value} {res:Nat×Sg} (h0:iC w0 (cn tw tl er0 bw s0++hR)) (hW:fw tn Γ σ s) (hsub:hR'.Sublist (pre++hR)) (hs:hb.Sublist pre) (h1:aC ops Dn=[i]) (ho:ops[i]?=some ⟨some d,.call ⟨.value cal,az,ts⟩,ty,pos,aft,g⟩) (hw:au ops l g=true)
  (hc:aS l cal=some (.func (.func gf) #[] #[])) (hx:dk l az.toList=some vs) (hd:Nat.blt d n=true) (hcf:∀args w,(callFunc gf args).run P w=.ok (.enter gf args) w)
  (hcall:∀w Y',St w0 (cJ (cn tw tl er0 bw s0)) w (pre++cn tw tl (ef σ.bad) bw s) Y'→rB P tn tw tl ef bw Γ σ gf vs w hR' res)
  (hk:∀s' Γ',fw tn Γ' res.2 s'→Γ⊆Γ'→aH P r f R w0 (cJ (cn tw tl er0 bw s0)) Y n k ops hb q (i::Dn) ((d,.int .i64 (res.1:Int))::l) (pre++cn tw tl (ef res.2.bad) bw s')):
  aH P r f R w0 (cJ (cn tw tl er0 bw s0)) Y n k ops hb (q+1) Dn l (pre++cn tw tl (ef σ.bad) bw s):=by
 refine aH.iK (hC:=cn tw tl (ef σ.bad) bw s) (hF:=pre) (fs:=[]) (cs:=[]) List.perm_append_comm (fun _ v h'=>∃s' Γ',v=.int .i64 (res.1:Int)∧h'=cn tw tl (ef res.2.bad) bw s'∧fw tn Γ' res.2 s'∧Γ⊆Γ') h1 ho hw hc hx hd hcf (fun w Y' hS=>?_) (fun w v h' hR2=>?_)
 ·rw [List.nil_append,List.append_nil]
  have hS2:=hS.perm (List.perm_append_comm (l₁:=cn tw tl (ef σ.bad) bw s) (l₂:=pre))
  exact hcall w _ hS2 s hW ((h0.stay hS2).sub (List.Sublist.append (List.Sublist.refl _) hsub))
 obtain ⟨s',Γ',rfl,rfl,hW',hs'⟩:=hR2
 exact ⟨_,List.perm_append_comm,hs.trans (List.sublist_append_left _ _),hk s' Γ' hW' hs'⟩
theorem rB.of {gf:FuncId} {fn:Func} {c:Code} {args:List Value} {w:World} {hR:Hl} {res:Nat×Sg} (hf:P.funcs[gf]?=some fn) (hb:fn.body=some c) (hn:Nat.ble args.length fn.ntmps=true)
  (hgo:∀s,fw tn Γ σ s→iC w (cn tw tl (ef σ.bad) bw s++hR)→ab P none gf (fun v w'=>∃h',(∃s' Γ',v=.int .i64 (res.1:Int)∧h'=cn tw tl (ef res.2.bad) bw s'∧fw tn Γ' res.2 s'∧Γ⊆Γ')∧St w (cJ (cn tw tl (ef σ.bad) bw s)) w' h' []) w (cJ (cn tw tl (ef σ.bad) bw s)) [] fn.ntmps [.code c] (te 0 args) (cn tw tl (ef σ.bad) bw s)):
  rB P tn tw tl ef bw Γ σ gf args w hR res:=fun s hW hH=>qA.of (hH.sub (List.sublist_append_left _ _)) hf hb hn (hgo s hW hH)
end
theorem GK {tn tw tl:TypeId} {ef:Bool→Value} {bw:Nat} {Γ Γ':List FV} {res:Nat×Sg} {s':Ws} {w w':World} {S:List Nat} {pre:Hl} {v:Value} (hv:v=.int .i64 (res.1:Int)) (hW:fw tn Γ' res.2 s') (hg:Γ⊆Γ') (hS:St w S w' (pre++cn tw tl (ef res.2.bad) bw s') []):
  ∃h',(∃s' Γ',v=.int .i64 (res.1:Int)∧h'=cn tw tl (ef res.2.bad) bw s'∧fw tn Γ' res.2 s'∧Γ⊆Γ')∧St w S w' h' []:=⟨_,⟨s',Γ',hv,rfl,hW,hg⟩,hS.dO (List.sublist_append_right _ _)⟩
theorem fw.bad {tn:TypeId} {Γ:List FV} {σ:Sg} {s:Ws} {b:Bool} (h:fw tn Γ σ s):fw tn Γ ⟨σ.ls,b⟩ s:=⟨h.nil,h.cap,h.BJ,h.EN,h.ctx,h.D3,h.EJ⟩
theorem dT {tn tw tl:TypeId} {ef:Bool→Value} {bw:Nat} {Γ Γ':List FV} {res res':Nat×Sg} {s':Ws} {w w':World} {S:List Nat} {pre:Hl} {v:Value} (he:res=res') (hv:v=.int .i64 (res'.1:Int)) (hW:fw tn Γ' res'.2 s') (hg:Γ⊆Γ') (hS:St w S w' (pre++cn tw tl (ef res'.2.bad) bw s') []):
  ∃h',(∃s' Γ',v=.int .i64 (res.1:Int)∧h'=cn tw tl (ef res.2.bad) bw s'∧fw tn Γ' res.2 s'∧Γ⊆Γ')∧St w S w' h' []:=by subst he;exact GK hv hW hg hS
structure GG (S:List Nat) (w:World) (a:Option Addr) (xs:List Int):Prop where
  at_:jw w a xs
  sep:∀b o,a=some ⟨b,o,none⟩→b∉S
theorem GG.ay {S:List Nat} {w0 w:World} {a:Option Addr} {xs:List Int} (h:GG S w0 a xs) (e:Ex S w0 w):jw w a xs:=jw.ay h.at_ e h.sep
theorem iC.read {w:World} {h0 hR:Hl} (g:iC w (h0++hR)) {b:Nat} {o:Obj} (hm:(some b,o)∈hR):w.heap[b]?=some o∧b∉cJ h0:=by
 refine ⟨(g.own _ (List.mem_append_right _ hm) b rfl).1,fun hb=>?_⟩
 obtain ⟨o',ho⟩:=gz.1 hb
 exact (List.pairwise_append.1 g.apart).2.2 _ ho _ hm b rfl rfl
theorem iC.HV {w:World} {h0 hR:Hl} (g:iC w (h0++hR)) {q:Option Nat} {xs:List Int} {e:TypeId} {sp:List Value} (hm:(q,ob bM e xs sp)∈hR) (hq:q=none→xs=[]):GG (cJ h0) w (q.map (fun b=>⟨b,0,none⟩)) xs:=by
 cases q with
 |none=>rw [hq rfl];exact ⟨Sl.nil _ _,fun b o e=>by cases e⟩
 |some b=>exact ⟨Sl.di (g.read hm).1,fun b' o e=>by cases e;exact (g.read hm).2⟩
theorem fw.put {tn:TypeId} {Γ:List FV} {σ:Sg} {s:Ws} (h:fw tn Γ σ s) {x:FV} (h1:x.sH tn s.H) (h2:x.f.length≤maxLen):fw tn (x::Γ) σ s:=⟨h.nil,h.cap,h.BJ,h.EN,fun y hy=>by
  rcases List.mem_cons.1 hy with rfl|hy
  ·exact ⟨h1,h2⟩
  exact h.ctx y hy,fun y hy=>List.mem_cons_of_mem _ (h.D3 y hy),h.EJ⟩
theorem iC.cS {w:World} {h:Hl} (g:iC w h) (o:Obj):iC w (h++[(none,o)]):=by
 constructor
 ·intro p hp b hb
  rcases List.mem_append.1 hp with hp|hp
  ·exact g.own p hp b hb
  rw [List.mem_singleton.1 hp] at hb;cases hb
 refine List.pairwise_append.2 ⟨g.apart,List.pairwise_singleton _ _,fun p _ q hq b _ hqb=>?_⟩
 rw [List.mem_singleton.1 hq] at hqb;cases hqb
section
variable {P:Program} {tn tw tl:TypeId} {ef:Bool→Value} {bw:Nat} {Γ:List FV} {σ:Sg} {s:Ws}
variable {r:Option Nat} {f:FuncId} {R:Value→World→Prop} {w0:World} {S:List Nat} {Y:List (Nat×Obj)} {n:Nat} {k:List Item} {l:Fl} {ops:Array Oper} {i d:Nat} {rest:List Nat} {ty:TypeId} {pos:String} {aft:Array Edge} {g:Option (Nat×Bool)}
variable {az:Array Operand} {ts:Array TypeId} {cal:Operand} {gf:FuncId} {vs:List Value}
theorem ab.qm {pre hR':Hl} {res:Nat×Sg} (hW:fw tn Γ σ s) (hsub:hR'.Sublist pre) (ho:ops[i]?=some ⟨some d,.call ⟨.value cal,az,ts⟩,ty,pos,aft,g⟩) (hw:au ops l g=true)
  (hc:aS l cal=some (.func (.func gf) #[] #[])) (hx:dk l az.toList=some vs) (hd:Nat.blt d n=true) (hcf:∀args w,(callFunc gf args).run P w=.ok (.enter gf args) w)
  (hcall:∀w Y',St w0 S w (pre++cn tw tl (ef σ.bad) bw s) Y'→rB P tn tw tl ef bw Γ σ gf vs w hR' res)
  (hk:∀s' Γ',fw tn Γ' res.2 s'→Γ⊆Γ'→ab P r f R w0 S Y n (.inRegion ops rest::k) ((d,.int .i64 (res.1:Int))::l) (pre++cn tw tl (ef res.2.bad) bw s')):
  ab P r f R w0 S Y n (.inRegion ops (i::rest)::k) l (pre++cn tw tl (ef σ.bad) bw s):=by
 refine ab.mV (h':=cn tw tl (ef σ.bad) bw s++pre) List.perm_append_comm ?_
 refine ab.iK (h:=cn tw tl (ef σ.bad) bw s) (hF:=pre) (fs:=[]) (cs:=[]) (fun _ v h'=>∃s' Γ',v=.int .i64 (res.1:Int)∧h'=cn tw tl (ef res.2.bad) bw s'∧fw tn Γ' res.2 s'∧Γ⊆Γ') ho hw hc hx hd hcf (fun w Y' hS=>?_) (fun w v h' hR2=>?_)
 ·rw [List.nil_append,List.append_nil]
  have hS2:=hS.perm (List.perm_append_comm (l₁:=cn tw tl (ef σ.bad) bw s) (l₂:=pre))
  exact hcall w _ hS2 s hW (hS.has.sub (List.Sublist.append (List.Sublist.refl _) hsub))
 obtain ⟨s',Γ',rfl,rfl,hW',hs⟩:=hR2
 exact ab.mV List.perm_append_comm (hk s' Γ' hW' hs)
end
theorem fw.own {tn tw tl:TypeId} {Γ:List FV} {σ:Sg} {s:Ws} {er:Value} {bw:Nat} {w0 w:World} {pre:Hl} {Y:List (Nat×Obj)} (h:fw tn Γ σ s) (hS:St w0 [] w (pre++cn tw tl er bw s) Y):ia tn tl w0 w (cR s.q s.ls.length s.cap) s.ls:=
 ⟨s.q,s.cap,s.sp,s.H,rfl,h.nil,h.cap,(gi.of hS).sub ((List.sublist_cons_self _ _).trans (List.sublist_append_right pre _)),fun x hx=>h.ctx _ (h.D3 x hx)⟩
theorem fw.start {tn:TypeId}:fw tn [] ⟨[],false⟩ ⟨none,0,[],[],[]⟩:=by
 refine ⟨fun _=>⟨rfl,rfl⟩,rfl,rfl,Nat.zero_le _,?_,?_,?_⟩<;>(intro _ h;cases h)
end Go.Proofs.Wit
namespace Go.Proofs.Wit
open Go Go.RowKit
/-! formulas in negation normal form, of any length -/
structure qu (b:List NV):Prop where
  jH:aV b=0
  Cm:∀n∈b,eI b n
section
variable {b:List NV}
theorem qu.x (h:qu b) {i:Nat} (hi:i<b.length) (hX:4≤(nd b i).op):0≤(nd b i).x∧(nd b i).x<i:=by
 rw [dJ hi] at*
 have ho:=(aE.1 h.jH).nodes i hi
 have h1:=h.Cm _ (List.getElem_mem hi)
 have hu:cF b[i].op=true:=by unfold cF;unfold eI at h1;simp;omega
 have:=ho.x hu;omega
theorem qu.y (h:qu b) {i:Nat} (hi:i<b.length) (hX:(nd b i).op=5∨(nd b i).op=6):0≤(nd b i).y∧(nd b i).y<i:=by
 rw [dJ hi] at*
 have ho:=(aE.1 h.jH).nodes i hi
 have hu:cu b[i].op=true:=by unfold cu;rcases hX with e|e<;>rw [e]<;>rfl
 have:=ho.y hu;omega
theorem qu.node (h:qu b) {i:Nat} (hi:i<b.length):((nd b i).op≤3∧aa b i=.leaf (nd b i).op (nd b i).i (nd b i).e (nd b i).g)∨(((nd b i).op=4∨(nd b i).op=9∨(nd b i).op=10)∧aa b i=.un (nd b i).op (nd b i).i (nd b i).e (nd b i).g (aa b (nd b i).x.toNat))∨(((nd b i).op=5∨(nd b i).op=6)∧aa b i=.bin (nd b i).op (nd b i).i (nd b i).e (nd b i).g (aa b (nd b i).x.toNat) (aa b (nd b i).y.toNat)):=by
 rw [dJ hi]
 have hO:=(aE.1 h.jH).nodes
 have hn:=h.Cm _ (List.getElem_mem hi)
 unfold eI at hn
 have hX:cF b[i].op=true↔4≤b[i].op:=by
  unfold cF;simp;omega
 have hY:cu b[i].op=true↔b[i].op=5∨b[i].op=6:=by
  unfold cu;simp;omega
 rcases dG hi hO with ⟨h1,h2⟩|⟨h1,h2,h3⟩|⟨h1,h2⟩
 ·refine .inl ⟨?_,h2⟩
  have:¬4≤b[i].op:=fun e=>by rw [hX.2 e] at h1;cases h1
  omega
 ·refine .inr (.inl ⟨?_,h3⟩)
  have:=hX.1 h1
  have:¬(b[i].op=5∨b[i].op=6):=fun e=>by rw [hY.2 e] at h2;cases h2
  omega
 exact .inr (.inr ⟨hY.1 h1,h2⟩)
theorem qu.nf (h:qu b):∀(i:Nat),i<b.length→om (aa b i):=by
 intro i
 induction i using Nat.strongRecOn with
 |_ i ih=>
 intro hi
 rcases h.node hi with ⟨h1,h2⟩|⟨h1,h2⟩|⟨h1,h2⟩
 ·rw [h2];exact h1
 ·have hx:=h.x hi (by omega)
  rw [h2]
  by_cases h4:(nd b i).op=4
  ·have hn:=h.Cm _ (List.getElem_mem hi)
   unfold eI at hn
   rw [←dJ hi] at hn
   have h3:(nd b (nd b i).x).op=3:=by omega
   obtain ⟨k,hk⟩:∃k:Nat,(nd b i).x=k:=⟨(nd b i).x.toNat,by omega⟩
   rw [hk] at h3⊢
   have hkl:k<b.length:=by omega
   rcases h.node hkl with ⟨g1,g2⟩|⟨g1,g2⟩|⟨g1,g2⟩
   ·rw [Int.toNat_natCast,g2,h3]
    exact .inl ⟨h4,_,_,_,rfl⟩
   ·omega
   omega
  exact .inr ⟨by omega,ih _ (by omega) (by omega)⟩
 have hx:=h.x hi (by omega)
 have hy:=h.y hi h1
 rw [h2]
 exact ⟨h1,ih _ (by omega) (by omega),ih _ (by omega) (by omega)⟩
theorem qu.top (h:qu b):om (bj b):=by
 have hp:=(aE.1 h.jH).pos
 rw [dg]
 exact h.nf _ (by omega)
end
open Classical in
noncomputable def ri (ei:Bool) (f:List NV):Int:=if aV f≠0 then aV f else if ¬∀n∈aj f,eI (aj f) n then 10 else if (aJ af ei (bj f) ⟨[],false⟩).2.bad=true then 8 else 0
noncomputable def DF (ei:Bool) (f:List NV):List LD:=(aJ af ei (bj f) ⟨[],false⟩).2.ls.map (fun x=>x.v.d)
end Go.Proofs.Wit
namespace Go.Proofs.Wit
open Go Go.RowKit
/-! a step that is written, in memory -/
structure SP where
  bw:Nat
  bs:Nat
  l:Int
  A:Option Addr
  cA:Nat
  b:List NV
  B:Option Addr
  cB:Nat
  tl:List SV
  x:SV
  full:aB
  Z:Option Addr
  cZ:Nat
  last:List Nat
def SP.cs (p:SP):Array Value:=#[.pointer (some ⟨p.bw,0,none⟩),.int .i64 p.l,.slice p.A p.b.length p.cA,.slice p.B p.tl.length p.cB,U p.x.d.set,.int .i64 p.x.d.av,.int .i64 p.x.d.on,.int .i64 p.x.d.e,.slice p.x.fa p.x.d.fr.length p.x.fc,U p.full,.slice p.Z p.last.length p.cZ]
structure SP.At (p:SP) (t:TypeId) (w:World):Prop where
  di:w.heap[p.bs]?=some (.cells p.cs t (0,0))
  fa:FA w p.A p.b
  sa:Sl w p.B (p.tl.flatMap SV.cells)
  EI:jw w p.x.fa p.x.d.fr
  GC:jw w p.Z (p.last.map (fun j:Nat=>(j:Int)))
structure SP.R (p:SP) (t:TypeId) (S:List Nat) (w:World):Prop where
  at_:p.At t w
  s1:p.bs∉S
  s2:∀b o,p.A=some ⟨b,o,none⟩→b∉S
  s3:∀b o,p.B=some ⟨b,o,none⟩→b∉S
  s4:∀b o,p.x.fa=some ⟨b,o,none⟩→b∉S
  s5:∀b o,p.Z=some ⟨b,o,none⟩→b∉S
theorem SP.R.ex {p:SP} {t:TypeId} {S:List Nat} {w w':World} (h:p.R t S w) (e:Ex S w w'):p.At t w':=by
 refine ⟨?_,h.at_.fa.ay e h.s2,Sl.ex h.at_.sa e h.s3,jw.ay h.at_.EI e h.s4,jw.ay h.at_.GC e h.s5⟩
 have h1:=h.at_.di
 rw [e.block p.bs (Array.getElem?_eq_some_iff.1 h1).1 h.s1];exact h1
theorem SP.At.ay {p:SP} {t:TypeId} {w w':World} (h:p.At t w) (e:Ex [] w w'):p.At t w':=⟨e.gL h.di,h.fa.ay e,Sl.ex h.sa e (by simp),h.EI.ay e,h.GC.ay e⟩
structure SP.In (p:SP) (t tn ts ti:TypeId) (hR:Hl):Prop where
  di:(some p.bs,.cells p.cs t (0,0))∈hR
  fa:∃q sp,(q,eX tn p.b sp)∈hR∧p.A=q.map (fun b=>⟨b,0,none⟩)∧(q=none→p.b.length=0)
  sa:∃q sp,(q,mc ts p.tl sp)∈hR∧p.B=q.map (fun b=>⟨b,0,none⟩)∧(q=none→p.tl.length=0)
  EI:∃q sp,(q,ob bM ti p.x.d.fr sp)∈hR∧p.x.fa=q.map (fun b=>⟨b,0,none⟩)∧(q=none→p.x.d.fr.length=0)
  GC:∃q sp,(q,ob bM ti (p.last.map (fun j:Nat=>(j:Int))) sp)∈hR∧p.Z=q.map (fun b=>⟨b,0,none⟩)∧(q=none→p.last.length=0)
theorem SP.In.mono {p:SP} {t tn ts ti:TypeId} {hR hR':Hl} (h:p.In t tn ts ti hR) (hs:hR⊆hR'):p.In t tn ts ti hR':=by
 obtain ⟨h1,⟨q2,s2,a2,b2⟩,⟨q3,s3,a3,b3⟩,⟨q4,s4,a4,b4⟩,⟨q5,s5,a5,b5⟩⟩:=h
 exact ⟨hs h1,⟨q2,s2,hs a2,b2⟩,⟨q3,s3,hs a3,b3⟩,⟨q4,s4,hs a4,b4⟩,⟨q5,s5,hs a5,b5⟩⟩
theorem SP.In.r {p:SP} {t tn ts ti:TypeId} {hR h0:Hl} {w:World} (h:p.In t tn ts ti hR) (g:iC w (h0++hR)):p.R t (cJ h0) w:=by
 obtain ⟨h1,⟨q2,s2,a2,b2,c2⟩,⟨q3,s3,a3,b3,c3⟩,⟨q4,s4,a4,b4,c4⟩,⟨q5,s5,a5,b5,c5⟩⟩:=h
 obtain ⟨k1,k2⟩:=g.read h1
 have hsep:∀{a:Option Addr} {q:Option Nat} {o':Obj},(q,o')∈hR→a=q.map (fun b=>(⟨b,0,none⟩:Addr))→∀b o,a=some ⟨b,o,none⟩→b∉cJ h0:=fun hm e b o e2=>by
  rename_i a q o'
  subst e
  cases q with
  |none=>cases e2
  |some b'=>cases e2;exact (g.read hm).2
 refine ⟨⟨k1,?_,?_,?_,?_⟩,k2,hsep a2 b2,hsep a3 b3,hsep a4 b4,hsep a5 b5⟩
 ·rw [b2]
  cases q2 with
  |none=>rw [List.eq_nil_of_length_eq_zero (c2 rfl)];exact ⟨Sl.nil _ _⟩
  |some b=>exact ⟨Sl.di (g.read a2).1⟩
 ·rw [b3]
  cases q3 with
  |none=>rw [List.eq_nil_of_length_eq_zero (c3 rfl)];exact Sl.nil _ _
  |some b=>exact Sl.di (g.read a3).1
 ·rw [b4]
  cases q4 with
  |none=>rw [List.eq_nil_of_length_eq_zero (c4 rfl)];exact Sl.nil _ _
  |some b=>exact Sl.di (g.read a4).1
 rw [b5]
 cases q5 with
 |none=>rw [List.eq_nil_of_length_eq_zero (c5 rfl)];exact Sl.nil _ _
 |some b=>exact Sl.di (g.read a5).1
theorem SP.At.part {p:SP} {t:TypeId} {w:World} (h:p.At t w) {o:Nat} {cs:List Value} (hc:∀j,j<cs.length→p.cs[o+j]?=cs[j]?):∀j v,cs[j]?=some v→w.cell? ((⟨p.bs,o,none⟩:Addr).add j)=some v:=fun j v hv=>by
 have hj:=(List.getElem?_eq_some_iff.1 hv).1
 have e1:(⟨p.bs,o,none⟩:Addr).add j=⟨p.bs,o+j,none⟩:=by
  unfold Addr.add;split
  ·rename_i h0;rw [h0];rfl
  rfl
 rw [e1]
 exact Ex.cell (Ex.refl _ _) h.di (by rw [hc j hj];exact hv)
structure GI (S:List Nat) (w:World) (a:Option Addr) (xs:List Value):Prop where
  at_:Sl w a xs
  sep:∀b o,a=some ⟨b,o,none⟩→b∉S
theorem GI.ay {S:List Nat} {w0 w:World} {a:Option Addr} {xs:List Value} (h:GI S w0 a xs) (e:Ex S w0 w):GI S w a xs:=⟨Sl.ex h.at_ e h.sep,h.sep⟩
theorem SP.R.HW {p:SP} {t:TypeId} {S:List Nat} {w:World} (h:p.R t S w):GI S w p.B (p.tl.flatMap SV.cells):=⟨h.at_.sa,h.s3⟩
theorem SP.R.EO {p:SP} {t:TypeId} {S:List Nat} {w:World} (h:p.R t S w):CI S w p.A p.b:=⟨h.at_.fa.at_,h.s2⟩
def SP.ag (p:SP):Int:=if p.x.d.av=7 then p.x.d.on else (nd p.b p.x.d.on).i
def SP.S0 (p:SP):aB:=dh (dE p.tl) (p.x.d.fr.getD 0 0)
def SP.own (p:SP):List Nat:=if p.x.d.av=6 then dY (p.S0 &&& ~~~ bW (nd p.b p.x.d.on).x) else dY p.S0
def SP.ns (p:SP):List Nat:=if p.x.d.av=6 then p.own else p.own.dropLast
def SP.tg (p:SP):Nat:=if p.x.d.av=6 then (nd p.b p.x.d.on).x.toNat else p.own.getLastD 0
def SP.line (p:SP):Nat:=p.last.getD (p.x.d.fr.getD 0 0).toNat 0
structure SP.Ok (p:SP) (k:Nat):Prop where
  base:aW p.b
  full:ju p.b p.full
  lX:ey p.l p.b (dE p.tl) k p.x.d
  Iu:k<p.tl.length
  FF:p.last.length=k
  uo:∀j:Nat,j<p.tl.length→ju p.b (dh (dE p.tl) (j:Int))
  ne:∀j:Nat,j<p.tl.length→dY (dh (dE p.tl) (j:Int))≠[]
  IC:p.x.d.av=6∨p.x.d.av=7→∀n∈p.own,eS p.b p.full p.ag n=n→(nd p.b n).op=9∨(nd p.b n).op=10
  IF:p.x.d.av=6∨p.x.d.av=7→0≤p.ag∧p.ag<4
noncomputable def FD (p:SP) (G:Tr) (σ:Sg):Nat×Sg:=uE af p.b G p.full p.ag p.ns p.tg p.own (decide (p.x.d.av=6)) p.line σ
theorem AV {s u:aB} {n:Nat} (h:n∈dY (s &&& u)):n∈dY s:=db.2 (by
 have:=db.1 h
 rw [BitVec.getLsbD_and,Bool.and_eq_true] at this;exact this.1)
theorem SP.vz {p:SP} {n:Nat} (h:n∈p.own):n∈dY p.S0:=by
 unfold SP.own at h
 split at h
 ·exact AV h
 exact h
theorem SP.Dp {p:SP} {n:Nat} (h:n∈p.ns):n∈p.own:=by
 unfold SP.ns at h
 split at h
 ·exact h
 exact (List.dropLast_sublist _).subset h
theorem AW {s:aB}:(dY s).length≤64:=by
 have:=List.length_filter_le (fun i=>s.getLsbD i) (List.range 64)
 simpa [dY] using this
theorem SP.A1 {p:SP}:p.own.length≤64:=by unfold SP.own;split<;>exact AW
theorem SP.A6 {p:SP}:p.own.take p.ns.length=p.ns:=by
 unfold SP.ns;split
 ·exact List.take_length
 rw [List.length_dropLast,List.dropLast_eq_take]
theorem SP.Ft {p:SP}:p.ns.length≤p.own.length:=by
 unfold SP.ns;split
 ·exact Nat.le_refl _
 rw [List.length_dropLast];omega
section
variable {P:Program} {tn tw tl:TypeId} {er:Value} {bw:Nat} {Γ:List FV} {σ:Sg} {s:Ws}
variable {r:Option Nat} {f:FuncId} {R:Value→World→Prop} {w0:World} {S:List Nat} {Y:List (Nat×Obj)} {n:Nat} {k:List Item} {l:Fl} {ops:Array Oper} {i d:Nat} {rest:List Nat} {ty:TypeId} {pos:String} {aft:Array Edge} {g:Option (Nat×Bool)}
variable {az:Array Operand} {ts:Array TypeId} {cal:Operand} {gf:FuncId} {vs:List Value} {u:Tr}
theorem ab.Ad {pre:Hl} {y:FV} (hW:fw tn Γ σ s) (hy:y∈Γ) (hyz:y.Z) (ho:ops[i]?=some ⟨some d,.call ⟨.value cal,az,ts⟩,ty,pos,aft,g⟩) (hw:au ops l g=true)
  (hc:aS l cal=some (.func (.func gf) #[] #[])) (hx:dk l az.toList=some vs) (hd:Nat.blt d n=true) (hcf:∀args w,(callFunc gf args).run P w=.ok (.enter gf args) w)
  (hcall:∀w Y',St w0 S w (pre++cn tw tl er bw s) Y'→Cn P gf vs w (fun v w'=>(v=y.v∧y.f=bT u)∨gh tn w w' v (bT u)))
  (hk:∀x s' Γ',x∈Γ'→Γ⊆Γ'→x.f=bT u→x.Z→fw tn Γ' σ s'→ab P r f R w0 S Y n (.inRegion ops rest::k) ((d,x.v)::l) (pre++cn tw tl er bw s')):
  ab P r f R w0 S Y n (.inRegion ops (i::rest)::k) l (pre++cn tw tl er bw s):=by
 refine ab.nu (fun w v w'=>(v=y.v∧y.f=bT u)∨gh tn w w' v (bT u)) ho hw hc hx hd hcf hcall (fun v w w' Y' hS he hO=>?_)
 rcases hO with ⟨rfl,hf⟩|⟨ho,hz⟩
 ·exact ⟨_,hS.later he,hk y s Γ hy (fun _ h=>h) hf hyz hW⟩
 obtain ⟨q,cap,sp,rfl,hq,ao,hS'⟩:=ak hS he ho
 refine ⟨_,hS'.perm mW,?_⟩
 rw [ji]
 refine hk _ _ _ (List.mem_cons_self ..) (fun _ h=>List.mem_cons_of_mem _ h) rfl (fun e=>?_) (hW.add hq gV)
 have:=hz e
 cases q with
 |none=>rfl
 |some b=>cases this
end
section
variable {P:Program} {tn tw tl:TypeId} {er:Value} {ef:Bool→Value} {bw:Nat} {Γ:List FV} {σ:Sg} {s:Ws}
variable {r:Option Nat} {f:FuncId} {R:Value→World→Prop} {w0:World} {S:List Nat} {Y:List (Nat×Obj)} {n:Nat} {k:List Item} {l:Fl} {ops:Array Oper} {i d:Nat} {ty:TypeId} {pos:String} {aft:Array Edge} {g:Option (Nat×Bool)}
variable {az:Array Operand} {ts:Array TypeId} {cal:Operand} {gf:FuncId} {vs:List Value} {u:Tr} {hb:Hl} {q:Nat} {Dn:List Nat} {h:Hl}
theorem aH.two {i j d e:Nat} (h1:aC ops Dn=[i,j]) (hi:du P w0 S n h ops i l d (fun v h'=>hb.Sublist h'∧aH P r f R w0 S Y n k ops hb q (i::Dn) ((d,v)::l) h')) (hd:Nat.blt d n=true) (hj:du P w0 S n h ops j l e (fun v h'=>hb.Sublist h'∧aH P r f R w0 S Y n k ops hb q (j::Dn) ((e,v)::l) h')) (he:Nat.blt e n=true):aH P r f R w0 S Y n k ops hb (q+1) Dn l h:=by
 intro t hF
 rw [Dt]
 refine .inr ⟨by rw [h1];simp,fun m hm=>?_⟩
 rw [h1] at hm
 simp only [List.mem_cons,List.not_mem_nil,or_false] at hm
 rcases hm with rfl|rfl
 ·exact fV.of hi hF (fun v h' ⟨e1,e2⟩=>⟨e1,e2 _ (hF.put v hd)⟩)
 exact fV.of hj hF (fun v h' ⟨e1,e2⟩=>⟨e1,e2 _ (hF.put v he)⟩)
theorem du.Ad {K:Value→Hl→Prop} {pre:Hl} {y:FV} (hW:fw tn Γ σ s) (hy:y∈Γ) (hyz:y.Z) (ho:ops[i]?=some ⟨some d,.call ⟨.value cal,az,ts⟩,ty,pos,aft,g⟩) (hw:au ops l g=true)
  (hc:aS l cal=some (.func (.func gf) #[] #[])) (hx:dk l az.toList=some vs) (hd:Nat.blt d n=true) (hcf:∀args w,(callFunc gf args).run P w=.ok (.enter gf args) w)
  (hcall:∀w Y',St w0 S w (pre++cn tw tl er bw s) Y'→Cn P gf vs w (fun v w'=>(v=y.v∧y.f=bT u)∨gh tn w w' v (bT u)))
  (hk:∀x s' Γ',x∈Γ'→Γ⊆Γ'→x.f=bT u→x.Z→fw tn Γ' σ s'→K x.v (pre++cn tw tl er bw s')):du P w0 S n (pre++cn tw tl er bw s) ops i l d K:=by
 refine du.call (fun w v w'=>(v=y.v∧y.f=bT u)∨gh tn w w' v (bT u)) ho hw hc hx hd hcf hcall (fun v w w' Y' hS he hO=>?_)
 rcases hO with ⟨rfl,hf⟩|⟨ho,hz⟩
 ·exact ⟨_,hS.later he,hk y s Γ hy (fun _ h=>h) hf hyz hW⟩
 obtain ⟨q,cap,sp,rfl,hq,ao,hS'⟩:=ak hS he ho
 refine ⟨_,hS'.perm mW,?_⟩
 rw [ji]
 refine hk _ _ _ (List.mem_cons_self ..) (fun _ h=>List.mem_cons_of_mem _ h) rfl (fun e=>?_) (hW.add hq gV)
 have:=hz e
 cases q with
 |none=>rfl
 |some b=>cases this
theorem du.iF {K:Value→Hl→Prop} {pre:Hl} (hW:fw tn Γ σ s) (ho:ops[i]?=some ⟨some d,.call ⟨.value cal,az,ts⟩,ty,pos,aft,g⟩) (hw:au ops l g=true)
  (hc:aS l cal=some (.func (.func gf) #[] #[])) (hx:dk l az.toList=some vs) (hd:Nat.blt d n=true) (hcf:∀args w,(callFunc gf args).run P w=.ok (.enter gf args) w)
  (hcall:∀w Y',St w0 S w (pre++cn tw tl er bw s) Y'→Cn P gf vs w (fun v w'=>gh tn w w' v (bT u)))
  (hk:∀x s',x.f=bT u→x.Z→fw tn (x::Γ) σ s'→K x.v (pre++cn tw tl er bw s')):du P w0 S n (pre++cn tw tl er bw s) ops i l d K:=by
 refine du.call (fun w v w'=>gh tn w w' v (bT u)) ho hw hc hx hd hcf hcall (fun v w w' Y' hS he hO=>?_)
 obtain ⟨ho,hz⟩:=hO
 obtain ⟨q,cap,sp,rfl,hq,ao,hS'⟩:=ak hS he ho
 refine ⟨_,hS'.perm mW,?_⟩
 rw [ji]
 refine hk _ _ rfl (fun e=>?_) (hW.add hq gV)
 have:=hz e
 cases q with
 |none=>rfl
 |some b=>cases this
theorem du.uC {K:Value→Hl→Prop} {pre:Hl} (hW:fw tn Γ σ s) (ho:ops[i]?=some ⟨some d,.call ⟨.value cal,az,ts⟩,ty,pos,aft,g⟩) (hw:au ops l g=true)
  (hc:aS l cal=some (.func (.func gf) #[] #[])) (hx:dk l az.toList=some vs) (hd:Nat.blt d n=true) (hcf:∀args w,(callFunc gf args).run P w=.ok (.enter gf args) w)
  (hcall:∀w Y',St w0 S w (pre++cn tw tl er bw s) Y'→Cn P gf vs w (fun v w'=>aI tn w w' v (bT u)))
  (hk:∀x s',x.f=bT u→fw tn (x::Γ) σ s'→K x.v (pre++cn tw tl er bw s')):du P w0 S n (pre++cn tw tl er bw s) ops i l d K:=by
 refine du.call (fun w v w'=>aI tn w w' v (bT u)) ho hw hc hx hd hcf hcall (fun v w w' Y' hS he hO=>?_)
 obtain ⟨q,cap,sp,rfl,hq,ao,hS'⟩:=ak hS he hO
 refine ⟨_,hS'.perm mW,?_⟩
 rw [ji]
 exact hk _ _ rfl (hW.add hq gV)
theorem du.bB {K:Value→Hl→Prop} {pre hR hR':Hl} {s0:Ws} {er0:Value} {res:Nat×Sg} (h0:iC w0 (cn tw tl er0 bw s0++hR)) (hW:fw tn Γ σ s) (hsub:hR'.Sublist (pre++hR)) (ho:ops[i]?=some ⟨some d,.call ⟨.value cal,az,ts⟩,ty,pos,aft,g⟩) (hw:au ops l g=true)
  (hc:aS l cal=some (.func (.func gf) #[] #[])) (hx:dk l az.toList=some vs) (hd:Nat.blt d n=true) (hcf:∀args w,(callFunc gf args).run P w=.ok (.enter gf args) w)
  (hcall:∀w Y',St w0 (cJ (cn tw tl er0 bw s0)) w (pre++cn tw tl (ef σ.bad) bw s) Y'→rB P tn tw tl ef bw Γ σ gf vs w hR' res)
  (hk:∀s' Γ',fw tn Γ' res.2 s'→Γ⊆Γ'→K (.int .i64 (res.1:Int)) (pre++cn tw tl (ef res.2.bad) bw s')):du P w0 (cJ (cn tw tl er0 bw s0)) n (pre++cn tw tl (ef σ.bad) bw s) ops i l d K:=by
 have hp:(pre++cn tw tl (ef σ.bad) bw s).Perm (cn tw tl (ef σ.bad) bw s++pre):=List.perm_append_comm
 refine ⟨_,ho,rfl,rfl,rfl,hd,.inl ⟨hw,fun t w Ds Y' hF' hS=>.inr ⟨gf,vs.toArray,fun v w'=>∃h',(∃s' Γ',v=.int .i64 (res.1:Int)∧h'=cn tw tl (ef res.2.bad) bw s'∧fw tn Γ' res.2 s'∧Γ⊆Γ')∧St w (cJ (cn tw tl (ef σ.bad) bw s)) w' h' [],?_,?_,fun v w' ⟨h',h1,h2⟩=>?_⟩⟩⟩
 ·have e1:=fA (P:=P) (ty:=ty) (ts:=ts) (Ds:=Ds) (w:=w) (first:=#[]) (captured:=#[]) hF' hc hx
  simp only [execOp,Sem.run_bind,e1,Result.andThen_ok,invoke,hcf]
  simp
 ·have:=hcall w Y' hS s hW ((h0.stay hS).sub (List.Sublist.append (List.Sublist.refl _) hsub))
  exact Calls.mono this (fun e w' ⟨v,h',e1,e2,e3⟩=>⟨v,e1,h',e2,e3⟩)
 obtain ⟨s',Γ',rfl,rfl,hW',hs'⟩:=h1
 exact ⟨_,((hS.perm hp).frame h2).perm List.perm_append_comm,hk s' Γ' hW' hs'⟩
end
theorem vv {w:World} {a:Option Addr} {xs:List Value} (h:Sl w a xs) (n:Nat):Sl w a (xs.take n):=by
 refine ⟨fun hp=>h.isSome (by rw [List.length_take] at hp;omega),fun j hj=>?_⟩
 rw [List.length_take] at hj
 rw [h.cell j (by omega)]
 simp [List.getD_eq_getElem?_getD,show j<n by omega]
end Go.Proofs.Wit
namespace Go.Proofs.Wit
open Go Go.RowKit
/-! the steps of a trimmed refutation, as they are written -/
section
variable {l:Int} {b:List NV} {L:List SD}
theorem zE (hb:aW b) {s:aB} {a:Int} {n:Nat} (hn:(lF l b s a).getLsbD n=true) (he:eS b s a n=n):(nd b n).op=9∨(nd b n).op=10:=by
 obtain ⟨z,_,h⟩:=qg hb hn he
 obtain ⟨i,h1,_⟩:=(kh hb).1 hn
 have hnb:n<b.length:=by
  rcases h with ⟨h,_⟩|⟨h,_⟩
  all_goals
   refine Classical.byContradiction fun e=>?_
   have:aa b n=aa b n:=rfl
   obtain ⟨i,h1,h2,h3,h4⟩:=(kh hb).1 hn
   rcases h4 with ⟨h4,h5⟩|⟨h4,_⟩
   ·have:=hb.x h1 (by omega);omega
   omega
 rcases hb.node hnb with ⟨g1,g2⟩|⟨g1,g2⟩|⟨g1,g2⟩
 ·rcases h with ⟨h,_⟩|⟨h,_⟩<;>rw [g2] at h<;>cases h
 ·rcases h with ⟨h,_⟩|⟨h,_⟩<;>rw [g2] at h<;>injection h with h1<;>omega
 rcases h with ⟨h,_⟩|⟨h,_⟩<;>rw [g2] at h<;>cases h
theorem fH.GP (h:fH l b L) {p:SP} {q:Nat} (e1:p.l=l) (e2:p.b=b) (e3:dE p.tl=cy b L) (hq:q<p.tl.length) (e4:p.x=p.tl[q]) (e5:p.full=(cQ L L.length).getD q 0#64) (e6:p.last.length=q):p.Ok q:=by
 have hb:=h.base
 have ht:=h.tr
 have htl:p.tl.length=(cy b L).length:=by rw [←e3,cH]
 have hqt:q<(cy b L).length:=by omega
 have hxd:p.x.d=(cy b L)[q]:=by
  rw [e4]
  have:(dE p.tl)[q]'(by rw [cH];exact hq)=p.tl[q].d:=my hq
  rw [←this];simp only [e3]
 obtain ⟨k,hk,hn,hkq,htq⟩:=pq hqt
 have hfull:p.full=L[k].set:=by rw [e5,List.getD_eq_getElem?_getD,←hkq,rZ hn (Nat.le_refl _) hk hk];rfl
 have hcor:=ht.lX q hqt
 rw [←hxd] at hcor htq
 have hru:p.x.d.av=L[k].av:=by rw [htq];rfl
 have hon:p.x.d.on=L[k].on:=by rw [htq];rfl
 have hfr:p.x.d.fr=L[k].fr.map (fun j=>((bd (cX L) j.toNat:Nat):Int)):=by rw [htq];rfl
 have hS0:∀j:Nat,L[k].fr=[(j:Int)]→p.S0=mJ b L j:=fun j hj=>by
  have hm:(j:Int)∈L[k].fr:=by rw [hj];simp
  unfold SP.S0
  rw [hfr,hj,e3]
  exact rK (by have:=(h.pre hk hn hm).2.1;omega) (h.pre hk hn hm).1
 have mr:=h.C3 hk
 have hag9:∀{o:Nat},o<b.length→(nd b o).op=10→0≤(nd b o).i∧(nd b o).i<4:=fun {o} ho h2=>by
  have hok:=hb.ok ho
  rcases hb.node ho with ⟨g1,g2⟩|⟨g1,g2⟩|⟨g1,g2⟩
  ·omega
  ·rw [g2] at hok;exact (m4 hok (by omega)).1
  omega
 refine ⟨e2 ▸ hb,?_,?_,hq,e6,fun j hj=>?_,fun j hj=>?_,fun h67 n hno hsn=>?_,fun h67=>?_⟩
 ·rw [hfull,e2];exact (h.lX k hk).1
 ·rw [e1,e2,e3];exact hcor
 ·rw [e3,e2,eN (by omega)];exact (ht.lX j (by omega)).1
 ·obtain ⟨n,h1,_⟩:=ht.ze j (by omega)
  have h2:=ht.sub j (by omega) n h1
  rw [e3,eN (by omega)]
  exact fun e=>by have:=db.2 h2;rw [e] at this;cases this
 ·rw [e2] at hsn⊢
  have hns:=SP.vz hno
  cases mr with
  |tP o g1=>omega
  |neg o e g1=>omega
  |and o j g1=>omega
  |or o j i g1=>omega
  |cut o e j i g1=>omega
  |t o j g1=>omega
  |k o j g1 g2 g3 g4 g5 g6 g7 g8 g9 g10=>
   have hag:p.ag=(nd b o).i:=by unfold SP.ag;rw [if_neg (by omega),e2,hon,g5]
   rw [hS0 j g3] at hns
   have hnx:(n:Int)≠(nd b o).x:=fun e=>by
    have hx:=hb.x g6 (by omega)
    unfold SP.own at hno
    rw [if_pos (by omega),db,gy,e2,hon,g5,od (by have:=hb.len;omega)] at hno
    exact hno.2 e
   have:=g9 n (by
    have hm:(j:Int)∈L[k].fr:=by rw [g3];simp
    have:=(h.pre hk hn hm).2.1
    rw [eN (by omega)];exact h.sub j (by omega) n (db.1 hns))
   rw [hag,hfull] at hsn
   exact zE hb (this.resolve_right hnx) hsn
  |d j g1 g2 g3 g4 g5 g6 g7 g8=>
   have hag:p.ag=L[k].on:=by unfold SP.ag;rw [if_pos (by omega),hon]
   rw [hS0 j g4] at hns
   rw [hag,hfull] at hsn
   exact zE hb (g7 n (by
    have hm:(j:Int)∈L[k].fr:=by rw [g4];simp
    have:=(h.pre hk hn hm).2.1
    rw [eN (by omega)];exact h.sub j (by omega) n (db.1 hns))) hsn
 cases mr with
 |tP o g1=>omega
 |neg o e g1=>omega
 |and o j g1=>omega
 |or o j i g1=>omega
 |cut o e j i g1=>omega
 |t o j g1=>omega
 |k o j g1 g2 g3 g4 g5 g6 g7 g8 g9 g10=>
  unfold SP.ag;rw [if_neg (by omega),e2,hon,g5]
  exact hag9 g6 g8
 |d j g1 g2 g3 g4 g5 g6 g7 g8=>
  unfold SP.ag;rw [if_pos (by omega),hon];exact g6
theorem sZ {T:Tr→Prop} {tl:List SD} {fl:List aB} {q:Nat}:∀{r:Nat},q≤r→r≤tl.length→(aT T b tl fl q).2.Le (aT T b tl fl r).2
 |0,h,_=>by rw [show q=0 by omega];exact Sg.Le.refl _
 |r+1,h,h2=>by
  by_cases e:q=r+1
  ·rw [e];exact Sg.Le.refl _
  refine (sZ (r:=r) (by omega) (by omega)).trans ?_
  rw [eO (by omega)];exact sQ
theorem AX {T:Tr→Prop}:(aT T b (cy b L) (cQ L L.length) (cy b L).length).2.Le (gI T b L).2:=by
 unfold gI;dsimp only
 split
 ·exact Sg.Le.refl _
 exact dc
open Classical in
noncomputable def Df (l:Int) (b:List NV) (L:List SD):Int:=if mQ l b L≠0 then mQ l b L else if (gI af b L).2.bad=true then 8 else 0
noncomputable def GA (b:List NV) (L:List SD):List LD:=(gI af b L).2.ls.map (fun x=>x.v.d)
end
section
variable {P:Program} {tn tw tl:TypeId} {ef:Bool→Value} {bw:Nat} {Γ:List FV} {σ:Sg} {s:Ws}
variable {r:Option Nat} {f:FuncId} {R:Value→World→Prop} {w0:World} {S:List Nat} {Y:List (Nat×Obj)} {n:Nat} {k:List Item} {l:Fl} {ops:Array Oper} {i d:Nat} {rest:List Nat} {ty:TypeId} {pos:String} {aft:Array Edge} {g:Option (Nat×Bool)}
variable {az:Array Operand} {ts:Array TypeId} {cal:Operand} {gf:FuncId} {vs:List Value}
theorem Cj {pre H:Hl} {er:Value}:(pre++(cn tw tl er bw s++H)).Perm ((pre++H)++cn tw tl er bw s):=by
 rw [List.append_assoc]
 exact List.Perm.append_left pre List.perm_append_comm
theorem ab.Ee {pre H hR':Hl} {res:Nat×Sg} (hW:fw tn Γ σ s) (hsub:hR'.Sublist (pre++H)) (ho:ops[i]?=some ⟨some d,.call ⟨.value cal,az,ts⟩,ty,pos,aft,g⟩) (hw:au ops l g=true)
  (hc:aS l cal=some (.func (.func gf) #[] #[])) (hx:dk l az.toList=some vs) (hd:Nat.blt d n=true) (hcf:∀args w,(callFunc gf args).run P w=.ok (.enter gf args) w)
  (hcall:∀w Y',St w0 S w ((pre++H)++cn tw tl (ef σ.bad) bw s) Y'→rB P tn tw tl ef bw Γ σ gf vs w hR' res)
  (hk:∀s' Γ',fw tn Γ' res.2 s'→Γ⊆Γ'→ab P r f R w0 S Y n (.inRegion ops rest::k) ((d,.int .i64 (res.1:Int))::l) (pre++(cn tw tl (ef res.2.bad) bw s'++H))):
  ab P r f R w0 S Y n (.inRegion ops (i::rest)::k) l (pre++(cn tw tl (ef σ.bad) bw s++H)):=by
 refine ab.mV Cj ?_
 refine ab.qm hW hsub ho hw hc hx hd hcf hcall (fun s' Γ' hW' hg'=>?_)
 exact ab.mV Cj.symm (hk s' Γ' hW' hg')
theorem ab.G5 {h h':Hl} (hm:∀w Y',St w0 S w h Y'→St w0 S w h' Y') (hg:ab P r f R w0 S Y n k l h'):ab P r f R w0 S Y n k l h:=fun t w Ds hF hS=>hg t w Ds hF (hm w _ hS)
theorem du.qm {K:Value→Hl→Prop} {pre hR':Hl} {res:Nat×Sg} (hW:fw tn Γ σ s) (hsub:hR'.Sublist pre) (ho:ops[i]?=some ⟨some d,.call ⟨.value cal,az,ts⟩,ty,pos,aft,g⟩) (hw:au ops l g=true)
  (hc:aS l cal=some (.func (.func gf) #[] #[])) (hx:dk l az.toList=some vs) (hd:Nat.blt d n=true) (hcf:∀args w,(callFunc gf args).run P w=.ok (.enter gf args) w)
  (hcall:∀w Y',St w0 S w (pre++cn tw tl (ef σ.bad) bw s) Y'→rB P tn tw tl ef bw Γ σ gf vs w hR' res)
  (hk:∀s' Γ',fw tn Γ' res.2 s'→Γ⊆Γ'→K (.int .i64 (res.1:Int)) (pre++cn tw tl (ef res.2.bad) bw s')):du P w0 S n (pre++cn tw tl (ef σ.bad) bw s) ops i l d K:=by
 have hp:(pre++cn tw tl (ef σ.bad) bw s).Perm (cn tw tl (ef σ.bad) bw s++pre):=List.perm_append_comm
 refine ⟨_,ho,rfl,rfl,rfl,hd,.inl ⟨hw,fun t w Ds Y' hF' hS=>.inr ⟨gf,vs.toArray,fun v w'=>∃h',(∃s' Γ',v=.int .i64 (res.1:Int)∧h'=cn tw tl (ef res.2.bad) bw s'∧fw tn Γ' res.2 s'∧Γ⊆Γ')∧St w (cJ (cn tw tl (ef σ.bad) bw s)) w' h' [],?_,?_,fun v w' ⟨h',h1,h2⟩=>?_⟩⟩⟩
 ·have e1:=fA (P:=P) (ty:=ty) (ts:=ts) (Ds:=Ds) (w:=w) (first:=#[]) (captured:=#[]) hF' hc hx
  simp only [execOp,Sem.run_bind,e1,Result.andThen_ok,invoke,hcf]
  simp
 ·have:=hcall w Y' hS s hW ((hS.perm hp).has.sub (List.Sublist.append (List.Sublist.refl _) hsub))
  exact Calls.mono this (fun e w' ⟨v,h',e1,e2,e3⟩=>⟨v,e1,h',e2,e3⟩)
 obtain ⟨s',Γ',rfl,rfl,hW',hs'⟩:=h1
 exact ⟨_,((hS.perm hp).frame h2).perm List.perm_append_comm,hk s' Γ' hW' hs'⟩
end
end Go.Proofs.Wit
namespace Go.Proofs.Wit
open Go Go.RowKit
/-! the examples of the chapter -/
theorem tR:∀(xs:List Tr),∃l:List Tr,l.Nodup∧(∀u,u∈l↔u∈xs)∧l.length≤xs.length
 |[]=>⟨[],List.nodup_nil,fun _=>Iff.rfl,Nat.le_refl _⟩
 |x::xs=>by
  obtain ⟨l,h1,h2,h3⟩:=tR xs
  by_cases h:x∈l
  ·exact ⟨l,h1,fun u=>by rw [h2,List.mem_cons];exact ⟨.inr,fun e=>e.elim (fun e=>by rw [e];exact (h2 x).1 h) id⟩,by simp;omega⟩
  exact ⟨x::l,List.nodup_cons.2 ⟨h,h1⟩,fun u=>by rw [List.mem_cons,List.mem_cons,h2],by simp;omega⟩
theorem D7 {t:Tr} (h:(kK t).length≤10):af t:=by
 obtain ⟨l,h1,h2,h3⟩:=tR (kK t)
 exact ⟨l,h1,h2,by omega⟩
def GB (t:Tr) (r:Int) (ls:List TL):Bool:=decide ((cd t).length≤200) && (decide (ls.length<400) && (decide (r≠1)||decide ((kK t).length≤10)))
theorem jr {t:Tr} {r:Int} {a b:Nat} {g:Int} {ls:List TL} (h:GB t r ls=true):bS af t r a b g ⟨ls,false⟩=(ls.length,⟨ls++[⟨t,r,a,b,g⟩],false⟩):=by
 unfold GB at h
 simp only [Bool.and_eq_true,Bool.or_eq_true,decide_eq_true_eq] at h
 obtain ⟨h1,h2,h3⟩:=h
 rw [bS,if_neg]
 rintro (e|e|e|⟨e1,e2⟩)
 ·cases e
 ·exact e h1
 ·dsimp only at e;omega
 rcases h3 with h3|h3
 ·exact h3 e1
 exact e2 (D7 h3)
theorem rQ {t:Tr} (h:decide ((cd (aF t)).length≤200)=true):fg t=(aN t).2:=by
 unfold fg;split
 ·rfl
 rename_i h2;exact absurd (of_decide_eq_true h:(cd (aF t)).length≤200) h2
theorem A4:fg pT=aF pT:=by rw [rQ (by decide+kernel)];decide+kernel
theorem Cl:fg (aF pT)=pT:=by rw [rQ (by decide+kernel)];decide+kernel
theorem GY:fg (ar 0 pT)=gl 0 (aF pT):=by rw [rQ (by decide+kernel)];decide+kernel
theorem lV {g u:Tr} {fr:List Nat} {ls:List TL} (hu:u=cz (fr.map (fY ⟨ls,false⟩)) g) (h:GB u 1 ls=true):aU af g fr ⟨ls,false⟩=lq af g (fr.map (fun n=>(n,fY ⟨ls,false⟩ n))) ls.length ⟨ls++[⟨u,1,0,0,0⟩],false⟩:=by
 rw [aU,if_neg (by simp),←hu,jr h]
theorem lQ {g u t:Tr} {n m:Nat} {ps:List (Nat×Tr)} {ls:List TL} (hu:u=cz (ps.map (·.2)) g) (h:GB u 10 ls=true):lq af g ((m,t)::ps) n ⟨ls,false⟩=lq af g ps ls.length ⟨ls++[⟨u,10,m,n,0⟩],false⟩:=by
 rw [lq,←hu,jr h]
abbrev Du:Tr:=aF (aF pT)
abbrev Ed (ei:Bool):Tr:=if ei=true then .bin 6 0 0 0 pT (aF pT) else aF (jv pT (aF pT))
abbrev BP (ei:Bool):Tr:=if ei=true then .bin 6 0 0 0 (ar 0 pT) (gl 0 (aF pT)) else aF (jv (ar 0 pT) (gl 0 (aF pT)))
abbrev kP (ei:Bool):Tr:=if ei=true then Du else pT
abbrev kQ (ei:Bool):Tr:=if ei=true then pT else Du
abbrev G6 (ei:Bool):List TL:=[⟨Ed ei,1,0,0,0⟩]
abbrev yR (ei:Bool):List TL:=[⟨Ed ei,1,0,0,0⟩,⟨aP (Ed ei) (aP (kP ei) (kQ ei)),1,0,0,0⟩,⟨aP (kP ei) (kQ ei),10,0,1,0⟩]
abbrev DD (ei:Bool):List TL:=yR ei++[⟨ar 0 (aP (kP ei) (kQ ei)),11,2,0,0⟩,⟨aP (ar 0 (aP (kP ei) (kQ ei))) (aP (ar 0 (kP ei)) (ar 0 (kQ ei))),2,0,0,0⟩,⟨aP (ar 0 (kP ei)) (ar 0 (kQ ei)),10,3,4,0⟩,⟨nI (gl 0 (aF pT)) (aF (ar 0 Du)),7,0,0,0⟩]
abbrev GD (ei:Bool):List TL:=DD ei++[⟨aP (aP (ar 0 (kP ei)) (ar 0 (kQ ei))) (aP (nI (gl 0 (aF pT)) (aF (ar 0 Du))) (BP ei)),1,0,0,0⟩,⟨aP (nI (gl 0 (aF pT)) (aF (ar 0 Du))) (BP ei),10,5,7,0⟩,⟨BP ei,10,6,8,0⟩]
theorem Ho {ei:Bool}:lY ei pT=Ed ei:=by unfold lY Ed;rw [A4]
theorem Hp {ei:Bool}:lY ei (ar 0 pT)=BP ei:=by unfold lY BP;rw [GY]
theorem DH {ei:Bool}:aJ af ei pT ⟨[],false⟩=(0,⟨G6 ei,false⟩):=by
 show aJ af ei (.leaf 3 0 0 0) _=_
 rw [aJ,show (Tr.leaf 3 0 0 0)=pT from rfl,Ho,lV (u:=Ed ei) rfl (by cases ei<;>decide+kernel)]
 rfl
theorem DI {ei:Bool}:aJ af ei (ar 0 pT) ⟨[],false⟩=(9,⟨GD ei,false⟩):=by
 show aJ af ei (.un 9 0 0 0 pT) _=_
 rw [aJ,if_pos (.inl rfl),DH,show (Tr.un 9 0 0 0 pT)=ar 0 pT from rfl]
 have hp:oJ ei 9 pT=kP ei:=by unfold oJ kP vT uT;rw [if_pos rfl,if_pos rfl,A4]
 have hq:oI ei 9 pT=kQ ei:=by unfold oI kQ vT uT;rw [if_pos rfl,if_pos rfl,A4]
 have hv:vT 9 pT=aF pT:=by unfold vT;rw [if_pos rfl,A4]
 have h1:aU af (aP (kP ei) (kQ ei)) [0] ⟨G6 ei,false⟩=(2,⟨yR ei,false⟩):=by
  rw [lV (u:=aP (Ed ei) (aP (kP ei) (kQ ei))) rfl (by cases ei<;>decide+kernel)]
  rw [List.map_cons,List.map_nil,lQ (u:=aP (kP ei) (kQ ei)) rfl (by cases ei<;>decide+kernel)]
  rfl
 have h2:gN af 0 (kP ei) (kQ ei) 2 ⟨yR ei,false⟩=(5,⟨yR ei++[⟨ar 0 (aP (kP ei) (kQ ei)),11,2,0,0⟩,⟨aP (ar 0 (aP (kP ei) (kQ ei))) (aP (ar 0 (kP ei)) (ar 0 (kQ ei))),2,0,0,0⟩,⟨aP (ar 0 (kP ei)) (ar 0 (kQ ei)),10,3,4,0⟩],false⟩):=by
  rw [gN,jr (by cases ei<;>decide+kernel)]
  dsimp only
  rw [kW,jr (by cases ei<;>decide+kernel)]
  dsimp only
  rw [jr (by cases ei<;>decide+kernel)]
  rfl
 have h3:dU af 0 (aF pT) ⟨yR ei++[⟨ar 0 (aP (kP ei) (kQ ei)),11,2,0,0⟩,⟨aP (ar 0 (aP (kP ei) (kQ ei))) (aP (ar 0 (kP ei)) (ar 0 (kQ ei))),2,0,0,0⟩,⟨aP (ar 0 (kP ei)) (ar 0 (kQ ei)),10,3,4,0⟩],false⟩=(6,⟨DD ei,false⟩):=by
  rw [dU,jr (by cases ei<;>decide+kernel)]
  rfl
 have h4:aU af (BP ei) [5,6] ⟨DD ei,false⟩=(9,⟨GD ei,false⟩):=by
  rw [lV (u:=aP (aP (ar 0 (kP ei)) (ar 0 (kQ ei))) (aP (nI (gl 0 (aF pT)) (aF (ar 0 Du))) (BP ei))) rfl (by cases ei<;>decide+kernel)]
  rw [List.map_cons,List.map_cons,List.map_nil,lQ (u:=aP (nI (gl 0 (aF pT)) (aF (ar 0 Du))) (BP ei)) rfl (by cases ei<;>decide+kernel),lQ (u:=BP ei) rfl (by cases ei<;>decide+kernel)]
  rfl
 rw [pM,hp,hq,hv,h1]
 dsimp only
 rw [h2]
 dsimp only
 rw [h3]
 dsimp only
 rw [Hp,h4]
/-! the refutation of K p and not p in T -/
def gO:List NV:=[⟨3,0,0,0,0,0⟩,⟨4,0,0,0,0,0⟩,⟨9,0,0,0,0,0⟩]
def Au:SD:=⟨7#64,1,1,0,[]⟩
def As:SD:=⟨6#64,5,2,0,[0]⟩
def dF:List SD:=[Au,As]
theorem CX:aW gO:=⟨by decide+kernel,by decide,by decide+kernel⟩
theorem E1:aa gO 0=pT:=by decide+kernel
theorem E0:aa gO 1=aF pT:=by decide+kernel
theorem GL:aa gO 2=ar 0 pT:=by decide+kernel
theorem CV:jy gO 1=0:=qY (i:=1) (j:=0) (by decide) (by rw [E1,show tA gO 1=aa gO 1 from rfl,E0,Cl]) (fun k hk=>absurd hk (Nat.not_lt_zero _))
theorem Ar:ey 2 gO dF 0 Au:=by
 refine ⟨fun k hk=>?_,.inl ⟨rfl,rfl,.inr ⟨by decide+kernel,by decide,by decide+kernel,CV⟩⟩⟩
 have:∀k:Fin 64,(7#64).getLsbD k.val=true→k.val<3:=by decide+kernel
 exact this ⟨k,BitVec.lt_of_getLsbD hk⟩ hk
theorem Aq:ey 2 gO dF 1 As:=by
 refine ⟨fun k hk=>?_,.inr (.inr (.inr (.inr (.inl ⟨rfl,rfl,.inl rfl,⟨by decide,by decide+kernel,by decide+kernel⟩,?_⟩))))⟩
 ·have:∀k:Fin 64,(6#64).getLsbD k.val=true→k.val<3:=by decide+kernel
  exact this ⟨k,BitVec.lt_of_getLsbD hk⟩ hk
 exact ⟨⟨⟨by decide,by decide⟩,by decide+kernel⟩,trivial⟩
theorem vm:fH 2 gO dF:=by
 refine ⟨by decide,CX,by decide,by decide,fun k hk=>?_⟩
 match k,hk with
 |0,_=>exact Ar
 |1,_=>exact Aq
theorem Ap:mJ gO dF 0=3#64:=by decide+kernel
theorem Ao:mJ gO dF 1=6#64:=by decide+kernel
theorem Ch:cX dF 1=true:=fh.2 (.last rfl)
theorem Ci:cX dF 0=true:=fh.2 (.fr (k:=1) (by decide) (.last rfl) (by decide+kernel))
theorem pk:cy gO dF=[⟨3#64,1,1,0,[]⟩,⟨6#64,5,2,0,[0]⟩]:=by
 have h0:mM gO dF 1=[⟨3#64,1,1,0,[]⟩]:=by
  rw [jX (k:=0) (by decide),if_pos Ci]
  show []++[fW gO dF 0 Au]=_
  rw [fW,Ap,if_neg (by decide+kernel)];rfl
 have hc:bd (cX dF) 0=0:=rfl
 rw [cy]
 show mM gO dF 2=_
 rw [jX (k:=1) (by decide),if_pos Ch,h0]
 show _++[fW gO dF 1 As]=_
 rw [fW,Ao,if_neg (by decide+kernel)]
 show [_]++[SD.mk 6#64 5 2 0 [((bd (cX dF) 0:Nat):Int)]]=_
 rw [hc];rfl
theorem xO:cQ dF dF.length=[7#64,6#64]:=by
 show cQ dF 2=_
 have h0:cQ dF 1=[7#64]:=by
  show (match dF[0]? with|some x=>if cX dF 0=true then cQ dF 0++[x.set] else cQ dF 0|none=>cQ dF 0)=_
  show (if cX dF 0=true then _ else _)=_
  rw [if_pos Ci];rfl
 show (if cX dF 1=true then cQ dF 1++[6#64] else cQ dF 1)=_
 rw [if_pos Ch,h0];rfl
abbrev Bv:Tr:=aF (jv pT (aF pT))
abbrev D2:Tr:=aF (jv (aF pT) (ar 0 pT))
abbrev ER:Tr:=aF (jv (aF pT) pT)
abbrev uI:List TL:=[⟨ER,1,0,0,0⟩,⟨aP ER Bv,1,0,0,0⟩,⟨Bv,10,0,1,0⟩]
abbrev EL:List TL:=uI++[⟨aP (ar 0 pT) pT,3,0,0,0⟩,⟨aP (aP (ar 0 pT) pT) (aP Bv D2),1,0,0,0⟩,⟨aP Bv D2,10,3,4,0⟩,⟨D2,10,2,5,0⟩]
theorem Fv:dC gO 3#64=Bv:=by decide+kernel
theorem Fu:dC gO 6#64=D2:=by decide+kernel
theorem G7:aJ af false (aF pT) ⟨[],false⟩=(0,⟨[⟨ER,1,0,0,0⟩],false⟩):=by
 have hc:lY false (aF pT)=ER:=by unfold lY;rw [if_neg (by decide),Cl]
 show aJ af false (.un 4 0 0 0 pT) _=_
 rw [aJ,if_neg (by decide),show (Tr.un 4 0 0 0 pT)=aF pT from rfl,hc,lV (u:=ER) rfl (by decide+kernel)]
 rfl
theorem GO:bL af gO (cy gO dF) 7#64 ⟨3#64,1,1,0,[]⟩ [] ⟨[],false⟩=(2,⟨uI,false⟩):=by
 unfold bL
 dsimp only
 rw [if_pos rfl,if_neg (by decide+kernel),Fv,show tA gO 1=aa gO 1 from rfl,E0,G7]
 dsimp only
 rw [lV (u:=aP ER Bv) rfl (by decide+kernel),List.map_cons,List.map_nil,lQ (u:=Bv) rfl (by decide+kernel)]
 rfl
theorem GN:bL af gO (cy gO dF) 6#64 ⟨6#64,5,2,0,[0]⟩ [2] ⟨uI,false⟩=(6,⟨EL,false⟩):=by
 unfold bL
 dsimp only
 rw [if_neg (by decide),if_neg (by decide),if_neg (by decide),if_neg (by decide),if_pos rfl,Fu,show tA gO 2=aa gO 2 from rfl,GL,show tA gO (nd gO 2).x=aa gO 0 from rfl,E1,jr (by decide+kernel)]
 dsimp only
 rw [show ([2]:List Nat).getD (([0]:List Int).getD 0 0).toNat 0=2 from rfl,show uI.length=3 from rfl]
 rw [lV (u:=aP (aP (ar 0 pT) pT) (aP Bv D2)) rfl (by decide+kernel),List.map_cons,List.map_cons,List.map_nil,lQ (u:=aP Bv D2) rfl (by decide+kernel),lQ (u:=D2) rfl (by decide+kernel)]
 rfl
theorem Dc:gI af gO dF=(6,⟨EL,false⟩):=by
 have hl:(cy gO dF).length=2:=by rw [pk];rfl
 have h1:aT af gO (cy gO dF) (cQ dF dF.length) 1=([2],⟨uI,false⟩):=by
  rw [eO (q:=0) (by omega),xO]
  have e:(cy gO dF)[0]'(by omega)=⟨3#64,1,1,0,[]⟩:=by simp only [pk];rfl
  rw [e]
  show ([]++[(bL af gO (cy gO dF) 7#64 ⟨3#64,1,1,0,[]⟩ [] ⟨[],false⟩).1],(bL af gO (cy gO dF) 7#64 ⟨3#64,1,1,0,[]⟩ [] ⟨[],false⟩).2)=_
  rw [GO];rfl
 have h2:aT af gO (cy gO dF) (cQ dF dF.length) 2=([2,6],⟨EL,false⟩):=by
  rw [eO (q:=1) (by omega),h1,xO]
  have e:(cy gO dF)[1]'(by omega)=⟨6#64,5,2,0,[0]⟩:=by simp only [pk];rfl
  rw [e]
  show ([2]++[(bL af gO (cy gO dF) 6#64 ⟨6#64,5,2,0,[0]⟩ [2] ⟨uI,false⟩).1],(bL af gO (cy gO dF) 6#64 ⟨6#64,5,2,0,[0]⟩ [2] ⟨uI,false⟩).2)=_
  rw [GN];rfl
 unfold gI
 dsimp only
 rw [hl,h2,if_pos (by rw [pk];decide+kernel)]
 rfl
/-! what the checker says of lines that are written -/
theorem pU {l:Int} {σ:Sg} (hg:Good l σ) (hl:0≤l∧l≤6) (h0:0<σ.ls.length) {ls:List LV} (hd:ls.map LV.d=σ.ls.map (fun x=>x.v.d)):gF l ls=0:=by
 have h1:gF l (σ.ls.map TL.v)=0:=lC.2 ⟨hl,by rw [List.length_map];exact h0,by rw [List.length_map];exact hg.len,hg.ok⟩
 exact u3 (by rw [hd,List.map_map];rfl) h1
theorem vZ {ls:List LV} {ts:List TL} (hd:ls.map LV.d=ts.map (fun x=>x.v.d)) {k:Nat} (hk:k<ls.length) (hk2:k<ts.length):ls[k].f.f=bT ts[k].t:=by
 have h1:ls[k].d=ts[k].v.d:=by
  have:=congrArg (fun l=>l[k]?) hd
  simpa [hk,hk2] using this
 exact congrArg LD.f h1
theorem G1:om pT:=by show (3:Int)≤3;decide
theorem G2:om (ar 0 pT):=.inr ⟨.inl rfl,G1⟩
theorem oL:(ar 0 pT).ok:=bu (by decide) dV
theorem DE {ei:Bool}:ri ei (bT pT)=0∧DF ei (bT pT)=(G6 ei).map (fun x=>x.v.d):=by
 have h1:aV (bT pT)=0:=by decide+kernel
 have h2:bj (bT pT)=pT:=by decide+kernel
 have h3:∀n∈aj (bT pT),eI (aj (bT pT)) n:=by decide+kernel
 refine ⟨?_,?_⟩
 ·rw [ri,if_neg (by simp [h1]),if_neg (fun h=>h h3),h2,DH,if_neg (by simp)]
 rw [DF,h2,DH]
theorem wU {ei:Bool}:ri ei (bT (ar 0 pT))=0∧DF ei (bT (ar 0 pT))=(GD ei).map (fun x=>x.v.d):=by
 have h1:aV (bT (ar 0 pT))=0:=by decide+kernel
 have h2:bj (bT (ar 0 pT))=ar 0 pT:=by decide+kernel
 have h3:∀n∈aj (bT (ar 0 pT)),eI (aj (bT (ar 0 pT))) n:=by decide+kernel
 refine ⟨?_,?_⟩
 ·rw [ri,if_neg (by simp [h1]),if_neg (fun h=>h h3),h2,DI,if_neg (by simp)]
 rw [DF,h2,DI]
theorem FE:ri false (bT (aP pT pT))=10:=by
 have h1:aV (bT (aP pT pT))=0:=by decide+kernel
 have h3:¬∀n∈aj (bT (aP pT pT)),eI (aj (bT (aP pT pT))) n:=by decide+kernel
 rw [ri,if_neg (by simp [h1]),if_pos h3]
theorem De:Df 2 gO dF=0∧GA gO dF=EL.map (fun x=>x.v.d):=by
 have h1:mQ 2 gO dF=0:=jd.2 vm
 refine ⟨?_,?_⟩
 ·rw [Df,if_neg (by simp [h1]),Dc,if_neg (by simp)]
 rw [GA,Dc]
theorem F9 {ls:List LV} (hd:ls.map LV.d=(GD false).map (fun x=>x.v.d)):gF 0 ls=0:=by
 have h:=(lS (l:=0) (ei:=false) G2 oL tM).dL
 rw [DI] at h
 exact pU h (by decide) (by decide) hd
theorem F8 {ls:List LV} (hd:ls.map LV.d=EL.map (fun x=>x.v.d)):gF 2 ls=0:=by
 have h:=vm.Ik.2.1
 rw [Dc] at h
 exact pU h (by decide) (by decide) hd
theorem D8:aR ⟨3,0,0,0,0,0⟩ []=bT pT:=by decide+kernel
end Go.Proofs.Wit
