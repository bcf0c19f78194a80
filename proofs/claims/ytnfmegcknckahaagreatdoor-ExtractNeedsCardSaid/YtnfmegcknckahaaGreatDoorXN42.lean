/- Laws of walks, for any program, under the conditions that each theorem states. -/
import Derived.Test.YtnfmegcknckahaaGreatDoorXN40
import Derived.Test.YtnfmegcknckahaaGreatDoorXN27
import Derived.Test.YtnfmegcknckahaaGreatDoorXN13
import Derived.Test.YtnfmegcknckahaaGreatDoorXN25
namespace Go.Proofs.Wit
open Go Go.RowKit
/-! a writer of lines in memory -/
structure Ws where
  q:Option Nat
  cap:Nat
  ls:List LV
  sp:List Value
  H:Hl
def EM (tw tl:TypeId) (er:Value) (bw:Nat) (s:Ws):Hl:=[(some bw,.cells #[cP s.q s.ls.length s.cap,er] tw (0,0)),(s.q,xo tl s.ls s.sp)]
def cg (tw tl:TypeId) (er:Value) (bw:Nat) (s:Ws):Hl:=(some bw,.cells #[cP s.q s.ls.length s.cap,er] tw (0,0))::(s.q,xo tl s.ls s.sp)::s.H
theorem Ad {tw tl:TypeId} {er:Value} {bw:Nat} {s:Ws}:(EM tw tl er bw s).Sublist (cg tw tl er bw s):=.cons_cons _ (.cons_cons _ (List.nil_sublist _))
def Ws.sD (s:Ws) (p:Option Nat×Obj):Ws:={s with H:=p::s.H}
structure fg (tn:TypeId) (Γ:List FV) (σ:Sg) (s:Ws):Prop where
  nil:s.q=none→s.ls.length=0∧s.cap=0
  cap:(s.ls.flatMap LV.cells++s.sp).length=s.cap*5
  BB:s.ls.map LV.d=σ.ls.map (fun x=>x.v.d)
  EF:s.ls.length≤400
  ctx:∀x∈Γ,x.sI tn s.H∧x.f.length≤maxLen
  DT:∀x∈s.ls,x.f∈Γ
  EC:∀x∈σ.ls,x.t.ok
section
variable {tn tw tl:TypeId} {er:Value} {bw:Nat} {Γ:List FV} {σ:Sg} {s:Ws}
theorem fg.len (h:fg tn Γ σ s):s.ls.length=σ.ls.length:=by have:=congrArg List.length h.BB;simpa using this
theorem fg.at (h:fg tn Γ σ s) {k:Nat} (hk:k<s.ls.length):s.ls[k].f.f=bT (fT σ k)∧(fT σ k).ok∧s.ls[k].f∈Γ:=by
 have hk2:k<σ.ls.length:=by rw [←h.len];exact hk
 have h1:s.ls[k].d=(σ.ls[k]).v.d:=by
  have:=congrArg (fun l=>l[k]?) h.BB
  simpa [hk,hk2] using this
 have ht:fT σ k=(σ.ls[k]).t:=by simp [fT,List.getD_eq_getElem?_getD,hk2]
 refine ⟨?_,by rw [ht];exact h.EC _ (List.getElem_mem hk2),h.DT _ (List.getElem_mem hk)⟩
 rw [ht]
 exact congrArg LD.f h1
theorem fg.fa (h:fg tn Γ σ s) {x:FV} (hx:x∈Γ) {w0 w:World} {S:List Nat} {pre:Hl} {Y:List (Nat×Obj)} (hS:St w0 S w (pre++cg tw tl er bw s) Y):FA w x.a x.f:=
 ((h.ctx x hx).1.mono (fun _ hp=>List.mem_append_right _ (List.mem_cons_of_mem _ (List.mem_cons_of_mem _ hp)))).at hS
theorem fg.add (h:fg tn Γ σ s) {q:Option Nat} {f:List NV} {cap:Nat} {sp:List Value} (hq:q=none→f.length=0∧cap=0) (hl:f.length≤maxLen):fg tn (⟨q.map (fun b=>⟨b,0,none⟩),cap,f⟩::Γ) σ (s.sD (q,eO tn f sp)):=
 ⟨h.nil,h.cap,h.BB,h.EF,fun x hx=>by
  rcases List.mem_cons.1 hx with rfl|hx
  ·exact ⟨⟨q,sp,List.mem_cons_self ..,rfl,fun e=>(hq e).1⟩,hl⟩
  exact ⟨(h.ctx x hx).1.mono (List.subset_cons_self _ _),(h.ctx x hx).2⟩,fun x hx=>List.mem_cons_of_mem _ (h.DT x hx),h.EC⟩
def FV.Z (x:FV):Prop:=x.f=[]→x.a=none
theorem fg.GO (h:fg tn Γ σ s) {x:FV} (hx:x∈Γ) (hz:x.Z):x.a=none↔x.f=[]:=by
 refine ⟨fun e=>?_,hz⟩
 obtain ⟨q,sp,_,h2,h3⟩:=(h.ctx x hx).1
 cases q with
 |none=>exact List.eq_nil_of_length_eq_zero (h3 rfl)
 |some b=>rw [h2] at e;cases e
end
theorem iA.stay {w0 w1:World} {h0 hR pre h1:Hl} {Y:List (Nat×Obj)} (g:iA w0 (h0++hR)) (s:St w0 (cI h0) w1 (pre++h1) Y):iA w1 (h1++(pre++hR)):=by
 have hap:=List.pairwise_append.1 g.apart
 have hkeep:∀p∈hR,∀b,p.1=some b→w1.heap[b]?=some p.2∧b<w0.heap.size∧b∉cI h0:=fun p hp b hb=>by
  have h2:=(g.own p (List.mem_append_right _ hp) b hb).1
  have hlt:=(Array.getElem?_eq_some_iff.1 h2).1
  have hn:b∉cI h0:=fun hm=>by
   obtain ⟨o,ho⟩:=gw.1 hm
   exact hap.2.2 _ ho p hp b rfl hb
  exact ⟨by rw [s.ext.block b hlt hn];exact h2,hlt,hn⟩
 have hs:=List.pairwise_append.1 s.apart
 have hcross:∀p∈pre++h1,∀q∈hR,mw p q:=fun p hp q hq b hb hqb=>by
  obtain ⟨_,hlt,hn⟩:=hkeep q hq b hqb
  rcases (s.own p hp b hb).2.2 with h|h
  ·omega
  exact hn h
 refine ⟨fun p hp b hb=>?_,?_⟩
 ·rcases List.mem_append.1 hp with hp|hp
  ·exact ⟨(s.own p (List.mem_append_right _ hp) b hb).1,(s.own p (List.mem_append_right _ hp) b hb).2.1⟩
  ·rcases List.mem_append.1 hp with hp|hp
   ·exact ⟨(s.own p (List.mem_append_left _ hp) b hb).1,(s.own p (List.mem_append_left _ hp) b hb).2.1⟩
   ·exact ⟨(hkeep p hp b hb).1,(g.own p (List.mem_append_right _ hp) b hb).2⟩
 refine List.pairwise_append.2 ⟨hs.2.1,List.pairwise_append.2 ⟨hs.1,hap.2.1,fun p hp q hq=>hcross p (List.mem_append_left _ hp) q hq⟩,fun p hp q hq=>?_⟩
 rcases List.mem_append.1 hq with hq|hq
 ·exact fun b hb hqb=>hs.2.2 q hq p hp b hqb hb
 exact hcross p (List.mem_append_right _ hp) q hq
def rC (P:Program) (tn tw tl:TypeId) (ef:Bool→Value) (bw:Nat) (Γ:List FV) (σ:Sg) (gf:FuncId) (args:List Value) (w:World) (hR:Hl) (r:Nat×Sg):Prop:=
 ∀s,fg tn Γ σ s→iA w (cg tw tl (ef σ.bad) bw s++hR)→qE P gf args w (cg tw tl (ef σ.bad) bw s) (fun v h'=>∃s' Γ',v=.int .i64 (r.1:Int)∧h'=cg tw tl (ef r.2.bad) bw s'∧fg tn Γ' r.2 s'∧Γ⊆Γ')
section
variable {P:Program} {tn tw tl:TypeId} {er:Value} {ef:Bool→Value} {bw:Nat} {Γ:List FV} {σ:Sg} {s:Ws}
variable {r:Option Nat} {f:FuncId} {R:Value→World→Prop} {w0:World} {S:List Nat} {Y:List (Nat×Obj)} {n:Nat} {k:List Item} {l:Fl} {ops:Array Oper} {i d:Nat} {rest:List Nat} {ty:TypeId} {pos:String} {aft:Array Edge} {g:Option (Nat×Bool)}
variable {az:Array Operand} {ts:Array TypeId} {cal:Operand} {gf:FuncId} {vs:List Value} {u:Tr}
theorem jh {q:Option Nat} {f:List NV} {cap:Nat}:cP q f.length cap=FV.v ⟨q.map (fun b=>⟨b,0,none⟩),cap,f⟩:=by cases q<;>rfl
theorem gN {t:Tr}:(bT t).length≤maxLen:=aC rfl
theorem mS {p:Option Nat×Obj} {pre:Hl}:(p::(pre++cg tw tl er bw s)).Perm (pre++cg tw tl er bw (s.sD p)):=by
 refine (List.perm_middle (l₁:=pre) (a:=p)).symm.trans (List.Perm.append_left pre ?_)
 unfold cg Ws.sD
 exact (List.Perm.swap _ _ _).trans (List.Perm.cons _ (List.Perm.swap _ _ _))
theorem ab.iD {pre:Hl} (hW:fg tn Γ σ s) (ho:ops[i]?=some ⟨some d,.call ⟨.value cal,az,ts⟩,ty,pos,aft,g⟩) (hw:au ops l g=true)
  (hc:aT l cal=some (.func (.func gf) #[] #[])) (hx:dq l az.toList=some vs) (hd:Nat.blt d n=true) (hcf:∀args w,(callFunc gf args).run P w=.ok (.enter gf args) w)
  (hcall:∀w Y',St w0 S w (pre++cg tw tl er bw s) Y'→Cn P gf vs w (fun v w'=>fV tn w w' v (bT u)))
  (hk:∀x s',x.f=bT u→x.Z→fg tn (x::Γ) σ s'→ab P r f R w0 S Y n (.inRegion ops rest::k) ((d,x.v)::l) (pre++cg tw tl er bw s')):
  ab P r f R w0 S Y n (.inRegion ops (i::rest)::k) l (pre++cg tw tl er bw s):=by
 refine ab.nm (fun w v w'=>fV tn w w' v (bT u)) ho hw hc hx hd hcf hcall (fun v w w' Y' hS he hO=>?_)
 obtain ⟨ho,hz⟩:=hO
 obtain ⟨q,cap,sp,rfl,hq,ao,hS'⟩:=ak hS he ho
 refine ⟨_,hS'.perm mS,?_⟩
 rw [jh]
 refine hk _ _ rfl (fun e=>?_) (hW.add hq gN)
 have:=hz e
 cases q with
 |none=>rfl
 |some b=>cases this
theorem ab.uy {pre:Hl} (hW:fg tn Γ σ s) (ho:ops[i]?=some ⟨some d,.call ⟨.value cal,az,ts⟩,ty,pos,aft,g⟩) (hw:au ops l g=true)
  (hc:aT l cal=some (.func (.func gf) #[] #[])) (hx:dq l az.toList=some vs) (hd:Nat.blt d n=true) (hcf:∀args w,(callFunc gf args).run P w=.ok (.enter gf args) w)
  (hcall:∀w Y',St w0 S w (pre++cg tw tl er bw s) Y'→Cn P gf vs w (fun v w'=>aH tn w w' v (bT u)))
  (hk:∀x s',x.f=bT u→fg tn (x::Γ) σ s'→ab P r f R w0 S Y n (.inRegion ops rest::k) ((d,x.v)::l) (pre++cg tw tl er bw s')):
  ab P r f R w0 S Y n (.inRegion ops (i::rest)::k) l (pre++cg tw tl er bw s):=by
 refine ab.nm (fun w v w'=>aH tn w w' v (bT u)) ho hw hc hx hd hcf hcall (fun v w w' Y' hS he hO=>?_)
 obtain ⟨q,cap,sp,rfl,hq,ao,hS'⟩:=ak hS he hO
 refine ⟨_,hS'.perm mS,?_⟩
 rw [jh]
 exact hk _ _ rfl (hW.add hq gN)
theorem ab.bu {pre hR hR':Hl} {s0:Ws} {er0:Value} {res:Nat×Sg} (h0:iA w0 (cg tw tl er0 bw s0++hR)) (hW:fg tn Γ σ s) (hsub:hR'.Sublist (pre++hR)) (ho:ops[i]?=some ⟨some d,.call ⟨.value cal,az,ts⟩,ty,pos,aft,g⟩) (hw:au ops l g=true)
  (hc:aT l cal=some (.func (.func gf) #[] #[])) (hx:dq l az.toList=some vs) (hd:Nat.blt d n=true) (hcf:∀args w,(callFunc gf args).run P w=.ok (.enter gf args) w)
  (hcall:∀w Y',St w0 (cI (cg tw tl er0 bw s0)) w (pre++cg tw tl (ef σ.bad) bw s) Y'→rC P tn tw tl ef bw Γ σ gf vs w hR' res)
  (hk:∀s' Γ',fg tn Γ' res.2 s'→Γ⊆Γ'→ab P r f R w0 (cI (cg tw tl er0 bw s0)) Y n (.inRegion ops rest::k) ((d,.int .i64 (res.1:Int))::l) (pre++cg tw tl (ef res.2.bad) bw s')):
  ab P r f R w0 (cI (cg tw tl er0 bw s0)) Y n (.inRegion ops (i::rest)::k) l (pre++cg tw tl (ef σ.bad) bw s):=by
 refine ab.mR (h':=cg tw tl (ef σ.bad) bw s++pre) List.perm_append_comm ?_
 refine ab.iH (h:=cg tw tl (ef σ.bad) bw s) (hF:=pre) (fs:=[]) (cs:=[]) (fun _ v h'=>∃s' Γ',v=.int .i64 (res.1:Int)∧h'=cg tw tl (ef res.2.bad) bw s'∧fg tn Γ' res.2 s'∧Γ⊆Γ') ho hw hc hx hd hcf (fun w Y' hS=>?_) (fun w v h' hR2=>?_)
 ·rw [List.nil_append,List.append_nil]
  have hS2:=hS.perm (List.perm_append_comm (l₁:=cg tw tl (ef σ.bad) bw s) (l₂:=pre))
  exact hcall w _ hS2 s hW ((h0.stay hS2).sub (List.Sublist.append (List.Sublist.refl _) hsub))
 obtain ⟨s',Γ',rfl,rfl,hW',hs⟩:=hR2
 exact ab.mR List.perm_append_comm (hk s' Γ' hW' hs)
end
section
variable {P:Program} {tn tw tl:TypeId} {er:Value} {ef:Bool→Value} {bw:Nat} {Γ:List FV} {σ:Sg} {s:Ws}
variable {r:Option Nat} {f:FuncId} {R:Value→World→Prop} {w0:World} {S:List Nat} {Y:List (Nat×Obj)} {n:Nat} {k:List Item} {l:Fl} {ops:Array Oper} {i d:Nat} {ty:TypeId} {pos:String} {aft:Array Edge} {g:Option (Nat×Bool)}
variable {az:Array Operand} {ts:Array TypeId} {cal:Operand} {gf:FuncId} {vs:List Value} {u:Tr} {hb:Hl} {q:Nat} {Dn:List Nat}
theorem CT {pre:Hl} (hs:hb.Sublist (pre++EM tw tl er bw s)) {s':Ws} (e:EM tw tl er bw s'=EM tw tl er bw s):hb.Sublist (pre++cg tw tl er bw s'):=hs.trans (List.Sublist.append (List.Sublist.refl _) (by rw [←e];exact Ad))
theorem aG.iD {pre:Hl} (hW:fg tn Γ σ s) (hs:hb.Sublist (pre++EM tw tl er bw s)) (h1:aB ops Dn=[i]) (ho:ops[i]?=some ⟨some d,.call ⟨.value cal,az,ts⟩,ty,pos,aft,g⟩) (hw:au ops l g=true)
  (hc:aT l cal=some (.func (.func gf) #[] #[])) (hx:dq l az.toList=some vs) (hd:Nat.blt d n=true) (hcf:∀args w,(callFunc gf args).run P w=.ok (.enter gf args) w)
  (hcall:∀w Y',St w0 S w (pre++cg tw tl er bw s) Y'→Cn P gf vs w (fun v w'=>fV tn w w' v (bT u)))
  (hk:∀x p,x.f=bT u→x.Z→fg tn (x::Γ) σ (s.sD p)→aG P r f R w0 S Y n k ops hb q (i::Dn) ((d,x.v)::l) (pre++cg tw tl er bw (s.sD p))):
  aG P r f R w0 S Y n k ops hb (q+1) Dn l (pre++cg tw tl er bw s):=by
 refine aG.call (fun w v w'=>fV tn w w' v (bT u)) h1 ho hw hc hx hd hcf hcall (fun v w w' Y' hS he hO=>?_)
 obtain ⟨ho,hz⟩:=hO
 obtain ⟨q,cap,sp,rfl,hq,ao,hS'⟩:=ak hS he ho
 refine ⟨_,hS'.perm mS,CT hs rfl,?_⟩
 rw [jh]
 refine hk _ _ rfl (fun e=>?_) (hW.add hq gN)
 have:=hz e
 cases q with
 |none=>rfl
 |some b=>cases this
theorem aG.bu {pre hR hR':Hl} {s0:Ws} {er0:Value} {res:Nat×Sg} (h0:iA w0 (cg tw tl er0 bw s0++hR)) (hW:fg tn Γ σ s) (hsub:hR'.Sublist (pre++hR)) (hs:hb.Sublist pre) (h1:aB ops Dn=[i]) (ho:ops[i]?=some ⟨some d,.call ⟨.value cal,az,ts⟩,ty,pos,aft,g⟩) (hw:au ops l g=true)
  (hc:aT l cal=some (.func (.func gf) #[] #[])) (hx:dq l az.toList=some vs) (hd:Nat.blt d n=true) (hcf:∀args w,(callFunc gf args).run P w=.ok (.enter gf args) w)
  (hcall:∀w Y',St w0 (cI (cg tw tl er0 bw s0)) w (pre++cg tw tl (ef σ.bad) bw s) Y'→rC P tn tw tl ef bw Γ σ gf vs w hR' res)
  (hk:∀s' Γ',fg tn Γ' res.2 s'→Γ⊆Γ'→aG P r f R w0 (cI (cg tw tl er0 bw s0)) Y n k ops hb q (i::Dn) ((d,.int .i64 (res.1:Int))::l) (pre++cg tw tl (ef res.2.bad) bw s')):
  aG P r f R w0 (cI (cg tw tl er0 bw s0)) Y n k ops hb (q+1) Dn l (pre++cg tw tl (ef σ.bad) bw s):=by
 refine aG.iH (hC:=cg tw tl (ef σ.bad) bw s) (hF:=pre) (fs:=[]) (cs:=[]) List.perm_append_comm (fun _ v h'=>∃s' Γ',v=.int .i64 (res.1:Int)∧h'=cg tw tl (ef res.2.bad) bw s'∧fg tn Γ' res.2 s'∧Γ⊆Γ') h1 ho hw hc hx hd hcf (fun w Y' hS=>?_) (fun w v h' hR2=>?_)
 ·rw [List.nil_append,List.append_nil]
  have hS2:=hS.perm (List.perm_append_comm (l₁:=cg tw tl (ef σ.bad) bw s) (l₂:=pre))
  exact hcall w _ hS2 s hW ((h0.stay hS2).sub (List.Sublist.append (List.Sublist.refl _) hsub))
 obtain ⟨s',Γ',rfl,rfl,hW',hs'⟩:=hR2
 exact ⟨_,List.perm_append_comm,hs.trans (List.sublist_append_left _ _),hk s' Γ' hW' hs'⟩
theorem rC.of {gf:FuncId} {fn:Func} {c:Code} {args:List Value} {w:World} {hR:Hl} {res:Nat×Sg} (hf:P.funcs[gf]?=some fn) (hb:fn.body=some c) (hn:Nat.ble args.length fn.ntmps=true)
  (hgo:∀s,fg tn Γ σ s→iA w (cg tw tl (ef σ.bad) bw s++hR)→ab P none gf (fun v w'=>∃h',(∃s' Γ',v=.int .i64 (res.1:Int)∧h'=cg tw tl (ef res.2.bad) bw s'∧fg tn Γ' res.2 s'∧Γ⊆Γ')∧St w (cI (cg tw tl (ef σ.bad) bw s)) w' h' []) w (cI (cg tw tl (ef σ.bad) bw s)) [] fn.ntmps [.code c] (td 0 args) (cg tw tl (ef σ.bad) bw s)):
  rC P tn tw tl ef bw Γ σ gf args w hR res:=fun s hW hH=>qE.of (hH.sub (List.sublist_append_left _ _)) hf hb hn (hgo s hW hH)
end
theorem Gy {tn tw tl:TypeId} {ef:Bool→Value} {bw:Nat} {Γ Γ':List FV} {res:Nat×Sg} {s':Ws} {w w':World} {S:List Nat} {pre:Hl} {v:Value} (hv:v=.int .i64 (res.1:Int)) (hW:fg tn Γ' res.2 s') (hg:Γ⊆Γ') (hS:St w S w' (pre++cg tw tl (ef res.2.bad) bw s') []):
  ∃h',(∃s' Γ',v=.int .i64 (res.1:Int)∧h'=cg tw tl (ef res.2.bad) bw s'∧fg tn Γ' res.2 s'∧Γ⊆Γ')∧St w S w' h' []:=⟨_,⟨s',Γ',hv,rfl,hW,hg⟩,hS.dM (List.sublist_append_right _ _)⟩
theorem fg.bad {tn:TypeId} {Γ:List FV} {σ:Sg} {s:Ws} {b:Bool} (h:fg tn Γ σ s):fg tn Γ ⟨σ.ls,b⟩ s:=⟨h.nil,h.cap,h.BB,h.EF,h.ctx,h.DT,h.EC⟩
theorem dR {tn tw tl:TypeId} {ef:Bool→Value} {bw:Nat} {Γ Γ':List FV} {res res':Nat×Sg} {s':Ws} {w w':World} {S:List Nat} {pre:Hl} {v:Value} (he:res=res') (hv:v=.int .i64 (res'.1:Int)) (hW:fg tn Γ' res'.2 s') (hg:Γ⊆Γ') (hS:St w S w' (pre++cg tw tl (ef res'.2.bad) bw s') []):
  ∃h',(∃s' Γ',v=.int .i64 (res.1:Int)∧h'=cg tw tl (ef res.2.bad) bw s'∧fg tn Γ' res.2 s'∧Γ⊆Γ')∧St w S w' h' []:=by subst he;exact Gy hv hW hg hS
structure Gu (S:List Nat) (w:World) (a:Option Addr) (xs:List Int):Prop where
  at_:jI w a xs
  sep:∀b o,a=some ⟨b,o,none⟩→b∉S
theorem Gu.aA {S:List Nat} {w0 w:World} {a:Option Addr} {xs:List Int} (h:Gu S w0 a xs) (e:Ex S w0 w):jI w a xs:=jI.aA h.at_ e h.sep
theorem iA.read {w:World} {h0 hR:Hl} (g:iA w (h0++hR)) {b:Nat} {o:Obj} (hm:(some b,o)∈hR):w.heap[b]?=some o∧b∉cI h0:=by
 refine ⟨(g.own _ (List.mem_append_right _ hm) b rfl).1,fun hb=>?_⟩
 obtain ⟨o',ho⟩:=gw.1 hb
 exact (List.pairwise_append.1 g.apart).2.2 _ ho _ hm b rfl rfl
theorem iA.HK {w:World} {h0 hR:Hl} (g:iA w (h0++hR)) {q:Option Nat} {xs:List Int} {e:TypeId} {sp:List Value} (hm:(q,ob bK e xs sp)∈hR) (hq:q=none→xs=[]):Gu (cI h0) w (q.map (fun b=>⟨b,0,none⟩)) xs:=by
 cases q with
 |none=>rw [hq rfl];exact ⟨Sl.nil _ _,fun b o e=>by cases e⟩
 |some b=>exact ⟨Sl.df (g.read hm).1,fun b' o e=>by cases e;exact (g.read hm).2⟩
theorem fg.put {tn:TypeId} {Γ:List FV} {σ:Sg} {s:Ws} (h:fg tn Γ σ s) {x:FV} (h1:x.sI tn s.H) (h2:x.f.length≤maxLen):fg tn (x::Γ) σ s:=⟨h.nil,h.cap,h.BB,h.EF,fun y hy=>by
  rcases List.mem_cons.1 hy with rfl|hy
  ·exact ⟨h1,h2⟩
  exact h.ctx y hy,fun y hy=>List.mem_cons_of_mem _ (h.DT y hy),h.EC⟩
theorem iA.cQ {w:World} {h:Hl} (g:iA w h) (o:Obj):iA w (h++[(none,o)]):=by
 constructor
 ·intro p hp b hb
  rcases List.mem_append.1 hp with hp|hp
  ·exact g.own p hp b hb
  rw [List.mem_singleton.1 hp] at hb;cases hb
 refine List.pairwise_append.2 ⟨g.apart,List.pairwise_singleton _ _,fun p _ q hq b _ hqb=>?_⟩
 rw [List.mem_singleton.1 hq] at hqb;cases hqb
section
variable {P:Program} {tn tw tl:TypeId} {ef:Bool→Value} {bw:Nat} {Γ:List FV} {σ:Sg} {s:Ws}
variable {r:Option Nat} {f:FuncId} {R:Value→World→Prop} {w0:World} {S:List Nat} {Y:List (Nat×Obj)} {n:Nat} {k:List Item} {l:Fl} {ops:Array Oper} {i d:Nat} {rest:List Nat} {ty:TypeId} {pos:String} {aft:Array Edge} {g:Option (Nat×Bool)}
variable {az:Array Operand} {ts:Array TypeId} {cal:Operand} {gf:FuncId} {vs:List Value}
theorem ab.qu {pre hR':Hl} {res:Nat×Sg} (hW:fg tn Γ σ s) (hsub:hR'.Sublist pre) (ho:ops[i]?=some ⟨some d,.call ⟨.value cal,az,ts⟩,ty,pos,aft,g⟩) (hw:au ops l g=true)
  (hc:aT l cal=some (.func (.func gf) #[] #[])) (hx:dq l az.toList=some vs) (hd:Nat.blt d n=true) (hcf:∀args w,(callFunc gf args).run P w=.ok (.enter gf args) w)
  (hcall:∀w Y',St w0 S w (pre++cg tw tl (ef σ.bad) bw s) Y'→rC P tn tw tl ef bw Γ σ gf vs w hR' res)
  (hk:∀s' Γ',fg tn Γ' res.2 s'→Γ⊆Γ'→ab P r f R w0 S Y n (.inRegion ops rest::k) ((d,.int .i64 (res.1:Int))::l) (pre++cg tw tl (ef res.2.bad) bw s')):
  ab P r f R w0 S Y n (.inRegion ops (i::rest)::k) l (pre++cg tw tl (ef σ.bad) bw s):=by
 refine ab.mR (h':=cg tw tl (ef σ.bad) bw s++pre) List.perm_append_comm ?_
 refine ab.iH (h:=cg tw tl (ef σ.bad) bw s) (hF:=pre) (fs:=[]) (cs:=[]) (fun _ v h'=>∃s' Γ',v=.int .i64 (res.1:Int)∧h'=cg tw tl (ef res.2.bad) bw s'∧fg tn Γ' res.2 s'∧Γ⊆Γ') ho hw hc hx hd hcf (fun w Y' hS=>?_) (fun w v h' hR2=>?_)
 ·rw [List.nil_append,List.append_nil]
  have hS2:=hS.perm (List.perm_append_comm (l₁:=cg tw tl (ef σ.bad) bw s) (l₂:=pre))
  exact hcall w _ hS2 s hW (hS.has.sub (List.Sublist.append (List.Sublist.refl _) hsub))
 obtain ⟨s',Γ',rfl,rfl,hW',hs⟩:=hR2
 exact ab.mR List.perm_append_comm (hk s' Γ' hW' hs)
end
theorem fg.own {tn tw tl:TypeId} {Γ:List FV} {σ:Sg} {s:Ws} {er:Value} {bw:Nat} {w0 w:World} {pre:Hl} {Y:List (Nat×Obj)} (h:fg tn Γ σ s) (hS:St w0 [] w (pre++cg tw tl er bw s) Y):gY tn tl w0 w (cP s.q s.ls.length s.cap) s.ls:=
 ⟨s.q,s.cap,s.sp,s.H,rfl,h.nil,h.cap,(fW.of hS).sub ((List.sublist_cons_self _ _).trans (List.sublist_append_right pre _)),fun x hx=>h.ctx _ (h.DT x hx)⟩
theorem fg.start {tn:TypeId}:fg tn [] ⟨[],false⟩ ⟨none,0,[],[],[]⟩:=by
 refine ⟨fun _=>⟨rfl,rfl⟩,rfl,rfl,Nat.zero_le _,?_,?_,?_⟩<;>(intro _ h;cases h)
end Go.Proofs.Wit
namespace Go.Proofs.Wit
open Go Go.RowKit
/-! formulas in negation normal form, of any length -/
structure qz (b:List NV):Prop where
  jF:aV b=0
  Cd:∀n∈b,eF b n
section
variable {b:List NV}
theorem qz.x (h:qz b) {i:Nat} (hi:i<b.length) (hX:4≤(nd b i).op):0≤(nd b i).x∧(nd b i).x<i:=by
 rw [dH hi] at*
 have ho:=(aD.1 h.jF).nodes i hi
 have h1:=h.Cd _ (List.getElem_mem hi)
 have hu:cD b[i].op=true:=by unfold cD;unfold eF at h1;simp;omega
 have:=ho.x hu;omega
theorem qz.y (h:qz b) {i:Nat} (hi:i<b.length) (hX:(nd b i).op=5∨(nd b i).op=6):0≤(nd b i).y∧(nd b i).y<i:=by
 rw [dH hi] at*
 have ho:=(aD.1 h.jF).nodes i hi
 have hu:cn b[i].op=true:=by unfold cn;rcases hX with e|e<;>rw [e]<;>rfl
 have:=ho.y hu;omega
theorem qz.node (h:qz b) {i:Nat} (hi:i<b.length):((nd b i).op≤3∧aa b i=.leaf (nd b i).op (nd b i).i (nd b i).e (nd b i).g)∨(((nd b i).op=4∨(nd b i).op=9∨(nd b i).op=10)∧aa b i=.un (nd b i).op (nd b i).i (nd b i).e (nd b i).g (aa b (nd b i).x.toNat))∨(((nd b i).op=5∨(nd b i).op=6)∧aa b i=.bin (nd b i).op (nd b i).i (nd b i).e (nd b i).g (aa b (nd b i).x.toNat) (aa b (nd b i).y.toNat)):=by
 rw [dH hi]
 have hO:=(aD.1 h.jF).nodes
 have hn:=h.Cd _ (List.getElem_mem hi)
 unfold eF at hn
 have hX:cD b[i].op=true↔4≤b[i].op:=by
  unfold cD;simp;omega
 have hY:cn b[i].op=true↔b[i].op=5∨b[i].op=6:=by
  unfold cn;simp;omega
 rcases dE hi hO with ⟨h1,h2⟩|⟨h1,h2,h3⟩|⟨h1,h2⟩
 ·refine .inl ⟨?_,h2⟩
  have:¬4≤b[i].op:=fun e=>by rw [hX.2 e] at h1;cases h1
  omega
 ·refine .inr (.inl ⟨?_,h3⟩)
  have:=hX.1 h1
  have:¬(b[i].op=5∨b[i].op=6):=fun e=>by rw [hY.2 e] at h2;cases h2
  omega
 exact .inr (.inr ⟨hY.1 h1,h2⟩)
theorem qz.nf (h:qz b):∀(i:Nat),i<b.length→og (aa b i):=by
 intro i
 induction i using Nat.strongRecOn with
 |_ i ih=>
 intro hi
 rcases h.node hi with ⟨h1,h2⟩|⟨h1,h2⟩|⟨h1,h2⟩
 ·rw [h2];exact h1
 ·have hx:=h.x hi (by omega)
  rw [h2]
  by_cases h4:(nd b i).op=4
  ·have hn:=h.Cd _ (List.getElem_mem hi)
   unfold eF at hn
   rw [←dH hi] at hn
   have h3:(nd b (nd b i).x).op=3:=by omega
   obtain ⟨k,hk⟩:∃k:Nat,(nd b i).x=k:=⟨(nd b i).x.toNat,by omega⟩
   rw [hk] at h3⊢
   have hkl:k<b.length:=by omega
   rcases h.node hkl with ⟨g1,g2⟩|⟨g1,g2⟩|⟨g1,g2⟩
   ·rw [Int.toNat_natCast,g2,h3]
    exact .inl ⟨h4,_,_,_,rfl⟩
   ·omega
   omega
  exact .inr ⟨by omega,ih _ (by omega) (by omega)⟩
 have hx:=h.x hi (by omega)
 have hy:=h.y hi h1
 rw [h2]
 exact ⟨h1,ih _ (by omega) (by omega),ih _ (by omega) (by omega)⟩
theorem qz.top (h:qz b):og (bh b):=by
 have hp:=(aD.1 h.jF).pos
 rw [dc]
 exact h.nf _ (by omega)
end
open Classical in
noncomputable def rk (ei:Bool) (f:List NV):Int:=if aV f≠0 then aV f else if ¬∀n∈aj f,eF (aj f) n then 10 else if (aI af ei (bh f) ⟨[],false⟩).2.bad=true then 8 else 0
noncomputable def Dx (ei:Bool) (f:List NV):List LD:=(aI af ei (bh f) ⟨[],false⟩).2.ls.map (fun x=>x.v.d)
end Go.Proofs.Wit
namespace Go.Proofs.Wit
open Go Go.RowKit
/-! a step that is written, in memory -/
structure SP where
  bw:Nat
  bs:Nat
  l:Int
  A:Option Addr
  cA:Nat
  b:List NV
  B:Option Addr
  cB:Nat
  tl:List SV
  x:SV
  full:ay
  Z:Option Addr
  cZ:Nat
  last:List Nat
def SP.cs (p:SP):Array Value:=#[.pointer (some ⟨p.bw,0,none⟩),.int .i64 p.l,.slice p.A p.b.length p.cA,.slice p.B p.tl.length p.cB,U p.x.d.set,.int .i64 p.x.d.av,.int .i64 p.x.d.on,.int .i64 p.x.d.e,.slice p.x.fa p.x.d.fr.length p.x.fc,U p.full,.slice p.Z p.last.length p.cZ]
structure SP.At (p:SP) (t:TypeId) (w:World):Prop where
  df:w.heap[p.bs]?=some (.cells p.cs t (0,0))
  fa:FA w p.A p.b
  sa:Sl w p.B (p.tl.flatMap SV.cells)
  EB:jI w p.x.fa p.x.d.fr
  Gq:jI w p.Z (p.last.map (fun j:Nat=>(j:Int)))
structure SP.R (p:SP) (t:TypeId) (S:List Nat) (w:World):Prop where
  at_:p.At t w
  s1:p.bs∉S
  s2:∀b o,p.A=some ⟨b,o,none⟩→b∉S
  s3:∀b o,p.B=some ⟨b,o,none⟩→b∉S
  s4:∀b o,p.x.fa=some ⟨b,o,none⟩→b∉S
  s5:∀b o,p.Z=some ⟨b,o,none⟩→b∉S
theorem SP.R.ex {p:SP} {t:TypeId} {S:List Nat} {w w':World} (h:p.R t S w) (e:Ex S w w'):p.At t w':=by
 refine ⟨?_,h.at_.fa.aA e h.s2,Sl.ex h.at_.sa e h.s3,jI.aA h.at_.EB e h.s4,jI.aA h.at_.Gq e h.s5⟩
 have h1:=h.at_.df
 rw [e.block p.bs (Array.getElem?_eq_some_iff.1 h1).1 h.s1];exact h1
theorem SP.At.aA {p:SP} {t:TypeId} {w w':World} (h:p.At t w) (e:Ex [] w w'):p.At t w':=⟨e.gG h.df,h.fa.aA e,Sl.ex h.sa e (by simp),h.EB.aA e,h.Gq.aA e⟩
structure SP.In (p:SP) (t tn ts ti:TypeId) (hR:Hl):Prop where
  df:(some p.bs,.cells p.cs t (0,0))∈hR
  fa:∃q sp,(q,eO tn p.b sp)∈hR∧p.A=q.map (fun b=>⟨b,0,none⟩)∧(q=none→p.b.length=0)
  sa:∃q sp,(q,lk ts p.tl sp)∈hR∧p.B=q.map (fun b=>⟨b,0,none⟩)∧(q=none→p.tl.length=0)
  EB:∃q sp,(q,ob bK ti p.x.d.fr sp)∈hR∧p.x.fa=q.map (fun b=>⟨b,0,none⟩)∧(q=none→p.x.d.fr.length=0)
  Gq:∃q sp,(q,ob bK ti (p.last.map (fun j:Nat=>(j:Int))) sp)∈hR∧p.Z=q.map (fun b=>⟨b,0,none⟩)∧(q=none→p.last.length=0)
theorem SP.In.mono {p:SP} {t tn ts ti:TypeId} {hR hR':Hl} (h:p.In t tn ts ti hR) (hs:hR⊆hR'):p.In t tn ts ti hR':=by
 obtain ⟨h1,⟨q2,s2,a2,b2⟩,⟨q3,s3,a3,b3⟩,⟨q4,s4,a4,b4⟩,⟨q5,s5,a5,b5⟩⟩:=h
 exact ⟨hs h1,⟨q2,s2,hs a2,b2⟩,⟨q3,s3,hs a3,b3⟩,⟨q4,s4,hs a4,b4⟩,⟨q5,s5,hs a5,b5⟩⟩
theorem SP.In.r {p:SP} {t tn ts ti:TypeId} {hR h0:Hl} {w:World} (h:p.In t tn ts ti hR) (g:iA w (h0++hR)):p.R t (cI h0) w:=by
 obtain ⟨h1,⟨q2,s2,a2,b2,c2⟩,⟨q3,s3,a3,b3,c3⟩,⟨q4,s4,a4,b4,c4⟩,⟨q5,s5,a5,b5,c5⟩⟩:=h
 obtain ⟨k1,k2⟩:=g.read h1
 have hsep:∀{a:Option Addr} {q:Option Nat} {o':Obj},(q,o')∈hR→a=q.map (fun b=>(⟨b,0,none⟩:Addr))→∀b o,a=some ⟨b,o,none⟩→b∉cI h0:=fun hm e b o e2=>by
  rename_i a q o'
  subst e
  cases q with
  |none=>cases e2
  |some b'=>cases e2;exact (g.read hm).2
 refine ⟨⟨k1,?_,?_,?_,?_⟩,k2,hsep a2 b2,hsep a3 b3,hsep a4 b4,hsep a5 b5⟩
 ·rw [b2]
  cases q2 with
  |none=>rw [List.eq_nil_of_length_eq_zero (c2 rfl)];exact ⟨Sl.nil _ _⟩
  |some b=>exact ⟨Sl.df (g.read a2).1⟩
 ·rw [b3]
  cases q3 with
  |none=>rw [List.eq_nil_of_length_eq_zero (c3 rfl)];exact Sl.nil _ _
  |some b=>exact Sl.df (g.read a3).1
 ·rw [b4]
  cases q4 with
  |none=>rw [List.eq_nil_of_length_eq_zero (c4 rfl)];exact Sl.nil _ _
  |some b=>exact Sl.df (g.read a4).1
 rw [b5]
 cases q5 with
 |none=>rw [List.eq_nil_of_length_eq_zero (c5 rfl)];exact Sl.nil _ _
 |some b=>exact Sl.df (g.read a5).1
theorem SP.At.part {p:SP} {t:TypeId} {w:World} (h:p.At t w) {o:Nat} {cs:List Value} (hc:∀j,j<cs.length→p.cs[o+j]?=cs[j]?):∀j v,cs[j]?=some v→w.cell? ((⟨p.bs,o,none⟩:Addr).add j)=some v:=fun j v hv=>by
 have hj:=(List.getElem?_eq_some_iff.1 hv).1
 have e1:(⟨p.bs,o,none⟩:Addr).add j=⟨p.bs,o+j,none⟩:=by
  unfold Addr.add;split
  ·rename_i h0;rw [h0];rfl
  rfl
 rw [e1]
 exact Ex.cell (Ex.refl _ _) h.df (by rw [hc j hj];exact hv)
structure Gw (S:List Nat) (w:World) (a:Option Addr) (xs:List Value):Prop where
  at_:Sl w a xs
  sep:∀b o,a=some ⟨b,o,none⟩→b∉S
theorem Gw.aA {S:List Nat} {w0 w:World} {a:Option Addr} {xs:List Value} (h:Gw S w0 a xs) (e:Ex S w0 w):Gw S w a xs:=⟨Sl.ex h.at_ e h.sep,h.sep⟩
theorem SP.R.HL {p:SP} {t:TypeId} {S:List Nat} {w:World} (h:p.R t S w):Gw S w p.B (p.tl.flatMap SV.cells):=⟨h.at_.sa,h.s3⟩
theorem SP.R.EG {p:SP} {t:TypeId} {S:List Nat} {w:World} (h:p.R t S w):CB S w p.A p.b:=⟨h.at_.fa.at_,h.s2⟩
def SP.ag (p:SP):Int:=if p.x.d.av=7 then p.x.d.on else (nd p.b p.x.d.on).i
def SP.S0 (p:SP):ay:=de (dW p.tl) (p.x.d.fr.getD 0 0)
def SP.own (p:SP):List Nat:=if p.x.d.av=6 then dV (p.S0 &&& ~~~ bW (nd p.b p.x.d.on).x) else dV p.S0
def SP.ns (p:SP):List Nat:=if p.x.d.av=6 then p.own else p.own.dropLast
def SP.tg (p:SP):Nat:=if p.x.d.av=6 then (nd p.b p.x.d.on).x.toNat else p.own.getLastD 0
def SP.line (p:SP):Nat:=p.last.getD (p.x.d.fr.getD 0 0).toNat 0
structure SP.Ok (p:SP) (k:Nat):Prop where
  base:aW p.b
  full:jt p.b p.full
  lV:ej p.l p.b (dW p.tl) k p.x.d
  Il:k<p.tl.length
  Fx:p.last.length=k
  uk:∀j:Nat,j<p.tl.length→jt p.b (de (dW p.tl) (j:Int))
  ne:∀j:Nat,j<p.tl.length→dV (de (dW p.tl) (j:Int))≠[]
  Iu:p.x.d.av=6∨p.x.d.av=7→∀n∈p.own,fy p.b p.full p.ag n=n→(nd p.b n).op=9∨(nd p.b n).op=10
  Ix:p.x.d.av=6∨p.x.d.av=7→0≤p.ag∧p.ag<4
noncomputable def Fv (p:SP) (G:Tr) (σ:Sg):Nat×Sg:=uA af p.b G p.full p.ag p.ns p.tg p.own (decide (p.x.d.av=6)) p.line σ
theorem AO {s u:ay} {n:Nat} (h:n∈dV (s &&& u)):n∈dV s:=cX.2 (by
 have:=cX.1 h
 rw [BitVec.getLsbD_and,Bool.and_eq_true] at this;exact this.1)
theorem SP.vu {p:SP} {n:Nat} (h:n∈p.own):n∈dV p.S0:=by
 unfold SP.own at h
 split at h
 ·exact AO h
 exact h
theorem SP.De {p:SP} {n:Nat} (h:n∈p.ns):n∈p.own:=by
 unfold SP.ns at h
 split at h
 ·exact h
 exact (List.dropLast_sublist _).subset h
theorem AP {s:ay}:(dV s).length≤64:=by
 have:=List.length_filter_le (fun i=>s.getLsbD i) (List.range 64)
 simpa [dV] using this
theorem SP.AT {p:SP}:p.own.length≤64:=by unfold SP.own;split<;>exact AP
theorem SP.AX {p:SP}:p.own.take p.ns.length=p.ns:=by
 unfold SP.ns;split
 ·exact List.take_length
 rw [List.length_dropLast,List.dropLast_eq_take]
theorem SP.Fi {p:SP}:p.ns.length≤p.own.length:=by
 unfold SP.ns;split
 ·exact Nat.le_refl _
 rw [List.length_dropLast];omega
section
variable {P:Program} {tn tw tl:TypeId} {er:Value} {bw:Nat} {Γ:List FV} {σ:Sg} {s:Ws}
variable {r:Option Nat} {f:FuncId} {R:Value→World→Prop} {w0:World} {S:List Nat} {Y:List (Nat×Obj)} {n:Nat} {k:List Item} {l:Fl} {ops:Array Oper} {i d:Nat} {rest:List Nat} {ty:TypeId} {pos:String} {aft:Array Edge} {g:Option (Nat×Bool)}
variable {az:Array Operand} {ts:Array TypeId} {cal:Operand} {gf:FuncId} {vs:List Value} {u:Tr}
theorem ab.zZ {pre:Hl} {y:FV} (hW:fg tn Γ σ s) (hy:y∈Γ) (hyz:y.Z) (ho:ops[i]?=some ⟨some d,.call ⟨.value cal,az,ts⟩,ty,pos,aft,g⟩) (hw:au ops l g=true)
  (hc:aT l cal=some (.func (.func gf) #[] #[])) (hx:dq l az.toList=some vs) (hd:Nat.blt d n=true) (hcf:∀args w,(callFunc gf args).run P w=.ok (.enter gf args) w)
  (hcall:∀w Y',St w0 S w (pre++cg tw tl er bw s) Y'→Cn P gf vs w (fun v w'=>(v=y.v∧y.f=bT u)∨fV tn w w' v (bT u)))
  (hk:∀x s' Γ',x∈Γ'→Γ⊆Γ'→x.f=bT u→x.Z→fg tn Γ' σ s'→ab P r f R w0 S Y n (.inRegion ops rest::k) ((d,x.v)::l) (pre++cg tw tl er bw s')):
  ab P r f R w0 S Y n (.inRegion ops (i::rest)::k) l (pre++cg tw tl er bw s):=by
 refine ab.nm (fun w v w'=>(v=y.v∧y.f=bT u)∨fV tn w w' v (bT u)) ho hw hc hx hd hcf hcall (fun v w w' Y' hS he hO=>?_)
 rcases hO with ⟨rfl,hf⟩|⟨ho,hz⟩
 ·exact ⟨_,hS.later he,hk y s Γ hy (fun _ h=>h) hf hyz hW⟩
 obtain ⟨q,cap,sp,rfl,hq,ao,hS'⟩:=ak hS he ho
 refine ⟨_,hS'.perm mS,?_⟩
 rw [jh]
 refine hk _ _ _ (List.mem_cons_self ..) (fun _ h=>List.mem_cons_of_mem _ h) rfl (fun e=>?_) (hW.add hq gN)
 have:=hz e
 cases q with
 |none=>rfl
 |some b=>cases this
end
section
variable {P:Program} {tn tw tl:TypeId} {er:Value} {ef:Bool→Value} {bw:Nat} {Γ:List FV} {σ:Sg} {s:Ws}
variable {r:Option Nat} {f:FuncId} {R:Value→World→Prop} {w0:World} {S:List Nat} {Y:List (Nat×Obj)} {n:Nat} {k:List Item} {l:Fl} {ops:Array Oper} {i d:Nat} {ty:TypeId} {pos:String} {aft:Array Edge} {g:Option (Nat×Bool)}
variable {az:Array Operand} {ts:Array TypeId} {cal:Operand} {gf:FuncId} {vs:List Value} {u:Tr} {hb:Hl} {q:Nat} {Dn:List Nat} {h:Hl}
theorem aG.two {i j d e:Nat} (h1:aB ops Dn=[i,j]) (hi:dn P w0 S n h ops i l d (fun v h'=>hb.Sublist h'∧aG P r f R w0 S Y n k ops hb q (i::Dn) ((d,v)::l) h')) (hd:Nat.blt d n=true) (hj:dn P w0 S n h ops j l e (fun v h'=>hb.Sublist h'∧aG P r f R w0 S Y n k ops hb q (j::Dn) ((e,v)::l) h')) (he:Nat.blt e n=true):aG P r f R w0 S Y n k ops hb (q+1) Dn l h:=by
 intro t hF
 rw [Dt]
 refine .inr ⟨by rw [h1];simp,fun m hm=>?_⟩
 rw [h1] at hm
 simp only [List.mem_cons,List.not_mem_nil,or_false] at hm
 rcases hm with rfl|rfl
 ·exact fS.of hi hF (fun v h' ⟨e1,e2⟩=>⟨e1,e2 _ (hF.put v hd)⟩)
 exact fS.of hj hF (fun v h' ⟨e1,e2⟩=>⟨e1,e2 _ (hF.put v he)⟩)
theorem dn.zZ {K:Value→Hl→Prop} {pre:Hl} {y:FV} (hW:fg tn Γ σ s) (hy:y∈Γ) (hyz:y.Z) (ho:ops[i]?=some ⟨some d,.call ⟨.value cal,az,ts⟩,ty,pos,aft,g⟩) (hw:au ops l g=true)
  (hc:aT l cal=some (.func (.func gf) #[] #[])) (hx:dq l az.toList=some vs) (hd:Nat.blt d n=true) (hcf:∀args w,(callFunc gf args).run P w=.ok (.enter gf args) w)
  (hcall:∀w Y',St w0 S w (pre++cg tw tl er bw s) Y'→Cn P gf vs w (fun v w'=>(v=y.v∧y.f=bT u)∨fV tn w w' v (bT u)))
  (hk:∀x s' Γ',x∈Γ'→Γ⊆Γ'→x.f=bT u→x.Z→fg tn Γ' σ s'→K x.v (pre++cg tw tl er bw s')):dn P w0 S n (pre++cg tw tl er bw s) ops i l d K:=by
 refine dn.call (fun w v w'=>(v=y.v∧y.f=bT u)∨fV tn w w' v (bT u)) ho hw hc hx hd hcf hcall (fun v w w' Y' hS he hO=>?_)
 rcases hO with ⟨rfl,hf⟩|⟨ho,hz⟩
 ·exact ⟨_,hS.later he,hk y s Γ hy (fun _ h=>h) hf hyz hW⟩
 obtain ⟨q,cap,sp,rfl,hq,ao,hS'⟩:=ak hS he ho
 refine ⟨_,hS'.perm mS,?_⟩
 rw [jh]
 refine hk _ _ _ (List.mem_cons_self ..) (fun _ h=>List.mem_cons_of_mem _ h) rfl (fun e=>?_) (hW.add hq gN)
 have:=hz e
 cases q with
 |none=>rfl
 |some b=>cases this
theorem dn.iD {K:Value→Hl→Prop} {pre:Hl} (hW:fg tn Γ σ s) (ho:ops[i]?=some ⟨some d,.call ⟨.value cal,az,ts⟩,ty,pos,aft,g⟩) (hw:au ops l g=true)
  (hc:aT l cal=some (.func (.func gf) #[] #[])) (hx:dq l az.toList=some vs) (hd:Nat.blt d n=true) (hcf:∀args w,(callFunc gf args).run P w=.ok (.enter gf args) w)
  (hcall:∀w Y',St w0 S w (pre++cg tw tl er bw s) Y'→Cn P gf vs w (fun v w'=>fV tn w w' v (bT u)))
  (hk:∀x s',x.f=bT u→x.Z→fg tn (x::Γ) σ s'→K x.v (pre++cg tw tl er bw s')):dn P w0 S n (pre++cg tw tl er bw s) ops i l d K:=by
 refine dn.call (fun w v w'=>fV tn w w' v (bT u)) ho hw hc hx hd hcf hcall (fun v w w' Y' hS he hO=>?_)
 obtain ⟨ho,hz⟩:=hO
 obtain ⟨q,cap,sp,rfl,hq,ao,hS'⟩:=ak hS he ho
 refine ⟨_,hS'.perm mS,?_⟩
 rw [jh]
 refine hk _ _ rfl (fun e=>?_) (hW.add hq gN)
 have:=hz e
 cases q with
 |none=>rfl
 |some b=>cases this
theorem dn.uy {K:Value→Hl→Prop} {pre:Hl} (hW:fg tn Γ σ s) (ho:ops[i]?=some ⟨some d,.call ⟨.value cal,az,ts⟩,ty,pos,aft,g⟩) (hw:au ops l g=true)
  (hc:aT l cal=some (.func (.func gf) #[] #[])) (hx:dq l az.toList=some vs) (hd:Nat.blt d n=true) (hcf:∀args w,(callFunc gf args).run P w=.ok (.enter gf args) w)
  (hcall:∀w Y',St w0 S w (pre++cg tw tl er bw s) Y'→Cn P gf vs w (fun v w'=>aH tn w w' v (bT u)))
  (hk:∀x s',x.f=bT u→fg tn (x::Γ) σ s'→K x.v (pre++cg tw tl er bw s')):dn P w0 S n (pre++cg tw tl er bw s) ops i l d K:=by
 refine dn.call (fun w v w'=>aH tn w w' v (bT u)) ho hw hc hx hd hcf hcall (fun v w w' Y' hS he hO=>?_)
 obtain ⟨q,cap,sp,rfl,hq,ao,hS'⟩:=ak hS he hO
 refine ⟨_,hS'.perm mS,?_⟩
 rw [jh]
 exact hk _ _ rfl (hW.add hq gN)
theorem dn.bu {K:Value→Hl→Prop} {pre hR hR':Hl} {s0:Ws} {er0:Value} {res:Nat×Sg} (h0:iA w0 (cg tw tl er0 bw s0++hR)) (hW:fg tn Γ σ s) (hsub:hR'.Sublist (pre++hR)) (ho:ops[i]?=some ⟨some d,.call ⟨.value cal,az,ts⟩,ty,pos,aft,g⟩) (hw:au ops l g=true)
  (hc:aT l cal=some (.func (.func gf) #[] #[])) (hx:dq l az.toList=some vs) (hd:Nat.blt d n=true) (hcf:∀args w,(callFunc gf args).run P w=.ok (.enter gf args) w)
  (hcall:∀w Y',St w0 (cI (cg tw tl er0 bw s0)) w (pre++cg tw tl (ef σ.bad) bw s) Y'→rC P tn tw tl ef bw Γ σ gf vs w hR' res)
  (hk:∀s' Γ',fg tn Γ' res.2 s'→Γ⊆Γ'→K (.int .i64 (res.1:Int)) (pre++cg tw tl (ef res.2.bad) bw s')):dn P w0 (cI (cg tw tl er0 bw s0)) n (pre++cg tw tl (ef σ.bad) bw s) ops i l d K:=by
 have hp:(pre++cg tw tl (ef σ.bad) bw s).Perm (cg tw tl (ef σ.bad) bw s++pre):=List.perm_append_comm
 refine ⟨_,ho,rfl,rfl,rfl,hd,.inl ⟨hw,fun t w Ds Y' hF' hS=>.inr ⟨gf,vs.toArray,fun v w'=>∃h',(∃s' Γ',v=.int .i64 (res.1:Int)∧h'=cg tw tl (ef res.2.bad) bw s'∧fg tn Γ' res.2 s'∧Γ⊆Γ')∧St w (cI (cg tw tl (ef σ.bad) bw s)) w' h' [],?_,?_,fun v w' ⟨h',h1,h2⟩=>?_⟩⟩⟩
 ·have e1:=fZ (P:=P) (ty:=ty) (ts:=ts) (Ds:=Ds) (w:=w) (first:=#[]) (captured:=#[]) hF' hc hx
  simp only [execOp,Sem.run_bind,e1,Result.andThen_ok,invoke,hcf]
  simp
 ·have:=hcall w Y' hS s hW ((h0.stay hS).sub (List.Sublist.append (List.Sublist.refl _) hsub))
  exact Calls.mono this (fun e w' ⟨v,h',e1,e2,e3⟩=>⟨v,e1,h',e2,e3⟩)
 obtain ⟨s',Γ',rfl,rfl,hW',hs'⟩:=h1
 exact ⟨_,((hS.perm hp).frame h2).perm List.perm_append_comm,hk s' Γ' hW' hs'⟩
end
theorem vp {w:World} {a:Option Addr} {xs:List Value} (h:Sl w a xs) (n:Nat):Sl w a (xs.take n):=by
 refine ⟨fun hp=>h.isSome (by rw [List.length_take] at hp;omega),fun j hj=>?_⟩
 rw [List.length_take] at hj
 rw [h.cell j (by omega)]
 simp [List.getD_eq_getElem?_getD,show j<n by omega]
end Go.Proofs.Wit
namespace Go.Proofs.Wit
open Go Go.RowKit
/-! the steps of a trimmed refutation, as they are written -/
section
variable {l:Int} {b:List NV} {L:List SD}
theorem zx (hb:aW b) {s:ay} {a:Int} {n:Nat} (hn:(lE l b s a).getLsbD n=true) (he:fy b s a n=n):(nd b n).op=9∨(nd b n).op=10:=by
 obtain ⟨z,_,h⟩:=qm hb hn he
 obtain ⟨i,h1,_⟩:=(kh hb).1 hn
 have hnb:n<b.length:=by
  rcases h with ⟨h,_⟩|⟨h,_⟩
  all_goals
   refine Classical.byContradiction fun e=>?_
   have:aa b n=aa b n:=rfl
   obtain ⟨i,h1,h2,h3,h4⟩:=(kh hb).1 hn
   rcases h4 with ⟨h4,h5⟩|⟨h4,_⟩
   ·have:=hb.x h1 (by omega);omega
   omega
 rcases hb.node hnb with ⟨g1,g2⟩|⟨g1,g2⟩|⟨g1,g2⟩
 ·rcases h with ⟨h,_⟩|⟨h,_⟩<;>rw [g2] at h<;>cases h
 ·rcases h with ⟨h,_⟩|⟨h,_⟩<;>rw [g2] at h<;>injection h with h1<;>omega
 rcases h with ⟨h,_⟩|⟨h,_⟩<;>rw [g2] at h<;>cases h
theorem gm.GD (h:gm l b L) {p:SP} {q:Nat} (e1:p.l=l) (e2:p.b=b) (e3:dW p.tl=dk b L) (hq:q<p.tl.length) (e4:p.x=p.tl[q]) (e5:p.full=(cM L L.length).getD q 0#64) (e6:p.last.length=q):p.Ok q:=by
 have hb:=h.base
 have ht:=h.tr
 have htl:p.tl.length=(dk b L).length:=by rw [←e3,dg]
 have hqt:q<(dk b L).length:=by omega
 have hxd:p.x.d=(dk b L)[q]:=by
  rw [e4]
  have:(dW p.tl)[q]'(by rw [dg];exact hq)=p.tl[q].d:=jO hq
  rw [←this];simp only [e3]
 obtain ⟨k,hk,hn,hkq,htq⟩:=rK hqt
 have hfull:p.full=L[k].set:=by rw [e5,List.getD_eq_getElem?_getD,←hkq,rZ hn (Nat.le_refl _) hk hk];rfl
 have hcor:=ht.lV q hqt
 rw [←hxd] at hcor htq
 have hru:p.x.d.av=L[k].av:=by rw [htq];rfl
 have hon:p.x.d.on=L[k].on:=by rw [htq];rfl
 have hfr:p.x.d.fr=L[k].fr.map (fun j=>((bJ (dG L) j.toNat:Nat):Int)):=by rw [htq];rfl
 have hS0:∀j:Nat,L[k].fr=[(j:Int)]→p.S0=oQ b L j:=fun j hj=>by
  have hm:(j:Int)∈L[k].fr:=by rw [hj];simp
  unfold SP.S0
  rw [hfr,hj,e3]
  exact rM (by have:=(h.pre hk hn hm).2.1;omega) (h.pre hk hn hm).1
 have ml:=h.EY hk
 have hag9:∀{o:Nat},o<b.length→(nd b o).op=10→0≤(nd b o).i∧(nd b o).i<4:=fun {o} ho h2=>by
  have hok:=hb.ok ho
  rcases hb.node ho with ⟨g1,g2⟩|⟨g1,g2⟩|⟨g1,g2⟩
  ·omega
  ·rw [g2] at hok;exact (mV hok (by omega)).1
  omega
 refine ⟨e2 ▸ hb,?_,?_,hq,e6,fun j hj=>?_,fun j hj=>?_,fun h67 n hno hsn=>?_,fun h67=>?_⟩
 ·rw [hfull,e2];exact (h.lV k hk).1
 ·rw [e1,e2,e3];exact hcor
 ·rw [e3,e2,eM (by omega)];exact (ht.lV j (by omega)).1
 ·obtain ⟨n,h1,_⟩:=ht.y7 j (by omega)
  have h2:=ht.sub j (by omega) n h1
  rw [e3,eM (by omega)]
  exact fun e=>by have:=cX.2 h2;rw [e] at this;cases this
 ·rw [e2] at hsn⊢
  have hns:=SP.vu hno
  cases ml with
  |Cp o g1=>omega
  |neg o e g1=>omega
  |and o j g1=>omega
  |or o j i g1=>omega
  |cut o e j i g1=>omega
  |t o j g1=>omega
  |k o j g1 g2 g3 g4 g5 g6 g7 g8 g9 g10=>
   have hag:p.ag=(nd b o).i:=by unfold SP.ag;rw [if_neg (by omega),e2,hon,g5]
   rw [hS0 j g3] at hns
   have hnx:(n:Int)≠(nd b o).x:=fun e=>by
    have hx:=hb.x g6 (by omega)
    unfold SP.own at hno
    rw [if_pos (by omega),cX,gv,e2,hon,g5,nZ (by have:=hb.len;omega)] at hno
    exact hno.2 e
   have:=g9 n (by
    have hm:(j:Int)∈L[k].fr:=by rw [g3];simp
    have:=(h.pre hk hn hm).2.1
    rw [eM (by omega)];exact h.sub j (by omega) n (cX.1 hns))
   rw [hag,hfull] at hsn
   exact zx hb (this.resolve_right hnx) hsn
  |d j g1 g2 g3 g4 g5 g6 g7 g8=>
   have hag:p.ag=L[k].on:=by unfold SP.ag;rw [if_pos (by omega),hon]
   rw [hS0 j g4] at hns
   rw [hag,hfull] at hsn
   exact zx hb (g7 n (by
    have hm:(j:Int)∈L[k].fr:=by rw [g4];simp
    have:=(h.pre hk hn hm).2.1
    rw [eM (by omega)];exact h.sub j (by omega) n (cX.1 hns))) hsn
 cases ml with
 |Cp o g1=>omega
 |neg o e g1=>omega
 |and o j g1=>omega
 |or o j i g1=>omega
 |cut o e j i g1=>omega
 |t o j g1=>omega
 |k o j g1 g2 g3 g4 g5 g6 g7 g8 g9 g10=>
  unfold SP.ag;rw [if_neg (by omega),e2,hon,g5]
  exact hag9 g6 g8
 |d j g1 g2 g3 g4 g5 g6 g7 g8=>
  unfold SP.ag;rw [if_pos (by omega),hon];exact g6
theorem sY {T:Tr→Prop} {tl:List SD} {fl:List ay} {q:Nat}:∀{r:Nat},q≤r→r≤tl.length→(aS T b tl fl q).2.Le (aS T b tl fl r).2
 |0,h,_=>by rw [show q=0 by omega];exact Sg.Le.refl _
 |r+1,h,h2=>by
  by_cases e:q=r+1
  ·rw [e];exact Sg.Le.refl _
  refine (sY (r:=r) (by omega) (by omega)).trans ?_
  rw [eN (by omega)];exact sQ
theorem AQ {T:Tr→Prop}:(aS T b (dk b L) (cM L L.length) (dk b L).length).2.Le (gF T b L).2:=by
 unfold gF;dsimp only
 split
 ·exact Sg.Le.refl _
 exact cY
open Classical in
noncomputable def C6 (l:Int) (b:List NV) (L:List SD):Int:=if nJ l b L≠0 then nJ l b L else if (gF af b L).2.bad=true then 8 else 0
noncomputable def Gn (b:List NV) (L:List SD):List LD:=(gF af b L).2.ls.map (fun x=>x.v.d)
end
section
variable {P:Program} {tn tw tl:TypeId} {ef:Bool→Value} {bw:Nat} {Γ:List FV} {σ:Sg} {s:Ws}
variable {r:Option Nat} {f:FuncId} {R:Value→World→Prop} {w0:World} {S:List Nat} {Y:List (Nat×Obj)} {n:Nat} {k:List Item} {l:Fl} {ops:Array Oper} {i d:Nat} {rest:List Nat} {ty:TypeId} {pos:String} {aft:Array Edge} {g:Option (Nat×Bool)}
variable {az:Array Operand} {ts:Array TypeId} {cal:Operand} {gf:FuncId} {vs:List Value}
theorem Ca {pre H:Hl} {er:Value}:(pre++(cg tw tl er bw s++H)).Perm ((pre++H)++cg tw tl er bw s):=by
 rw [List.append_assoc]
 exact List.Perm.append_left pre List.perm_append_comm
theorem ab.D5 {pre H hR':Hl} {res:Nat×Sg} (hW:fg tn Γ σ s) (hsub:hR'.Sublist (pre++H)) (ho:ops[i]?=some ⟨some d,.call ⟨.value cal,az,ts⟩,ty,pos,aft,g⟩) (hw:au ops l g=true)
  (hc:aT l cal=some (.func (.func gf) #[] #[])) (hx:dq l az.toList=some vs) (hd:Nat.blt d n=true) (hcf:∀args w,(callFunc gf args).run P w=.ok (.enter gf args) w)
  (hcall:∀w Y',St w0 S w ((pre++H)++cg tw tl (ef σ.bad) bw s) Y'→rC P tn tw tl ef bw Γ σ gf vs w hR' res)
  (hk:∀s' Γ',fg tn Γ' res.2 s'→Γ⊆Γ'→ab P r f R w0 S Y n (.inRegion ops rest::k) ((d,.int .i64 (res.1:Int))::l) (pre++(cg tw tl (ef res.2.bad) bw s'++H))):
  ab P r f R w0 S Y n (.inRegion ops (i::rest)::k) l (pre++(cg tw tl (ef σ.bad) bw s++H)):=by
 refine ab.mR Ca ?_
 refine ab.qu hW hsub ho hw hc hx hd hcf hcall (fun s' Γ' hW' hg'=>?_)
 exact ab.mR Ca.symm (hk s' Γ' hW' hg')
theorem ab.GU {h h':Hl} (hm:∀w Y',St w0 S w h Y'→St w0 S w h' Y') (hg:ab P r f R w0 S Y n k l h'):ab P r f R w0 S Y n k l h:=fun t w Ds hF hS=>hg t w Ds hF (hm w _ hS)
theorem dn.qu {K:Value→Hl→Prop} {pre hR':Hl} {res:Nat×Sg} (hW:fg tn Γ σ s) (hsub:hR'.Sublist pre) (ho:ops[i]?=some ⟨some d,.call ⟨.value cal,az,ts⟩,ty,pos,aft,g⟩) (hw:au ops l g=true)
  (hc:aT l cal=some (.func (.func gf) #[] #[])) (hx:dq l az.toList=some vs) (hd:Nat.blt d n=true) (hcf:∀args w,(callFunc gf args).run P w=.ok (.enter gf args) w)
  (hcall:∀w Y',St w0 S w (pre++cg tw tl (ef σ.bad) bw s) Y'→rC P tn tw tl ef bw Γ σ gf vs w hR' res)
  (hk:∀s' Γ',fg tn Γ' res.2 s'→Γ⊆Γ'→K (.int .i64 (res.1:Int)) (pre++cg tw tl (ef res.2.bad) bw s')):dn P w0 S n (pre++cg tw tl (ef σ.bad) bw s) ops i l d K:=by
 have hp:(pre++cg tw tl (ef σ.bad) bw s).Perm (cg tw tl (ef σ.bad) bw s++pre):=List.perm_append_comm
 refine ⟨_,ho,rfl,rfl,rfl,hd,.inl ⟨hw,fun t w Ds Y' hF' hS=>.inr ⟨gf,vs.toArray,fun v w'=>∃h',(∃s' Γ',v=.int .i64 (res.1:Int)∧h'=cg tw tl (ef res.2.bad) bw s'∧fg tn Γ' res.2 s'∧Γ⊆Γ')∧St w (cI (cg tw tl (ef σ.bad) bw s)) w' h' [],?_,?_,fun v w' ⟨h',h1,h2⟩=>?_⟩⟩⟩
 ·have e1:=fZ (P:=P) (ty:=ty) (ts:=ts) (Ds:=Ds) (w:=w) (first:=#[]) (captured:=#[]) hF' hc hx
  simp only [execOp,Sem.run_bind,e1,Result.andThen_ok,invoke,hcf]
  simp
 ·have:=hcall w Y' hS s hW ((hS.perm hp).has.sub (List.Sublist.append (List.Sublist.refl _) hsub))
  exact Calls.mono this (fun e w' ⟨v,h',e1,e2,e3⟩=>⟨v,e1,h',e2,e3⟩)
 obtain ⟨s',Γ',rfl,rfl,hW',hs'⟩:=h1
 exact ⟨_,((hS.perm hp).frame h2).perm List.perm_append_comm,hk s' Γ' hW' hs'⟩
end
end Go.Proofs.Wit
namespace Go.Proofs.Wit
open Go Go.RowKit
/-! the examples of the chapter -/
theorem tP:∀(xs:List Tr),∃l:List Tr,l.Nodup∧(∀u,u∈l↔u∈xs)∧l.length≤xs.length
 |[]=>⟨[],List.nodup_nil,fun _=>Iff.rfl,Nat.le_refl _⟩
 |x::xs=>by
  obtain ⟨l,h1,h2,h3⟩:=tP xs
  by_cases h:x∈l
  ·exact ⟨l,h1,fun u=>by rw [h2,List.mem_cons];exact ⟨.inr,fun e=>e.elim (fun e=>by rw [e];exact (h2 x).1 h) id⟩,by simp;omega⟩
  exact ⟨x::l,List.nodup_cons.2 ⟨h,h1⟩,fun u=>by rw [List.mem_cons,List.mem_cons,h2],by simp;omega⟩
theorem DY {t:Tr} (h:(kI t).length≤10):af t:=by
 obtain ⟨l,h1,h2,h3⟩:=tP (kI t)
 exact ⟨l,h1,h2,by omega⟩
def Gp (t:Tr) (r:Int) (ls:List TL):Bool:=decide ((bX t).length≤200) && (decide (ls.length<400) && (decide (r≠1)||decide ((kI t).length≤10)))
theorem jq {t:Tr} {r:Int} {a b:Nat} {g:Int} {ls:List TL} (h:Gp t r ls=true):bR af t r a b g ⟨ls,false⟩=(ls.length,⟨ls++[⟨t,r,a,b,g⟩],false⟩):=by
 unfold Gp at h
 simp only [Bool.and_eq_true,Bool.or_eq_true,decide_eq_true_eq] at h
 obtain ⟨h1,h2,h3⟩:=h
 rw [bR,if_neg]
 rintro (e|e|e|⟨e1,e2⟩)
 ·cases e
 ·exact e h1
 ·dsimp only at e;omega
 rcases h3 with h3|h3
 ·exact h3 e1
 exact e2 (DY h3)
theorem rR {t:Tr} (h:decide ((bX (aE t)).length≤200)=true):fe t=(aN t).2:=by
 unfold fe;split
 ·rfl
 rename_i h2;exact absurd (of_decide_eq_true h:(bX (aE t)).length≤200) h2
theorem AV:fe pT=aE pT:=by rw [rR (by decide+kernel)];decide+kernel
theorem Cc:fe (aE pT)=pT:=by rw [rR (by decide+kernel)];decide+kernel
theorem GM:fe (ar 0 pT)=ga 0 (aE pT):=by rw [rR (by decide+kernel)];decide+kernel
theorem lT {g u:Tr} {fr:List Nat} {ls:List TL} (hu:u=ct (fr.map (fT ⟨ls,false⟩)) g) (h:Gp u 1 ls=true):aU af g fr ⟨ls,false⟩=lp af g (fr.map (fun n=>(n,fT ⟨ls,false⟩ n))) ls.length ⟨ls++[⟨u,1,0,0,0⟩],false⟩:=by
 rw [aU,if_neg (by simp),←hu,jq h]
theorem lO {g u t:Tr} {n m:Nat} {ps:List (Nat×Tr)} {ls:List TL} (hu:u=ct (ps.map (·.2)) g) (h:Gp u 10 ls=true):lp af g ((m,t)::ps) n ⟨ls,false⟩=lp af g ps ls.length ⟨ls++[⟨u,10,m,n,0⟩],false⟩:=by
 rw [lp,←hu,jq h]
abbrev Dg:Tr:=aE (aE pT)
abbrev D4 (ei:Bool):Tr:=if ei=true then .bin 6 0 0 0 pT (aE pT) else aE (ju pT (aE pT))
abbrev BH (ei:Bool):Tr:=if ei=true then .bin 6 0 0 0 (ar 0 pT) (ga 0 (aE pT)) else aE (ju (ar 0 pT) (ga 0 (aE pT)))
abbrev kP (ei:Bool):Tr:=if ei=true then Dg else pT
abbrev kQ (ei:Bool):Tr:=if ei=true then pT else Dg
abbrev GV (ei:Bool):List TL:=[⟨D4 ei,1,0,0,0⟩]
abbrev yI (ei:Bool):List TL:=[⟨D4 ei,1,0,0,0⟩,⟨aP (D4 ei) (aP (kP ei) (kQ ei)),1,0,0,0⟩,⟨aP (kP ei) (kQ ei),10,0,1,0⟩]
abbrev Dv (ei:Bool):List TL:=yI ei++[⟨ar 0 (aP (kP ei) (kQ ei)),11,2,0,0⟩,⟨aP (ar 0 (aP (kP ei) (kQ ei))) (aP (ar 0 (kP ei)) (ar 0 (kQ ei))),2,0,0,0⟩,⟨aP (ar 0 (kP ei)) (ar 0 (kQ ei)),10,3,4,0⟩,⟨nE (ga 0 (aE pT)) (aE (ar 0 Dg)),7,0,0,0⟩]
abbrev Gs (ei:Bool):List TL:=Dv ei++[⟨aP (aP (ar 0 (kP ei)) (ar 0 (kQ ei))) (aP (nE (ga 0 (aE pT)) (aE (ar 0 Dg))) (BH ei)),1,0,0,0⟩,⟨aP (nE (ga 0 (aE pT)) (aE (ar 0 Dg))) (BH ei),10,5,7,0⟩,⟨BH ei,10,6,8,0⟩]
theorem G8 {ei:Bool}:lW ei pT=D4 ei:=by unfold lW D4;rw [AV]
theorem G9 {ei:Bool}:lW ei (ar 0 pT)=BH ei:=by unfold lW BH;rw [GM]
theorem Dz {ei:Bool}:aI af ei pT ⟨[],false⟩=(0,⟨GV ei,false⟩):=by
 show aI af ei (.leaf 3 0 0 0) _=_
 rw [aI,show (Tr.leaf 3 0 0 0)=pT from rfl,G8,lT (u:=D4 ei) rfl (by cases ei<;>decide+kernel)]
 rfl
theorem DA {ei:Bool}:aI af ei (ar 0 pT) ⟨[],false⟩=(9,⟨Gs ei,false⟩):=by
 show aI af ei (.un 9 0 0 0 pT) _=_
 rw [aI,if_pos (.inl rfl),Dz,show (Tr.un 9 0 0 0 pT)=ar 0 pT from rfl]
 have hp:oH ei 9 pT=kP ei:=by unfold oH kP vT uT;rw [if_pos rfl,if_pos rfl,AV]
 have hq:oG ei 9 pT=kQ ei:=by unfold oG kQ vT uT;rw [if_pos rfl,if_pos rfl,AV]
 have hv:vT 9 pT=aE pT:=by unfold vT;rw [if_pos rfl,AV]
 have h1:aU af (aP (kP ei) (kQ ei)) [0] ⟨GV ei,false⟩=(2,⟨yI ei,false⟩):=by
  rw [lT (u:=aP (D4 ei) (aP (kP ei) (kQ ei))) rfl (by cases ei<;>decide+kernel)]
  rw [List.map_cons,List.map_nil,lO (u:=aP (kP ei) (kQ ei)) rfl (by cases ei<;>decide+kernel)]
  rfl
 have h2:gH af 0 (kP ei) (kQ ei) 2 ⟨yI ei,false⟩=(5,⟨yI ei++[⟨ar 0 (aP (kP ei) (kQ ei)),11,2,0,0⟩,⟨aP (ar 0 (aP (kP ei) (kQ ei))) (aP (ar 0 (kP ei)) (ar 0 (kQ ei))),2,0,0,0⟩,⟨aP (ar 0 (kP ei)) (ar 0 (kQ ei)),10,3,4,0⟩],false⟩):=by
  rw [gH,jq (by cases ei<;>decide+kernel)]
  dsimp only
  rw [kW,jq (by cases ei<;>decide+kernel)]
  dsimp only
  rw [jq (by cases ei<;>decide+kernel)]
  rfl
 have h3:dS af 0 (aE pT) ⟨yI ei++[⟨ar 0 (aP (kP ei) (kQ ei)),11,2,0,0⟩,⟨aP (ar 0 (aP (kP ei) (kQ ei))) (aP (ar 0 (kP ei)) (ar 0 (kQ ei))),2,0,0,0⟩,⟨aP (ar 0 (kP ei)) (ar 0 (kQ ei)),10,3,4,0⟩],false⟩=(6,⟨Dv ei,false⟩):=by
  rw [dS,jq (by cases ei<;>decide+kernel)]
  rfl
 have h4:aU af (BH ei) [5,6] ⟨Dv ei,false⟩=(9,⟨Gs ei,false⟩):=by
  rw [lT (u:=aP (aP (ar 0 (kP ei)) (ar 0 (kQ ei))) (aP (nE (ga 0 (aE pT)) (aE (ar 0 Dg))) (BH ei))) rfl (by cases ei<;>decide+kernel)]
  rw [List.map_cons,List.map_cons,List.map_nil,lO (u:=aP (nE (ga 0 (aE pT)) (aE (ar 0 Dg))) (BH ei)) rfl (by cases ei<;>decide+kernel),lO (u:=BH ei) rfl (by cases ei<;>decide+kernel)]
  rfl
 rw [pN,hp,hq,hv,h1]
 dsimp only
 rw [h2]
 dsimp only
 rw [h3]
 dsimp only
 rw [G9,h4]
/-! the refutation of K p and not p in T -/
def gI:List NV:=[⟨3,0,0,0,0,0⟩,⟨4,0,0,0,0,0⟩,⟨9,0,0,0,0,0⟩]
def An:SD:=⟨7#64,1,1,0,[]⟩
def Am:SD:=⟨6#64,5,2,0,[0]⟩
def dC:List SD:=[An,Am]
theorem CP:aW gI:=⟨by decide+kernel,by decide,by decide+kernel⟩
theorem ET:aa gI 0=pT:=by decide+kernel
theorem ES:aa gI 1=aE pT:=by decide+kernel
theorem Gz:aa gI 2=ar 0 pT:=by decide+kernel
theorem CN:jw gI 1=0:=re (i:=1) (j:=0) (by decide) (by rw [ET,show tA gI 1=aa gI 1 from rfl,ES,Cc]) (fun k hk=>absurd hk (Nat.not_lt_zero _))
theorem Al:ej 2 gI dC 0 An:=by
 refine ⟨fun k hk=>?_,.inl ⟨rfl,rfl,.inr ⟨by decide+kernel,by decide,by decide+kernel,CN⟩⟩⟩
 have:∀k:Fin 64,(7#64).getLsbD k.val=true→k.val<3:=by decide+kernel
 exact this ⟨k,BitVec.lt_of_getLsbD hk⟩ hk
theorem Ak:ej 2 gI dC 1 Am:=by
 refine ⟨fun k hk=>?_,.inr (.inr (.inr (.inr (.inl ⟨rfl,rfl,.inl rfl,⟨by decide,by decide+kernel,by decide+kernel⟩,?_⟩))))⟩
 ·have:∀k:Fin 64,(6#64).getLsbD k.val=true→k.val<3:=by decide+kernel
  exact this ⟨k,BitVec.lt_of_getLsbD hk⟩ hk
 exact ⟨⟨⟨by decide,by decide⟩,by decide+kernel⟩,trivial⟩
theorem vg:gm 2 gI dC:=by
 refine ⟨by decide,CP,by decide,by decide,fun k hk=>?_⟩
 match k,hk with
 |0,_=>exact Al
 |1,_=>exact Ak
theorem Ai:oQ gI dC 0=3#64:=by decide+kernel
theorem Ah:oQ gI dC 1=6#64:=by decide+kernel
theorem B7:dG dC 1=true:=ep.2 (.last rfl)
theorem B8:dG dC 0=true:=ep.2 (.fr (k:=1) (by decide) (.last rfl) (by decide+kernel))
theorem pj:dk gI dC=[⟨3#64,1,1,0,[]⟩,⟨6#64,5,2,0,[0]⟩]:=by
 have h0:mF gI dC 1=[⟨3#64,1,1,0,[]⟩]:=by
  rw [jX (k:=0) (by decide),if_pos B8]
  show []++[gD gI dC 0 An]=_
  rw [gD,Ai,if_neg (by decide+kernel)];rfl
 have hc:bJ (dG dC) 0=0:=rfl
 rw [dk]
 show mF gI dC 2=_
 rw [jX (k:=1) (by decide),if_pos B7,h0]
 show _++[gD gI dC 1 Am]=_
 rw [gD,Ah,if_neg (by decide+kernel)]
 show [_]++[SD.mk 6#64 5 2 0 [((bJ (dG dC) 0:Nat):Int)]]=_
 rw [hc];rfl
theorem xI:cM dC dC.length=[7#64,6#64]:=by
 show cM dC 2=_
 have h0:cM dC 1=[7#64]:=by
  show (match dC[0]? with|some x=>if dG dC 0=true then cM dC 0++[x.set] else cM dC 0|none=>cM dC 0)=_
  show (if dG dC 0=true then _ else _)=_
  rw [if_pos B8];rfl
 show (if dG dC 1=true then cM dC 1++[6#64] else cM dC 1)=_
 rw [if_pos B7,h0];rfl
abbrev Bn:Tr:=aE (ju pT (aE pT))
abbrev DS:Tr:=aE (ju (aE pT) (ar 0 pT))
abbrev EI:Tr:=aE (ju (aE pT) pT)
abbrev uE:List TL:=[⟨EI,1,0,0,0⟩,⟨aP EI Bn,1,0,0,0⟩,⟨Bn,10,0,1,0⟩]
abbrev ED:List TL:=uE++[⟨aP (ar 0 pT) pT,3,0,0,0⟩,⟨aP (aP (ar 0 pT) pT) (aP Bn DS),1,0,0,0⟩,⟨aP Bn DS,10,3,4,0⟩,⟨DS,10,2,5,0⟩]
theorem Fk:dA gI 3#64=Bn:=by decide+kernel
theorem Fj:dA gI 6#64=DS:=by decide+kernel
theorem GW:aI af false (aE pT) ⟨[],false⟩=(0,⟨[⟨EI,1,0,0,0⟩],false⟩):=by
 have hc:lW false (aE pT)=EI:=by unfold lW;rw [if_neg (by decide),Cc]
 show aI af false (.un 4 0 0 0 pT) _=_
 rw [aI,if_neg (by decide),show (Tr.un 4 0 0 0 pT)=aE pT from rfl,hc,lT (u:=EI) rfl (by decide+kernel)]
 rfl
theorem GC:bL af gI (dk gI dC) 7#64 ⟨3#64,1,1,0,[]⟩ [] ⟨[],false⟩=(2,⟨uE,false⟩):=by
 unfold bL
 dsimp only
 rw [if_pos rfl,if_neg (by decide+kernel),Fk,show tA gI 1=aa gI 1 from rfl,ES,GW]
 dsimp only
 rw [lT (u:=aP EI Bn) rfl (by decide+kernel),List.map_cons,List.map_nil,lO (u:=Bn) rfl (by decide+kernel)]
 rfl
theorem GB:bL af gI (dk gI dC) 6#64 ⟨6#64,5,2,0,[0]⟩ [2] ⟨uE,false⟩=(6,⟨ED,false⟩):=by
 unfold bL
 dsimp only
 rw [if_neg (by decide),if_neg (by decide),if_neg (by decide),if_neg (by decide),if_pos rfl,Fj,show tA gI 2=aa gI 2 from rfl,Gz,show tA gI (nd gI 2).x=aa gI 0 from rfl,ET,jq (by decide+kernel)]
 dsimp only
 rw [show ([2]:List Nat).getD (([0]:List Int).getD 0 0).toNat 0=2 from rfl,show uE.length=3 from rfl]
 rw [lT (u:=aP (aP (ar 0 pT) pT) (aP Bn DS)) rfl (by decide+kernel),List.map_cons,List.map_cons,List.map_nil,lO (u:=aP Bn DS) rfl (by decide+kernel),lO (u:=DS) rfl (by decide+kernel)]
 rfl
theorem C3:gF af gI dC=(6,⟨ED,false⟩):=by
 have hl:(dk gI dC).length=2:=by rw [pj];rfl
 have h1:aS af gI (dk gI dC) (cM dC dC.length) 1=([2],⟨uE,false⟩):=by
  rw [eN (q:=0) (by omega),xI]
  have e:(dk gI dC)[0]'(by omega)=⟨3#64,1,1,0,[]⟩:=by simp only [pj];rfl
  rw [e]
  show ([]++[(bL af gI (dk gI dC) 7#64 ⟨3#64,1,1,0,[]⟩ [] ⟨[],false⟩).1],(bL af gI (dk gI dC) 7#64 ⟨3#64,1,1,0,[]⟩ [] ⟨[],false⟩).2)=_
  rw [GC];rfl
 have h2:aS af gI (dk gI dC) (cM dC dC.length) 2=([2,6],⟨ED,false⟩):=by
  rw [eN (q:=1) (by omega),h1,xI]
  have e:(dk gI dC)[1]'(by omega)=⟨6#64,5,2,0,[0]⟩:=by simp only [pj];rfl
  rw [e]
  show ([2]++[(bL af gI (dk gI dC) 6#64 ⟨6#64,5,2,0,[0]⟩ [2] ⟨uE,false⟩).1],(bL af gI (dk gI dC) 6#64 ⟨6#64,5,2,0,[0]⟩ [2] ⟨uE,false⟩).2)=_
  rw [GB];rfl
 unfold gF
 dsimp only
 rw [hl,h2,if_pos (by rw [pj];decide+kernel)]
 rfl
/-! what the checker says of lines that are written -/
theorem pW {l:Int} {σ:Sg} (hg:Good l σ) (hl:0≤l∧l≤6) (h0:0<σ.ls.length) {ls:List LV} (hd:ls.map LV.d=σ.ls.map (fun x=>x.v.d)):gz l ls=0:=by
 have h1:gz l (σ.ls.map TL.v)=0:=lB.2 ⟨hl,by rw [List.length_map];exact h0,by rw [List.length_map];exact hg.len,hg.ok⟩
 exact uX (by rw [hd,List.map_map];rfl) h1
theorem vU {ls:List LV} {ts:List TL} (hd:ls.map LV.d=ts.map (fun x=>x.v.d)) {k:Nat} (hk:k<ls.length) (hk2:k<ts.length):ls[k].f.f=bT ts[k].t:=by
 have h1:ls[k].d=ts[k].v.d:=by
  have:=congrArg (fun l=>l[k]?) hd
  simpa [hk,hk2] using this
 exact congrArg LD.f h1
theorem GP:og pT:=by show (3:Int)≤3;decide
theorem GQ:og (ar 0 pT):=.inr ⟨.inl rfl,GP⟩
theorem oK:(ar 0 pT).ok:=bt (by decide) dT
theorem Dw {ei:Bool}:rk ei (bT pT)=0∧Dx ei (bT pT)=(GV ei).map (fun x=>x.v.d):=by
 have h1:aV (bT pT)=0:=by decide+kernel
 have h2:bh (bT pT)=pT:=by decide+kernel
 have h3:∀n∈aj (bT pT),eF (aj (bT pT)) n:=by decide+kernel
 refine ⟨?_,?_⟩
 ·rw [rk,if_neg (by simp [h1]),if_neg (fun h=>h h3),h2,Dz,if_neg (by simp)]
 rw [Dx,h2,Dz]
theorem wP {ei:Bool}:rk ei (bT (ar 0 pT))=0∧Dx ei (bT (ar 0 pT))=(Gs ei).map (fun x=>x.v.d):=by
 have h1:aV (bT (ar 0 pT))=0:=by decide+kernel
 have h2:bh (bT (ar 0 pT))=ar 0 pT:=by decide+kernel
 have h3:∀n∈aj (bT (ar 0 pT)),eF (aj (bT (ar 0 pT))) n:=by decide+kernel
 refine ⟨?_,?_⟩
 ·rw [rk,if_neg (by simp [h1]),if_neg (fun h=>h h3),h2,DA,if_neg (by simp)]
 rw [Dx,h2,DA]
theorem Fw:rk false (bT (aP pT pT))=10:=by
 have h1:aV (bT (aP pT pT))=0:=by decide+kernel
 have h3:¬∀n∈aj (bT (aP pT pT)),eF (aj (bT (aP pT pT))) n:=by decide+kernel
 rw [rk,if_neg (by simp [h1]),if_pos h3]
theorem C5:C6 2 gI dC=0∧Gn gI dC=ED.map (fun x=>x.v.d):=by
 have h1:nJ 2 gI dC=0:=jZ.2 vg
 refine ⟨?_,?_⟩
 ·rw [C6,if_neg (by simp [h1]),C3,if_neg (by simp)]
 rw [Gn,C3]
theorem FU {ls:List LV} (hd:ls.map LV.d=(Gs false).map (fun x=>x.v.d)):gz 0 ls=0:=by
 have h:=(lQ (l:=0) (ei:=false) GQ oK tL).dI
 rw [DA] at h
 exact pW h (by decide) (by decide) hd
theorem FT {ls:List LV} (hd:ls.map LV.d=ED.map (fun x=>x.v.d)):gz 2 ls=0:=by
 have h:=vg.Ia.2.1
 rw [C3] at h
 exact pW h (by decide) (by decide) hd
theorem DZ:aR ⟨3,0,0,0,0,0⟩ []=bT pT:=by decide+kernel
end Go.Proofs.Wit
