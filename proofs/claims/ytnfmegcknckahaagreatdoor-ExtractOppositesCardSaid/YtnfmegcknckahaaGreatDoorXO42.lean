/- Laws of walks, for any program, under the conditions that each theorem states. -/
import Derived.Test.YtnfmegcknckahaaGreatDoorXO40
import Derived.Test.YtnfmegcknckahaaGreatDoorXO27
import Derived.Test.YtnfmegcknckahaaGreatDoorXO13
import Derived.Test.YtnfmegcknckahaaGreatDoorXO25
namespace Go.Proofs.Wit
open Go Go.RowKit
structure Ws where
  q:Option Nat
  cap:Nat
  ls:List LV
  sp:List Value
  H:Hl
def EF (tw tl:TypeId) (er:Value) (bw:Nat) (s:Ws):Hl:=[(some bw,.cells #[cK s.q s.ls.length s.cap,er] tw (0,0)),(s.q,vt tl s.ls s.sp)]
def cd (tw tl:TypeId) (er:Value) (bw:Nat) (s:Ws):Hl:=(some bw,.cells #[cK s.q s.ls.length s.cap,er] tw (0,0))::(s.q,vt tl s.ls s.sp)::s.H
theorem z7 {tw tl:TypeId} {er:Value} {bw:Nat} {s:Ws}:(EF tw tl er bw s).Sublist (cd tw tl er bw s):=.cons_cons _ (.cons_cons _ (List.nil_sublist _))
def Ws.so (s:Ws) (p:Option Nat×Obj):Ws:={s with H:=p::s.H}
structure ff (tn:TypeId) (Γ:List FV) (σ:Sg) (s:Ws):Prop where
  nil:s.q=none→s.ls.length=0∧s.cap=0
  cap:(s.ls.flatMap LV.cells++s.sp).length=s.cap*5
  Bw:s.ls.map LV.d=σ.ls.map (fun x=>x.v.d)
  Ey:s.ls.length≤400
  ctx:∀x∈Γ,x.sy tn s.H∧x.f.length≤maxLen
  DL:∀x∈s.ls,x.f∈Γ
  Es:∀x∈σ.ls,x.t.ok
section
variable {tn tw tl:TypeId} {er:Value} {bw:Nat} {Γ:List FV} {σ:Sg} {s:Ws}
theorem ff.len (h:ff tn Γ σ s):s.ls.length=σ.ls.length:=by have:=congrArg List.length h.Bw;simpa using this
theorem ff.at (h:ff tn Γ σ s) {k:Nat} (hk:k<s.ls.length):s.ls[k].f.f=bT (fM σ k)∧(fM σ k).ok∧s.ls[k].f∈Γ:=by
 have hk2:k<σ.ls.length:=by rw [←h.len];exact hk
 have h1:s.ls[k].d=(σ.ls[k]).v.d:=by
  have:=congrArg (fun l=>l[k]?) h.Bw
  simpa [hk,hk2] using this
 have ht:fM σ k=(σ.ls[k]).t:=by simp [fM,List.getD_eq_getElem?_getD,hk2]
 refine ⟨?_,by rw [ht];exact h.Es _ (List.getElem_mem hk2),h.DL _ (List.getElem_mem hk)⟩
 rw [ht]
 exact congrArg LD.f h1
theorem ff.fa (h:ff tn Γ σ s) {x:FV} (hx:x∈Γ) {w0 w:World} {S:List Nat} {pre:Hl} {Y:List (Nat×Obj)} (hS:St w0 S w (pre++cd tw tl er bw s) Y):FA w x.a x.f:=
 ((h.ctx x hx).1.mono (fun _ hp=>List.mem_append_right _ (List.mem_cons_of_mem _ (List.mem_cons_of_mem _ hp)))).at hS
theorem ff.add (h:ff tn Γ σ s) {q:Option Nat} {f:List NV} {cap:Nat} {sp:List Value} (hq:q=none→f.length=0∧cap=0) (hl:f.length≤maxLen):ff tn (⟨q.map (fun b=>⟨b,0,none⟩),cap,f⟩::Γ) σ (s.so (q,eO tn f sp)):=
 ⟨h.nil,h.cap,h.Bw,h.Ey,fun x hx=>by
  rcases List.mem_cons.1 hx with rfl|hx
  ·exact ⟨⟨q,sp,List.mem_cons_self ..,rfl,fun e=>(hq e).1⟩,hl⟩
  exact ⟨(h.ctx x hx).1.mono (List.subset_cons_self _ _),(h.ctx x hx).2⟩,fun x hx=>List.mem_cons_of_mem _ (h.DL x hx),h.Es⟩
def FV.Z (x:FV):Prop:=x.f=[]→x.a=none
theorem ff.GH (h:ff tn Γ σ s) {x:FV} (hx:x∈Γ) (hz:x.Z):x.a=none↔x.f=[]:=by
 refine ⟨fun e=>?_,hz⟩
 obtain ⟨q,sp,_,h2,h3⟩:=(h.ctx x hx).1
 cases q with
 |none=>exact List.eq_nil_of_length_eq_zero (h3 rfl)
 |some b=>rw [h2] at e;cases e
end
theorem iB.stay {w0 w1:World} {h0 hR pre h1:Hl} {Y:List (Nat×Obj)} (g:iB w0 (h0++hR)) (s:St w0 (cI h0) w1 (pre++h1) Y):iB w1 (h1++(pre++hR)):=by
 have hap:=List.pairwise_append.1 g.apart
 have hkeep:∀p∈hR,∀b,p.1=some b→w1.heap[b]?=some p.2∧b<w0.heap.size∧b∉cI h0:=fun p hp b hb=>by
  have h2:=(g.own p (List.mem_append_right _ hp) b hb).1
  have hlt:=(Array.getElem?_eq_some_iff.1 h2).1
  have hn:b∉cI h0:=fun hm=>by
   obtain ⟨o,ho⟩:=gw.1 hm
   exact hap.2.2 _ ho p hp b rfl hb
  exact ⟨by rw [s.ext.block b hlt hn];exact h2,hlt,hn⟩
 have hs:=List.pairwise_append.1 s.apart
 have hcross:∀p∈pre++h1,∀q∈hR,mn p q:=fun p hp q hq b hb hqb=>by
  obtain ⟨_,hlt,hn⟩:=hkeep q hq b hqb
  rcases (s.own p hp b hb).2.2 with h|h
  ·omega
  exact hn h
 refine ⟨fun p hp b hb=>?_,?_⟩
 ·rcases List.mem_append.1 hp with hp|hp
  ·exact ⟨(s.own p (List.mem_append_right _ hp) b hb).1,(s.own p (List.mem_append_right _ hp) b hb).2.1⟩
  ·rcases List.mem_append.1 hp with hp|hp
   ·exact ⟨(s.own p (List.mem_append_left _ hp) b hb).1,(s.own p (List.mem_append_left _ hp) b hb).2.1⟩
   ·exact ⟨(hkeep p hp b hb).1,(g.own p (List.mem_append_right _ hp) b hb).2⟩
 refine List.pairwise_append.2 ⟨hs.2.1,List.pairwise_append.2 ⟨hs.1,hap.2.1,fun p hp q hq=>hcross p (List.mem_append_left _ hp) q hq⟩,fun p hp q hq=>?_⟩
 rcases List.mem_append.1 hq with hq|hq
 ·exact fun b hb hqb=>hs.2.2 q hq p hp b hqb hb
 exact hcross p (List.mem_append_right _ hp) q hq
def rq (P:Program) (tn tw tl:TypeId) (ef:Bool→Value) (bw:Nat) (Γ:List FV) (σ:Sg) (gf:FuncId) (args:List Value) (w:World) (hR:Hl) (r:Nat×Sg):Prop:=
 ∀s,ff tn Γ σ s→iB w (cd tw tl (ef σ.bad) bw s++hR)→qv P gf args w (cd tw tl (ef σ.bad) bw s) (fun v h'=>∃s' Γ',v=.int .i64 (r.1:Int)∧h'=cd tw tl (ef r.2.bad) bw s'∧ff tn Γ' r.2 s'∧Γ⊆Γ')
section
variable {P:Program} {tn tw tl:TypeId} {er:Value} {ef:Bool→Value} {bw:Nat} {Γ:List FV} {σ:Sg} {s:Ws}
variable {r:Option Nat} {f:FuncId} {R:Value→World→Prop} {w0:World} {S:List Nat} {Y:List (Nat×Obj)} {n:Nat} {k:List Item} {l:Fl} {ops:Array Oper} {i d:Nat} {rest:List Nat} {ty:TypeId} {pos:String} {aft:Array Edge} {g:Option (Nat×Bool)}
variable {az:Array Operand} {ts:Array TypeId} {cal:Operand} {gf:FuncId} {vs:List Value} {u:Tr}
theorem je {q:Option Nat} {f:List NV} {cap:Nat}:cK q f.length cap=FV.v ⟨q.map (fun b=>⟨b,0,none⟩),cap,f⟩:=by cases q<;>rfl
theorem gz {t:Tr}:(bT t).length≤maxLen:=aC rfl
theorem mL {p:Option Nat×Obj} {pre:Hl}:(p::(pre++cd tw tl er bw s)).Perm (pre++cd tw tl er bw (s.so p)):=by
 refine (List.perm_middle (l₁:=pre) (a:=p)).symm.trans (List.Perm.append_left pre ?_)
 unfold cd Ws.so
 exact (List.Perm.swap _ _ _).trans (List.Perm.cons _ (List.Perm.swap _ _ _))
theorem ab.iD {pre:Hl} (hW:ff tn Γ σ s) (ho:ops[i]?=some ⟨some d,.call ⟨.value cal,az,ts⟩,ty,pos,aft,g⟩) (hw:au ops l g=true)
  (hc:aU l cal=some (.func (.func gf) #[] #[])) (hx:dq l az.toList=some vs) (hd:Nat.blt d n=true) (hcf:∀args w,(callFunc gf args).run P w=.ok (.enter gf args) w)
  (hcall:∀w Y',St w0 S w (pre++cd tw tl er bw s) Y'→Cn P gf vs w (fun v w'=>fY tn w w' v (bT u)))
  (hk:∀x s',x.f=bT u→x.Z→ff tn (x::Γ) σ s'→ab P r f R w0 S Y n (.inRegion ops rest::k) ((d,x.v)::l) (pre++cd tw tl er bw s')):
  ab P r f R w0 S Y n (.inRegion ops (i::rest)::k) l (pre++cd tw tl er bw s):=by
 refine ab.ni (fun w v w'=>fY tn w w' v (bT u)) ho hw hc hx hd hcf hcall (fun v w w' Y' hS he hO=>?_)
 obtain ⟨ho,hz⟩:=hO
 obtain ⟨q,cap,sp,rfl,hq,ao,hS'⟩:=ak hS he ho
 refine ⟨_,hS'.perm mL,?_⟩
 rw [je]
 refine hk _ _ rfl (fun e=>?_) (hW.add hq gz)
 have:=hz e
 cases q with
 |none=>rfl
 |some b=>cases this
theorem ab.uw {pre:Hl} (hW:ff tn Γ σ s) (ho:ops[i]?=some ⟨some d,.call ⟨.value cal,az,ts⟩,ty,pos,aft,g⟩) (hw:au ops l g=true)
  (hc:aU l cal=some (.func (.func gf) #[] #[])) (hx:dq l az.toList=some vs) (hd:Nat.blt d n=true) (hcf:∀args w,(callFunc gf args).run P w=.ok (.enter gf args) w)
  (hcall:∀w Y',St w0 S w (pre++cd tw tl er bw s) Y'→Cn P gf vs w (fun v w'=>aI tn w w' v (bT u)))
  (hk:∀x s',x.f=bT u→ff tn (x::Γ) σ s'→ab P r f R w0 S Y n (.inRegion ops rest::k) ((d,x.v)::l) (pre++cd tw tl er bw s')):
  ab P r f R w0 S Y n (.inRegion ops (i::rest)::k) l (pre++cd tw tl er bw s):=by
 refine ab.ni (fun w v w'=>aI tn w w' v (bT u)) ho hw hc hx hd hcf hcall (fun v w w' Y' hS he hO=>?_)
 obtain ⟨q,cap,sp,rfl,hq,ao,hS'⟩:=ak hS he hO
 refine ⟨_,hS'.perm mL,?_⟩
 rw [je]
 exact hk _ _ rfl (hW.add hq gz)
theorem ab.bu {pre hR hR':Hl} {s0:Ws} {er0:Value} {res:Nat×Sg} (h0:iB w0 (cd tw tl er0 bw s0++hR)) (hW:ff tn Γ σ s) (hsub:hR'.Sublist (pre++hR)) (ho:ops[i]?=some ⟨some d,.call ⟨.value cal,az,ts⟩,ty,pos,aft,g⟩) (hw:au ops l g=true)
  (hc:aU l cal=some (.func (.func gf) #[] #[])) (hx:dq l az.toList=some vs) (hd:Nat.blt d n=true) (hcf:∀args w,(callFunc gf args).run P w=.ok (.enter gf args) w)
  (hcall:∀w Y',St w0 (cI (cd tw tl er0 bw s0)) w (pre++cd tw tl (ef σ.bad) bw s) Y'→rq P tn tw tl ef bw Γ σ gf vs w hR' res)
  (hk:∀s' Γ',ff tn Γ' res.2 s'→Γ⊆Γ'→ab P r f R w0 (cI (cd tw tl er0 bw s0)) Y n (.inRegion ops rest::k) ((d,.int .i64 (res.1:Int))::l) (pre++cd tw tl (ef res.2.bad) bw s')):
  ab P r f R w0 (cI (cd tw tl er0 bw s0)) Y n (.inRegion ops (i::rest)::k) l (pre++cd tw tl (ef σ.bad) bw s):=by
 refine ab.mK (h':=cd tw tl (ef σ.bad) bw s++pre) List.perm_append_comm ?_
 refine ab.iG (h:=cd tw tl (ef σ.bad) bw s) (hF:=pre) (fs:=[]) (cs:=[]) (fun _ v h'=>∃s' Γ',v=.int .i64 (res.1:Int)∧h'=cd tw tl (ef res.2.bad) bw s'∧ff tn Γ' res.2 s'∧Γ⊆Γ') ho hw hc hx hd hcf (fun w Y' hS=>?_) (fun w v h' hR2=>?_)
 ·rw [List.nil_append,List.append_nil]
  have hS2:=hS.perm (List.perm_append_comm (l₁:=cd tw tl (ef σ.bad) bw s) (l₂:=pre))
  exact hcall w _ hS2 s hW ((h0.stay hS2).sub (List.Sublist.append (List.Sublist.refl _) hsub))
 obtain ⟨s',Γ',rfl,rfl,hW',hs⟩:=hR2
 exact ab.mK List.perm_append_comm (hk s' Γ' hW' hs)
end
section
variable {P:Program} {tn tw tl:TypeId} {er:Value} {ef:Bool→Value} {bw:Nat} {Γ:List FV} {σ:Sg} {s:Ws}
variable {r:Option Nat} {f:FuncId} {R:Value→World→Prop} {w0:World} {S:List Nat} {Y:List (Nat×Obj)} {n:Nat} {k:List Item} {l:Fl} {ops:Array Oper} {i d:Nat} {ty:TypeId} {pos:String} {aft:Array Edge} {g:Option (Nat×Bool)}
variable {az:Array Operand} {ts:Array TypeId} {cal:Operand} {gf:FuncId} {vs:List Value} {u:Tr} {hb:Hl} {q:Nat} {Dn:List Nat}
theorem CM {pre:Hl} (hs:hb.Sublist (pre++EF tw tl er bw s)) {s':Ws} (e:EF tw tl er bw s'=EF tw tl er bw s):hb.Sublist (pre++cd tw tl er bw s'):=hs.trans (List.Sublist.append (List.Sublist.refl _) (by rw [←e];exact z7))
theorem aG.iD {pre:Hl} (hW:ff tn Γ σ s) (hs:hb.Sublist (pre++EF tw tl er bw s)) (h1:aB ops Dn=[i]) (ho:ops[i]?=some ⟨some d,.call ⟨.value cal,az,ts⟩,ty,pos,aft,g⟩) (hw:au ops l g=true)
  (hc:aU l cal=some (.func (.func gf) #[] #[])) (hx:dq l az.toList=some vs) (hd:Nat.blt d n=true) (hcf:∀args w,(callFunc gf args).run P w=.ok (.enter gf args) w)
  (hcall:∀w Y',St w0 S w (pre++cd tw tl er bw s) Y'→Cn P gf vs w (fun v w'=>fY tn w w' v (bT u)))
  (hk:∀x p,x.f=bT u→x.Z→ff tn (x::Γ) σ (s.so p)→aG P r f R w0 S Y n k ops hb q (i::Dn) ((d,x.v)::l) (pre++cd tw tl er bw (s.so p))):
  aG P r f R w0 S Y n k ops hb (q+1) Dn l (pre++cd tw tl er bw s):=by
 refine aG.call (fun w v w'=>fY tn w w' v (bT u)) h1 ho hw hc hx hd hcf hcall (fun v w w' Y' hS he hO=>?_)
 obtain ⟨ho,hz⟩:=hO
 obtain ⟨q,cap,sp,rfl,hq,ao,hS'⟩:=ak hS he ho
 refine ⟨_,hS'.perm mL,CM hs rfl,?_⟩
 rw [je]
 refine hk _ _ rfl (fun e=>?_) (hW.add hq gz)
 have:=hz e
 cases q with
 |none=>rfl
 |some b=>cases this
theorem aG.bu {pre hR hR':Hl} {s0:Ws} {er0:Value} {res:Nat×Sg} (h0:iB w0 (cd tw tl er0 bw s0++hR)) (hW:ff tn Γ σ s) (hsub:hR'.Sublist (pre++hR)) (hs:hb.Sublist pre) (h1:aB ops Dn=[i]) (ho:ops[i]?=some ⟨some d,.call ⟨.value cal,az,ts⟩,ty,pos,aft,g⟩) (hw:au ops l g=true)
  (hc:aU l cal=some (.func (.func gf) #[] #[])) (hx:dq l az.toList=some vs) (hd:Nat.blt d n=true) (hcf:∀args w,(callFunc gf args).run P w=.ok (.enter gf args) w)
  (hcall:∀w Y',St w0 (cI (cd tw tl er0 bw s0)) w (pre++cd tw tl (ef σ.bad) bw s) Y'→rq P tn tw tl ef bw Γ σ gf vs w hR' res)
  (hk:∀s' Γ',ff tn Γ' res.2 s'→Γ⊆Γ'→aG P r f R w0 (cI (cd tw tl er0 bw s0)) Y n k ops hb q (i::Dn) ((d,.int .i64 (res.1:Int))::l) (pre++cd tw tl (ef res.2.bad) bw s')):
  aG P r f R w0 (cI (cd tw tl er0 bw s0)) Y n k ops hb (q+1) Dn l (pre++cd tw tl (ef σ.bad) bw s):=by
 refine aG.iG (hC:=cd tw tl (ef σ.bad) bw s) (hF:=pre) (fs:=[]) (cs:=[]) List.perm_append_comm (fun _ v h'=>∃s' Γ',v=.int .i64 (res.1:Int)∧h'=cd tw tl (ef res.2.bad) bw s'∧ff tn Γ' res.2 s'∧Γ⊆Γ') h1 ho hw hc hx hd hcf (fun w Y' hS=>?_) (fun w v h' hR2=>?_)
 ·rw [List.nil_append,List.append_nil]
  have hS2:=hS.perm (List.perm_append_comm (l₁:=cd tw tl (ef σ.bad) bw s) (l₂:=pre))
  exact hcall w _ hS2 s hW ((h0.stay hS2).sub (List.Sublist.append (List.Sublist.refl _) hsub))
 obtain ⟨s',Γ',rfl,rfl,hW',hs'⟩:=hR2
 exact ⟨_,List.perm_append_comm,hs.trans (List.sublist_append_left _ _),hk s' Γ' hW' hs'⟩
theorem rq.of {gf:FuncId} {fn:Func} {c:Code} {args:List Value} {w:World} {hR:Hl} {res:Nat×Sg} (hf:P.funcs[gf]?=some fn) (hb:fn.body=some c) (hn:Nat.ble args.length fn.ntmps=true)
  (hgo:∀s,ff tn Γ σ s→iB w (cd tw tl (ef σ.bad) bw s++hR)→ab P none gf (fun v w'=>∃h',(∃s' Γ',v=.int .i64 (res.1:Int)∧h'=cd tw tl (ef res.2.bad) bw s'∧ff tn Γ' res.2 s'∧Γ⊆Γ')∧St w (cI (cd tw tl (ef σ.bad) bw s)) w' h' []) w (cI (cd tw tl (ef σ.bad) bw s)) [] fn.ntmps [.code c] (sU 0 args) (cd tw tl (ef σ.bad) bw s)):
  rq P tn tw tl ef bw Γ σ gf args w hR res:=fun s hW hH=>qv.of (hH.sub (List.sublist_append_left _ _)) hf hb hn (hgo s hW hH)
end
theorem Gq {tn tw tl:TypeId} {ef:Bool→Value} {bw:Nat} {Γ Γ':List FV} {res:Nat×Sg} {s':Ws} {w w':World} {S:List Nat} {pre:Hl} {v:Value} (hv:v=.int .i64 (res.1:Int)) (hW:ff tn Γ' res.2 s') (hg:Γ⊆Γ') (hS:St w S w' (pre++cd tw tl (ef res.2.bad) bw s') []):
  ∃h',(∃s' Γ',v=.int .i64 (res.1:Int)∧h'=cd tw tl (ef res.2.bad) bw s'∧ff tn Γ' res.2 s'∧Γ⊆Γ')∧St w S w' h' []:=⟨_,⟨s',Γ',hv,rfl,hW,hg⟩,hS.dH (List.sublist_append_right _ _)⟩
theorem ff.bad {tn:TypeId} {Γ:List FV} {σ:Sg} {s:Ws} {b:Bool} (h:ff tn Γ σ s):ff tn Γ ⟨σ.ls,b⟩ s:=⟨h.nil,h.cap,h.Bw,h.Ey,h.ctx,h.DL,h.Es⟩
theorem dR {tn tw tl:TypeId} {ef:Bool→Value} {bw:Nat} {Γ Γ':List FV} {res res':Nat×Sg} {s':Ws} {w w':World} {S:List Nat} {pre:Hl} {v:Value} (he:res=res') (hv:v=.int .i64 (res'.1:Int)) (hW:ff tn Γ' res'.2 s') (hg:Γ⊆Γ') (hS:St w S w' (pre++cd tw tl (ef res'.2.bad) bw s') []):
  ∃h',(∃s' Γ',v=.int .i64 (res.1:Int)∧h'=cd tw tl (ef res.2.bad) bw s'∧ff tn Γ' res.2 s'∧Γ⊆Γ')∧St w S w' h' []:=by subst he;exact Gq hv hW hg hS
structure Gl (S:List Nat) (w:World) (a:Option Addr) (xs:List Int):Prop where
  at_:jU w a xs
  sep:∀b o,a=some ⟨b,o,none⟩→b∉S
theorem Gl.ay {S:List Nat} {w0 w:World} {a:Option Addr} {xs:List Int} (h:Gl S w0 a xs) (e:Ex S w0 w):jU w a xs:=jU.ay h.at_ e h.sep
theorem iB.read {w:World} {h0 hR:Hl} (g:iB w (h0++hR)) {b:Nat} {o:Obj} (hm:(some b,o)∈hR):w.heap[b]?=some o∧b∉cI h0:=by
 refine ⟨(g.own _ (List.mem_append_right _ hm) b rfl).1,fun hb=>?_⟩
 obtain ⟨o',ho⟩:=gw.1 hb
 exact (List.pairwise_append.1 g.apart).2.2 _ ho _ hm b rfl rfl
theorem iB.HE {w:World} {h0 hR:Hl} (g:iB w (h0++hR)) {q:Option Nat} {xs:List Int} {e:TypeId} {sp:List Value} (hm:(q,ob bK e xs sp)∈hR) (hq:q=none→xs=[]):Gl (cI h0) w (q.map (fun b=>⟨b,0,none⟩)) xs:=by
 cases q with
 |none=>rw [hq rfl];exact ⟨Sl.nil _ _,fun b o e=>by cases e⟩
 |some b=>exact ⟨Sl.dg (g.read hm).1,fun b' o e=>by cases e;exact (g.read hm).2⟩
theorem ff.put {tn:TypeId} {Γ:List FV} {σ:Sg} {s:Ws} (h:ff tn Γ σ s) {x:FV} (h1:x.sy tn s.H) (h2:x.f.length≤maxLen):ff tn (x::Γ) σ s:=⟨h.nil,h.cap,h.Bw,h.Ey,fun y hy=>by
  rcases List.mem_cons.1 hy with rfl|hy
  ·exact ⟨h1,h2⟩
  exact h.ctx y hy,fun y hy=>List.mem_cons_of_mem _ (h.DL y hy),h.Es⟩
theorem iB.cQ {w:World} {h:Hl} (g:iB w h) (o:Obj):iB w (h++[(none,o)]):=by
 constructor
 ·intro p hp b hb
  rcases List.mem_append.1 hp with hp|hp
  ·exact g.own p hp b hb
  rw [List.mem_singleton.1 hp] at hb;cases hb
 refine List.pairwise_append.2 ⟨g.apart,List.pairwise_singleton _ _,fun p _ q hq b _ hqb=>?_⟩
 rw [List.mem_singleton.1 hq] at hqb;cases hqb
section
variable {P:Program} {tn tw tl:TypeId} {ef:Bool→Value} {bw:Nat} {Γ:List FV} {σ:Sg} {s:Ws}
variable {r:Option Nat} {f:FuncId} {R:Value→World→Prop} {w0:World} {S:List Nat} {Y:List (Nat×Obj)} {n:Nat} {k:List Item} {l:Fl} {ops:Array Oper} {i d:Nat} {rest:List Nat} {ty:TypeId} {pos:String} {aft:Array Edge} {g:Option (Nat×Bool)}
variable {az:Array Operand} {ts:Array TypeId} {cal:Operand} {gf:FuncId} {vs:List Value}
theorem ab.qg {pre hR':Hl} {res:Nat×Sg} (hW:ff tn Γ σ s) (hsub:hR'.Sublist pre) (ho:ops[i]?=some ⟨some d,.call ⟨.value cal,az,ts⟩,ty,pos,aft,g⟩) (hw:au ops l g=true)
  (hc:aU l cal=some (.func (.func gf) #[] #[])) (hx:dq l az.toList=some vs) (hd:Nat.blt d n=true) (hcf:∀args w,(callFunc gf args).run P w=.ok (.enter gf args) w)
  (hcall:∀w Y',St w0 S w (pre++cd tw tl (ef σ.bad) bw s) Y'→rq P tn tw tl ef bw Γ σ gf vs w hR' res)
  (hk:∀s' Γ',ff tn Γ' res.2 s'→Γ⊆Γ'→ab P r f R w0 S Y n (.inRegion ops rest::k) ((d,.int .i64 (res.1:Int))::l) (pre++cd tw tl (ef res.2.bad) bw s')):
  ab P r f R w0 S Y n (.inRegion ops (i::rest)::k) l (pre++cd tw tl (ef σ.bad) bw s):=by
 refine ab.mK (h':=cd tw tl (ef σ.bad) bw s++pre) List.perm_append_comm ?_
 refine ab.iG (h:=cd tw tl (ef σ.bad) bw s) (hF:=pre) (fs:=[]) (cs:=[]) (fun _ v h'=>∃s' Γ',v=.int .i64 (res.1:Int)∧h'=cd tw tl (ef res.2.bad) bw s'∧ff tn Γ' res.2 s'∧Γ⊆Γ') ho hw hc hx hd hcf (fun w Y' hS=>?_) (fun w v h' hR2=>?_)
 ·rw [List.nil_append,List.append_nil]
  have hS2:=hS.perm (List.perm_append_comm (l₁:=cd tw tl (ef σ.bad) bw s) (l₂:=pre))
  exact hcall w _ hS2 s hW (hS.has.sub (List.Sublist.append (List.Sublist.refl _) hsub))
 obtain ⟨s',Γ',rfl,rfl,hW',hs⟩:=hR2
 exact ab.mK List.perm_append_comm (hk s' Γ' hW' hs)
end
theorem ff.own {tn tw tl:TypeId} {Γ:List FV} {σ:Sg} {s:Ws} {er:Value} {bw:Nat} {w0 w:World} {pre:Hl} {Y:List (Nat×Obj)} (h:ff tn Γ σ s) (hS:St w0 [] w (pre++cd tw tl er bw s) Y):gZ tn tl w0 w (cK s.q s.ls.length s.cap) s.ls:=
 ⟨s.q,s.cap,s.sp,s.H,rfl,h.nil,h.cap,(gm.of hS).sub ((List.sublist_cons_self _ _).trans (List.sublist_append_right pre _)),fun x hx=>h.ctx _ (h.DL x hx)⟩
theorem ff.start {tn:TypeId}:ff tn [] ⟨[],false⟩ ⟨none,0,[],[],[]⟩:=by
 refine ⟨fun _=>⟨rfl,rfl⟩,rfl,rfl,Nat.zero_le _,?_,?_,?_⟩<;>(intro _ h;cases h)
end Go.Proofs.Wit
namespace Go.Proofs.Wit
open Go Go.RowKit
structure oO (b:List NV):Prop where
  iY:aV b=0
  B7:∀n∈b,ew b n
section
variable {b:List NV}
theorem oO.x (h:oO b) {i:Nat} (hi:i<b.length) (hX:4≤(nd b i).op):0≤(nd b i).x∧(nd b i).x<i:=by
 rw [dI hi] at*
 have ho:=(aA.1 h.iY).nodes i hi
 have h1:=h.B7 _ (List.getElem_mem hi)
 have hu:cF b[i].op=true:=by unfold cF;unfold ew at h1;simp;omega
 have:=ho.x hu;omega
theorem oO.y (h:oO b) {i:Nat} (hi:i<b.length) (hX:(nd b i).op=5∨(nd b i).op=6):0≤(nd b i).y∧(nd b i).y<i:=by
 rw [dI hi] at*
 have ho:=(aA.1 h.iY).nodes i hi
 have hu:cm b[i].op=true:=by unfold cm;rcases hX with e|e<;>rw [e]<;>rfl
 have:=ho.y hu;omega
theorem oO.node (h:oO b) {i:Nat} (hi:i<b.length):((nd b i).op≤3∧aa b i=.leaf (nd b i).op (nd b i).i (nd b i).e (nd b i).g)∨(((nd b i).op=4∨(nd b i).op=9∨(nd b i).op=10)∧aa b i=.un (nd b i).op (nd b i).i (nd b i).e (nd b i).g (aa b (nd b i).x.toNat))∨(((nd b i).op=5∨(nd b i).op=6)∧aa b i=.bin (nd b i).op (nd b i).i (nd b i).e (nd b i).g (aa b (nd b i).x.toNat) (aa b (nd b i).y.toNat)):=by
 rw [dI hi]
 have hO:=(aA.1 h.iY).nodes
 have hn:=h.B7 _ (List.getElem_mem hi)
 unfold ew at hn
 have hX:cF b[i].op=true↔4≤b[i].op:=by
  unfold cF;simp;omega
 have hY:cm b[i].op=true↔b[i].op=5∨b[i].op=6:=by
  unfold cm;simp;omega
 rcases dE hi hO with ⟨h1,h2⟩|⟨h1,h2,h3⟩|⟨h1,h2⟩
 ·refine .inl ⟨?_,h2⟩
  have:¬4≤b[i].op:=fun e=>by rw [hX.2 e] at h1;cases h1
  omega
 ·refine .inr (.inl ⟨?_,h3⟩)
  have:=hX.1 h1
  have:¬(b[i].op=5∨b[i].op=6):=fun e=>by rw [hY.2 e] at h2;cases h2
  omega
 exact .inr (.inr ⟨hY.1 h1,h2⟩)
theorem oO.nf (h:oO b):∀(i:Nat),i<b.length→mr (aa b i):=by
 intro i
 induction i using Nat.strongRecOn with
 |_ i ih=>
 intro hi
 rcases h.node hi with ⟨h1,h2⟩|⟨h1,h2⟩|⟨h1,h2⟩
 ·rw [h2];exact h1
 ·have hx:=h.x hi (by omega)
  rw [h2]
  by_cases h4:(nd b i).op=4
  ·have hn:=h.B7 _ (List.getElem_mem hi)
   unfold ew at hn
   rw [←dI hi] at hn
   have h3:(nd b (nd b i).x).op=3:=by omega
   obtain ⟨k,hk⟩:∃k:Nat,(nd b i).x=k:=⟨(nd b i).x.toNat,by omega⟩
   rw [hk] at h3⊢
   have hkl:k<b.length:=by omega
   rcases h.node hkl with ⟨g1,g2⟩|⟨g1,g2⟩|⟨g1,g2⟩
   ·rw [Int.toNat_natCast,g2,h3]
    exact .inl ⟨h4,_,_,_,rfl⟩
   ·omega
   omega
  exact .inr ⟨by omega,ih _ (by omega) (by omega)⟩
 have hx:=h.x hi (by omega)
 have hy:=h.y hi h1
 rw [h2]
 exact ⟨h1,ih _ (by omega) (by omega),ih _ (by omega) (by omega)⟩
theorem oO.top (h:oO b):mr (aO b):=by
 have hp:=(aA.1 h.iY).pos
 rw [db]
 exact h.nf _ (by omega)
end
open Classical in
noncomputable def oq (ei:Bool) (f:List NV):Int:=if aV f≠0 then aV f else if ¬∀n∈aj f,ew (aj f) n then 10 else if (aF af ei (aO f) ⟨[],false⟩).2.bad=true then 8 else 0
noncomputable def A6 (ei:Bool) (f:List NV):List LD:=(aF af ei (aO f) ⟨[],false⟩).2.ls.map (fun x=>x.v.d)
end Go.Proofs.Wit
namespace Go.Proofs.Wit
open Go Go.RowKit
structure SP where
  bw:Nat
  bs:Nat
  l:Int
  A:Option Addr
  cA:Nat
  b:List NV
  B:Option Addr
  cB:Nat
  tl:List SV
  x:SV
  full:ax
  Z:Option Addr
  cZ:Nat
  last:List Nat
def SP.cs (p:SP):Array Value:=#[.pointer (some ⟨p.bw,0,none⟩),.int .i64 p.l,.slice p.A p.b.length p.cA,.slice p.B p.tl.length p.cB,U p.x.d.set,.int .i64 p.x.d.av,.int .i64 p.x.d.on,.int .i64 p.x.d.e,.slice p.x.fa p.x.d.fr.length p.x.fc,U p.full,.slice p.Z p.last.length p.cZ]
structure SP.At (p:SP) (t:TypeId) (w:World):Prop where
  dg:w.heap[p.bs]?=some (.cells p.cs t (0,0))
  fa:FA w p.A p.b
  sa:Sl w p.B (p.tl.flatMap SV.cells)
  Er:jU w p.x.fa p.x.d.fr
  Gi:jU w p.Z (p.last.map (fun j:Nat=>(j:Int)))
structure SP.R (p:SP) (t:TypeId) (S:List Nat) (w:World):Prop where
  at_:p.At t w
  s1:p.bs∉S
  s2:∀b o,p.A=some ⟨b,o,none⟩→b∉S
  s3:∀b o,p.B=some ⟨b,o,none⟩→b∉S
  s4:∀b o,p.x.fa=some ⟨b,o,none⟩→b∉S
  s5:∀b o,p.Z=some ⟨b,o,none⟩→b∉S
theorem SP.R.ex {p:SP} {t:TypeId} {S:List Nat} {w w':World} (h:p.R t S w) (e:Ex S w w'):p.At t w':=by
 refine ⟨?_,h.at_.fa.ay e h.s2,Sl.ex h.at_.sa e h.s3,jU.ay h.at_.Er e h.s4,jU.ay h.at_.Gi e h.s5⟩
 have h1:=h.at_.dg
 rw [e.block p.bs (Array.getElem?_eq_some_iff.1 h1).1 h.s1];exact h1
theorem SP.At.ay {p:SP} {t:TypeId} {w w':World} (h:p.At t w) (e:Ex [] w w'):p.At t w':=⟨e.gG h.dg,h.fa.ay e,Sl.ex h.sa e (by simp),h.Er.ay e,h.Gi.ay e⟩
structure SP.In (p:SP) (t tn ts ti:TypeId) (hR:Hl):Prop where
  dg:(some p.bs,.cells p.cs t (0,0))∈hR
  fa:∃q sp,(q,eO tn p.b sp)∈hR∧p.A=q.map (fun b=>⟨b,0,none⟩)∧(q=none→p.b.length=0)
  sa:∃q sp,(q,lX ts p.tl sp)∈hR∧p.B=q.map (fun b=>⟨b,0,none⟩)∧(q=none→p.tl.length=0)
  Er:∃q sp,(q,ob bK ti p.x.d.fr sp)∈hR∧p.x.fa=q.map (fun b=>⟨b,0,none⟩)∧(q=none→p.x.d.fr.length=0)
  Gi:∃q sp,(q,ob bK ti (p.last.map (fun j:Nat=>(j:Int))) sp)∈hR∧p.Z=q.map (fun b=>⟨b,0,none⟩)∧(q=none→p.last.length=0)
theorem SP.In.mono {p:SP} {t tn ts ti:TypeId} {hR hR':Hl} (h:p.In t tn ts ti hR) (hs:hR⊆hR'):p.In t tn ts ti hR':=by
 obtain ⟨h1,⟨q2,s2,a2,b2⟩,⟨q3,s3,a3,b3⟩,⟨q4,s4,a4,b4⟩,⟨q5,s5,a5,b5⟩⟩:=h
 exact ⟨hs h1,⟨q2,s2,hs a2,b2⟩,⟨q3,s3,hs a3,b3⟩,⟨q4,s4,hs a4,b4⟩,⟨q5,s5,hs a5,b5⟩⟩
theorem SP.In.r {p:SP} {t tn ts ti:TypeId} {hR h0:Hl} {w:World} (h:p.In t tn ts ti hR) (g:iB w (h0++hR)):p.R t (cI h0) w:=by
 obtain ⟨h1,⟨q2,s2,a2,b2,c2⟩,⟨q3,s3,a3,b3,c3⟩,⟨q4,s4,a4,b4,c4⟩,⟨q5,s5,a5,b5,c5⟩⟩:=h
 obtain ⟨k1,k2⟩:=g.read h1
 have hsep:∀{a:Option Addr} {q:Option Nat} {o':Obj},(q,o')∈hR→a=q.map (fun b=>(⟨b,0,none⟩:Addr))→∀b o,a=some ⟨b,o,none⟩→b∉cI h0:=fun hm e b o e2=>by
  rename_i a q o'
  subst e
  cases q with
  |none=>cases e2
  |some b'=>cases e2;exact (g.read hm).2
 refine ⟨⟨k1,?_,?_,?_,?_⟩,k2,hsep a2 b2,hsep a3 b3,hsep a4 b4,hsep a5 b5⟩
 ·rw [b2]
  cases q2 with
  |none=>rw [List.eq_nil_of_length_eq_zero (c2 rfl)];exact ⟨Sl.nil _ _⟩
  |some b=>exact ⟨Sl.dg (g.read a2).1⟩
 ·rw [b3]
  cases q3 with
  |none=>rw [List.eq_nil_of_length_eq_zero (c3 rfl)];exact Sl.nil _ _
  |some b=>exact Sl.dg (g.read a3).1
 ·rw [b4]
  cases q4 with
  |none=>rw [List.eq_nil_of_length_eq_zero (c4 rfl)];exact Sl.nil _ _
  |some b=>exact Sl.dg (g.read a4).1
 rw [b5]
 cases q5 with
 |none=>rw [List.eq_nil_of_length_eq_zero (c5 rfl)];exact Sl.nil _ _
 |some b=>exact Sl.dg (g.read a5).1
theorem SP.At.part {p:SP} {t:TypeId} {w:World} (h:p.At t w) {o:Nat} {cs:List Value} (hc:∀j,j<cs.length→p.cs[o+j]?=cs[j]?):∀j v,cs[j]?=some v→w.cell? ((⟨p.bs,o,none⟩:Addr).add j)=some v:=fun j v hv=>by
 have hj:=(List.getElem?_eq_some_iff.1 hv).1
 have e1:(⟨p.bs,o,none⟩:Addr).add j=⟨p.bs,o+j,none⟩:=by
  unfold Addr.add;split
  ·rename_i h0;rw [h0];rfl
  rfl
 rw [e1]
 exact Ex.cell (Ex.refl _ _) h.dg (by rw [hc j hj];exact hv)
structure Gn (S:List Nat) (w:World) (a:Option Addr) (xs:List Value):Prop where
  at_:Sl w a xs
  sep:∀b o,a=some ⟨b,o,none⟩→b∉S
theorem Gn.ay {S:List Nat} {w0 w:World} {a:Option Addr} {xs:List Value} (h:Gn S w0 a xs) (e:Ex S w0 w):Gn S w a xs:=⟨Sl.ex h.at_ e h.sep,h.sep⟩
theorem SP.R.HF {p:SP} {t:TypeId} {S:List Nat} {w:World} (h:p.R t S w):Gn S w p.B (p.tl.flatMap SV.cells):=⟨h.at_.sa,h.s3⟩
theorem SP.R.Ez {p:SP} {t:TypeId} {S:List Nat} {w:World} (h:p.R t S w):Cv S w p.A p.b:=⟨h.at_.fa.at_,h.s2⟩
def SP.ag (p:SP):Int:=if p.x.d.av=7 then p.x.d.on else (nd p.b p.x.d.on).i
def SP.S0 (p:SP):ax:=dc (fg p.tl) (p.x.d.fr.getD 0 0)
def SP.own (p:SP):List Nat:=if p.x.d.av=6 then dX (p.S0 &&& ~~~ bW (nd p.b p.x.d.on).x) else dX p.S0
def SP.ns (p:SP):List Nat:=if p.x.d.av=6 then p.own else p.own.dropLast
def SP.tg (p:SP):Nat:=if p.x.d.av=6 then (nd p.b p.x.d.on).x.toNat else p.own.getLastD 0
def SP.line (p:SP):Nat:=p.last.getD (p.x.d.fr.getD 0 0).toNat 0
structure SP.Ok (p:SP) (k:Nat):Prop where
  base:aY p.b
  full:js p.b p.full
  lQ:ej p.l p.b (fg p.tl) k p.x.d
  Ig:k<p.tl.length
  Fp:p.last.length=k
  ug:∀j:Nat,j<p.tl.length→js p.b (dc (fg p.tl) (j:Int))
  ne:∀j:Nat,j<p.tl.length→dX (dc (fg p.tl) (j:Int))≠[]
  Ip:p.x.d.av=6∨p.x.d.av=7→∀n∈p.own,fz p.b p.full p.ag n=n→(nd p.b n).op=9∨(nd p.b n).op=10
  Is:p.x.d.av=6∨p.x.d.av=7→0≤p.ag∧p.ag<4
noncomputable def Fk (p:SP) (G:Tr) (σ:Sg):Nat×Sg:=uy af p.b G p.full p.ag p.ns p.tg p.own (decide (p.x.d.av=6)) p.line σ
theorem AI {s u:ax} {n:Nat} (h:n∈dX (s &&& u)):n∈dX s:=cW.2 (by
 have:=cW.1 h
 rw [BitVec.getLsbD_and,Bool.and_eq_true] at this;exact this.1)
theorem SP.vn {p:SP} {n:Nat} (h:n∈p.own):n∈dX p.S0:=by
 unfold SP.own at h
 split at h
 ·exact AI h
 exact h
theorem SP.C7 {p:SP} {n:Nat} (h:n∈p.ns):n∈p.own:=by
 unfold SP.ns at h
 split at h
 ·exact h
 exact (List.dropLast_sublist _).subset h
theorem AJ {s:ax}:(dX s).length≤64:=by
 have:=List.length_filter_le (fun i=>s.getLsbD i) (List.range 64)
 simpa [dX] using this
theorem SP.AN {p:SP}:p.own.length≤64:=by unfold SP.own;split<;>exact AJ
theorem SP.AR {p:SP}:p.own.take p.ns.length=p.ns:=by
 unfold SP.ns;split
 ·exact List.take_length
 rw [List.length_dropLast,List.dropLast_eq_take]
theorem SP.Fb {p:SP}:p.ns.length≤p.own.length:=by
 unfold SP.ns;split
 ·exact Nat.le_refl _
 rw [List.length_dropLast];omega
section
variable {P:Program} {tn tw tl:TypeId} {er:Value} {bw:Nat} {Γ:List FV} {σ:Sg} {s:Ws}
variable {r:Option Nat} {f:FuncId} {R:Value→World→Prop} {w0:World} {S:List Nat} {Y:List (Nat×Obj)} {n:Nat} {k:List Item} {l:Fl} {ops:Array Oper} {i d:Nat} {rest:List Nat} {ty:TypeId} {pos:String} {aft:Array Edge} {g:Option (Nat×Bool)}
variable {az:Array Operand} {ts:Array TypeId} {cal:Operand} {gf:FuncId} {vs:List Value} {u:Tr}
theorem ab.zS {pre:Hl} {y:FV} (hW:ff tn Γ σ s) (hy:y∈Γ) (hyz:y.Z) (ho:ops[i]?=some ⟨some d,.call ⟨.value cal,az,ts⟩,ty,pos,aft,g⟩) (hw:au ops l g=true)
  (hc:aU l cal=some (.func (.func gf) #[] #[])) (hx:dq l az.toList=some vs) (hd:Nat.blt d n=true) (hcf:∀args w,(callFunc gf args).run P w=.ok (.enter gf args) w)
  (hcall:∀w Y',St w0 S w (pre++cd tw tl er bw s) Y'→Cn P gf vs w (fun v w'=>(v=y.v∧y.f=bT u)∨fY tn w w' v (bT u)))
  (hk:∀x s' Γ',x∈Γ'→Γ⊆Γ'→x.f=bT u→x.Z→ff tn Γ' σ s'→ab P r f R w0 S Y n (.inRegion ops rest::k) ((d,x.v)::l) (pre++cd tw tl er bw s')):
  ab P r f R w0 S Y n (.inRegion ops (i::rest)::k) l (pre++cd tw tl er bw s):=by
 refine ab.ni (fun w v w'=>(v=y.v∧y.f=bT u)∨fY tn w w' v (bT u)) ho hw hc hx hd hcf hcall (fun v w w' Y' hS he hO=>?_)
 rcases hO with ⟨rfl,hf⟩|⟨ho,hz⟩
 ·exact ⟨_,hS.later he,hk y s Γ hy (fun _ h=>h) hf hyz hW⟩
 obtain ⟨q,cap,sp,rfl,hq,ao,hS'⟩:=ak hS he ho
 refine ⟨_,hS'.perm mL,?_⟩
 rw [je]
 refine hk _ _ _ (List.mem_cons_self ..) (fun _ h=>List.mem_cons_of_mem _ h) rfl (fun e=>?_) (hW.add hq gz)
 have:=hz e
 cases q with
 |none=>rfl
 |some b=>cases this
end
section
variable {P:Program} {tn tw tl:TypeId} {er:Value} {ef:Bool→Value} {bw:Nat} {Γ:List FV} {σ:Sg} {s:Ws}
variable {r:Option Nat} {f:FuncId} {R:Value→World→Prop} {w0:World} {S:List Nat} {Y:List (Nat×Obj)} {n:Nat} {k:List Item} {l:Fl} {ops:Array Oper} {i d:Nat} {ty:TypeId} {pos:String} {aft:Array Edge} {g:Option (Nat×Bool)}
variable {az:Array Operand} {ts:Array TypeId} {cal:Operand} {gf:FuncId} {vs:List Value} {u:Tr} {hb:Hl} {q:Nat} {Dn:List Nat} {h:Hl}
theorem aG.two {i j d e:Nat} (h1:aB ops Dn=[i,j]) (hi:dk P w0 S n h ops i l d (fun v h'=>hb.Sublist h'∧aG P r f R w0 S Y n k ops hb q (i::Dn) ((d,v)::l) h')) (hd:Nat.blt d n=true) (hj:dk P w0 S n h ops j l e (fun v h'=>hb.Sublist h'∧aG P r f R w0 S Y n k ops hb q (j::Dn) ((e,v)::l) h')) (he:Nat.blt e n=true):aG P r f R w0 S Y n k ops hb (q+1) Dn l h:=by
 intro t hF
 rw [Dt]
 refine .inr ⟨by rw [h1];simp,fun m hm=>?_⟩
 rw [h1] at hm
 simp only [List.mem_cons,List.not_mem_nil,or_false] at hm
 rcases hm with rfl|rfl
 ·exact fV.of hi hF (fun v h' ⟨e1,e2⟩=>⟨e1,e2 _ (hF.put v hd)⟩)
 exact fV.of hj hF (fun v h' ⟨e1,e2⟩=>⟨e1,e2 _ (hF.put v he)⟩)
theorem dk.zS {K:Value→Hl→Prop} {pre:Hl} {y:FV} (hW:ff tn Γ σ s) (hy:y∈Γ) (hyz:y.Z) (ho:ops[i]?=some ⟨some d,.call ⟨.value cal,az,ts⟩,ty,pos,aft,g⟩) (hw:au ops l g=true)
  (hc:aU l cal=some (.func (.func gf) #[] #[])) (hx:dq l az.toList=some vs) (hd:Nat.blt d n=true) (hcf:∀args w,(callFunc gf args).run P w=.ok (.enter gf args) w)
  (hcall:∀w Y',St w0 S w (pre++cd tw tl er bw s) Y'→Cn P gf vs w (fun v w'=>(v=y.v∧y.f=bT u)∨fY tn w w' v (bT u)))
  (hk:∀x s' Γ',x∈Γ'→Γ⊆Γ'→x.f=bT u→x.Z→ff tn Γ' σ s'→K x.v (pre++cd tw tl er bw s')):dk P w0 S n (pre++cd tw tl er bw s) ops i l d K:=by
 refine dk.call (fun w v w'=>(v=y.v∧y.f=bT u)∨fY tn w w' v (bT u)) ho hw hc hx hd hcf hcall (fun v w w' Y' hS he hO=>?_)
 rcases hO with ⟨rfl,hf⟩|⟨ho,hz⟩
 ·exact ⟨_,hS.later he,hk y s Γ hy (fun _ h=>h) hf hyz hW⟩
 obtain ⟨q,cap,sp,rfl,hq,ao,hS'⟩:=ak hS he ho
 refine ⟨_,hS'.perm mL,?_⟩
 rw [je]
 refine hk _ _ _ (List.mem_cons_self ..) (fun _ h=>List.mem_cons_of_mem _ h) rfl (fun e=>?_) (hW.add hq gz)
 have:=hz e
 cases q with
 |none=>rfl
 |some b=>cases this
theorem dk.iD {K:Value→Hl→Prop} {pre:Hl} (hW:ff tn Γ σ s) (ho:ops[i]?=some ⟨some d,.call ⟨.value cal,az,ts⟩,ty,pos,aft,g⟩) (hw:au ops l g=true)
  (hc:aU l cal=some (.func (.func gf) #[] #[])) (hx:dq l az.toList=some vs) (hd:Nat.blt d n=true) (hcf:∀args w,(callFunc gf args).run P w=.ok (.enter gf args) w)
  (hcall:∀w Y',St w0 S w (pre++cd tw tl er bw s) Y'→Cn P gf vs w (fun v w'=>fY tn w w' v (bT u)))
  (hk:∀x s',x.f=bT u→x.Z→ff tn (x::Γ) σ s'→K x.v (pre++cd tw tl er bw s')):dk P w0 S n (pre++cd tw tl er bw s) ops i l d K:=by
 refine dk.call (fun w v w'=>fY tn w w' v (bT u)) ho hw hc hx hd hcf hcall (fun v w w' Y' hS he hO=>?_)
 obtain ⟨ho,hz⟩:=hO
 obtain ⟨q,cap,sp,rfl,hq,ao,hS'⟩:=ak hS he ho
 refine ⟨_,hS'.perm mL,?_⟩
 rw [je]
 refine hk _ _ rfl (fun e=>?_) (hW.add hq gz)
 have:=hz e
 cases q with
 |none=>rfl
 |some b=>cases this
theorem dk.uw {K:Value→Hl→Prop} {pre:Hl} (hW:ff tn Γ σ s) (ho:ops[i]?=some ⟨some d,.call ⟨.value cal,az,ts⟩,ty,pos,aft,g⟩) (hw:au ops l g=true)
  (hc:aU l cal=some (.func (.func gf) #[] #[])) (hx:dq l az.toList=some vs) (hd:Nat.blt d n=true) (hcf:∀args w,(callFunc gf args).run P w=.ok (.enter gf args) w)
  (hcall:∀w Y',St w0 S w (pre++cd tw tl er bw s) Y'→Cn P gf vs w (fun v w'=>aI tn w w' v (bT u)))
  (hk:∀x s',x.f=bT u→ff tn (x::Γ) σ s'→K x.v (pre++cd tw tl er bw s')):dk P w0 S n (pre++cd tw tl er bw s) ops i l d K:=by
 refine dk.call (fun w v w'=>aI tn w w' v (bT u)) ho hw hc hx hd hcf hcall (fun v w w' Y' hS he hO=>?_)
 obtain ⟨q,cap,sp,rfl,hq,ao,hS'⟩:=ak hS he hO
 refine ⟨_,hS'.perm mL,?_⟩
 rw [je]
 exact hk _ _ rfl (hW.add hq gz)
theorem dk.bu {K:Value→Hl→Prop} {pre hR hR':Hl} {s0:Ws} {er0:Value} {res:Nat×Sg} (h0:iB w0 (cd tw tl er0 bw s0++hR)) (hW:ff tn Γ σ s) (hsub:hR'.Sublist (pre++hR)) (ho:ops[i]?=some ⟨some d,.call ⟨.value cal,az,ts⟩,ty,pos,aft,g⟩) (hw:au ops l g=true)
  (hc:aU l cal=some (.func (.func gf) #[] #[])) (hx:dq l az.toList=some vs) (hd:Nat.blt d n=true) (hcf:∀args w,(callFunc gf args).run P w=.ok (.enter gf args) w)
  (hcall:∀w Y',St w0 (cI (cd tw tl er0 bw s0)) w (pre++cd tw tl (ef σ.bad) bw s) Y'→rq P tn tw tl ef bw Γ σ gf vs w hR' res)
  (hk:∀s' Γ',ff tn Γ' res.2 s'→Γ⊆Γ'→K (.int .i64 (res.1:Int)) (pre++cd tw tl (ef res.2.bad) bw s')):dk P w0 (cI (cd tw tl er0 bw s0)) n (pre++cd tw tl (ef σ.bad) bw s) ops i l d K:=by
 have hp:(pre++cd tw tl (ef σ.bad) bw s).Perm (cd tw tl (ef σ.bad) bw s++pre):=List.perm_append_comm
 refine ⟨_,ho,rfl,rfl,rfl,hd,.inl ⟨hw,fun t w Ds Y' hF' hS=>.inr ⟨gf,vs.toArray,fun v w'=>∃h',(∃s' Γ',v=.int .i64 (res.1:Int)∧h'=cd tw tl (ef res.2.bad) bw s'∧ff tn Γ' res.2 s'∧Γ⊆Γ')∧St w (cI (cd tw tl (ef σ.bad) bw s)) w' h' [],?_,?_,fun v w' ⟨h',h1,h2⟩=>?_⟩⟩⟩
 ·have e1:=gh (P:=P) (ty:=ty) (ts:=ts) (Ds:=Ds) (w:=w) (first:=#[]) (captured:=#[]) hF' hc hx
  simp only [execOp,Sem.run_bind,e1,Result.andThen_ok,invoke,hcf]
  simp
 ·have:=hcall w Y' hS s hW ((h0.stay hS).sub (List.Sublist.append (List.Sublist.refl _) hsub))
  exact Calls.mono this (fun e w' ⟨v,h',e1,e2,e3⟩=>⟨v,e1,h',e2,e3⟩)
 obtain ⟨s',Γ',rfl,rfl,hW',hs'⟩:=h1
 exact ⟨_,((hS.perm hp).frame h2).perm List.perm_append_comm,hk s' Γ' hW' hs'⟩
end
theorem vi {w:World} {a:Option Addr} {xs:List Value} (h:Sl w a xs) (n:Nat):Sl w a (xs.take n):=by
 refine ⟨fun hp=>h.isSome (by rw [List.length_take] at hp;omega),fun j hj=>?_⟩
 rw [List.length_take] at hj
 rw [h.cell j (by omega)]
 simp [List.getD_eq_getElem?_getD,show j<n by omega]
end Go.Proofs.Wit
namespace Go.Proofs.Wit
open Go Go.RowKit
section
variable {l:Int} {b:List NV} {L:List SD}
theorem zp (hb:aY b) {s:ax} {a:Int} {n:Nat} (hn:(lz l b s a).getLsbD n=true) (he:fz b s a n=n):(nd b n).op=9∨(nd b n).op=10:=by
 obtain ⟨z,_,h⟩:=p8 hb hn he
 obtain ⟨i,h1,_⟩:=(j9 hb).1 hn
 have hnb:n<b.length:=by
  rcases h with ⟨h,_⟩|⟨h,_⟩
  all_goals
   refine Classical.byContradiction fun e=>?_
   have:aa b n=aa b n:=rfl
   obtain ⟨i,h1,h2,h3,h4⟩:=(j9 hb).1 hn
   rcases h4 with ⟨h4,h5⟩|⟨h4,_⟩
   ·have:=hb.x h1 (by omega);omega
   omega
 rcases hb.node hnb with ⟨g1,g2⟩|⟨g1,g2⟩|⟨g1,g2⟩
 ·rcases h with ⟨h,_⟩|⟨h,_⟩<;>rw [g2] at h<;>cases h
 ·rcases h with ⟨h,_⟩|⟨h,_⟩<;>rw [g2] at h<;>injection h with h1<;>omega
 rcases h with ⟨h,_⟩|⟨h,_⟩<;>rw [g2] at h<;>cases h
theorem iA.Gw (h:iA l b L) {p:SP} {q:Nat} (e1:p.l=l) (e2:p.b=b) (e3:fg p.tl=dz b L) (hq:q<p.tl.length) (e4:p.x=p.tl[q]) (e5:p.full=(cP L L.length).getD q 0#64) (e6:p.last.length=q):p.Ok q:=by
 have hb:=h.base
 have ht:=h.tr
 have htl:p.tl.length=(dz b L).length:=by rw [←e3,eL]
 have hqt:q<(dz b L).length:=by omega
 have hxd:p.x.d=(dz b L)[q]:=by
  rw [e4]
  have:(fg p.tl)[q]'(by rw [eL];exact hq)=p.tl[q].d:=mj hq
  rw [←this];simp only [e3]
 obtain ⟨k,hk,hn,hkq,htq⟩:=ub hqt
 have hfull:p.full=L[k].set:=by rw [e5,List.getD_eq_getElem?_getD,←hkq,rS hn (Nat.le_refl _) hk hk];rfl
 have hcor:=ht.lQ q hqt
 rw [←hxd] at hcor htq
 have hru:p.x.d.av=L[k].av:=by rw [htq];rfl
 have hon:p.x.d.on=L[k].on:=by rw [htq];rfl
 have hfr:p.x.d.fr=L[k].fr.map (fun j=>((bJ (dO L) j.toNat:Nat):Int)):=by rw [htq];rfl
 have hS0:∀j:Nat,L[k].fr=[(j:Int)]→p.S0=oQ b L j:=fun j hj=>by
  have hm:(j:Int)∈L[k].fr:=by rw [hj];simp
  unfold SP.S0
  rw [hfr,hj,e3]
  exact rD (by have:=(h.pre hk hn hm).2.1;omega) (h.pre hk hn hm).1
 have mV:=h.ER hk
 have hag9:∀{o:Nat},o<b.length→(nd b o).op=10→0≤(nd b o).i∧(nd b o).i<4:=fun {o} ho h2=>by
  have hok:=hb.ok ho
  rcases hb.node ho with ⟨g1,g2⟩|⟨g1,g2⟩|⟨g1,g2⟩
  ·omega
  ·rw [g2] at hok;exact (mQ hok (by omega)).1
  omega
 refine ⟨e2 ▸ hb,?_,?_,hq,e6,fun j hj=>?_,fun j hj=>?_,fun h67 n hno hsn=>?_,fun h67=>?_⟩
 ·rw [hfull,e2];exact (h.lQ k hk).1
 ·rw [e1,e2,e3];exact hcor
 ·rw [e3,e2,eJ (by omega)];exact (ht.lQ j (by omega)).1
 ·obtain ⟨n,h1,_⟩:=ht.yW j (by omega)
  have h2:=ht.sub j (by omega) n h1
  rw [e3,eJ (by omega)]
  exact fun e=>by have:=cW.2 h2;rw [e] at this;cases this
 ·rw [e2] at hsn⊢
  have hns:=SP.vn hno
  cases mV with
  |Ch o g1=>omega
  |neg o e g1=>omega
  |and o j g1=>omega
  |or o j i g1=>omega
  |cut o e j i g1=>omega
  |t o j g1=>omega
  |k o j g1 g2 g3 g4 g5 g6 g7 g8 g9 g10=>
   have hag:p.ag=(nd b o).i:=by unfold SP.ag;rw [if_neg (by omega),e2,hon,g5]
   rw [hS0 j g3] at hns
   have hnx:(n:Int)≠(nd b o).x:=fun e=>by
    have hx:=hb.x g6 (by omega)
    unfold SP.own at hno
    rw [if_pos (by omega),cW,gv,e2,hon,g5,od (by have:=hb.len;omega)] at hno
    exact hno.2 e
   have:=g9 n (by
    have hm:(j:Int)∈L[k].fr:=by rw [g3];simp
    have:=(h.pre hk hn hm).2.1
    rw [eJ (by omega)];exact h.sub j (by omega) n (cW.1 hns))
   rw [hag,hfull] at hsn
   exact zp hb (this.resolve_right hnx) hsn
  |d j g1 g2 g3 g4 g5 g6 g7 g8=>
   have hag:p.ag=L[k].on:=by unfold SP.ag;rw [if_pos (by omega),hon]
   rw [hS0 j g4] at hns
   rw [hag,hfull] at hsn
   exact zp hb (g7 n (by
    have hm:(j:Int)∈L[k].fr:=by rw [g4];simp
    have:=(h.pre hk hn hm).2.1
    rw [eJ (by omega)];exact h.sub j (by omega) n (cW.1 hns))) hsn
 cases mV with
 |Ch o g1=>omega
 |neg o e g1=>omega
 |and o j g1=>omega
 |or o j i g1=>omega
 |cut o e j i g1=>omega
 |t o j g1=>omega
 |k o j g1 g2 g3 g4 g5 g6 g7 g8 g9 g10=>
  unfold SP.ag;rw [if_neg (by omega),e2,hon,g5]
  exact hag9 g6 g8
 |d j g1 g2 g3 g4 g5 g6 g7 g8=>
  unfold SP.ag;rw [if_pos (by omega),hon];exact g6
theorem sR {T:Tr→Prop} {tl:List SD} {fl:List ax} {q:Nat}:∀{r:Nat},q≤r→r≤tl.length→(aW T b tl fl q).2.Le (aW T b tl fl r).2
 |0,h,_=>by rw [show q=0 by omega];exact Sg.Le.refl _
 |r+1,h,h2=>by
  by_cases e:q=r+1
  ·rw [e];exact Sg.Le.refl _
  refine (sR (r:=r) (by omega) (by omega)).trans ?_
  rw [eK (by omega)];exact sH
theorem AK {T:Tr→Prop}:(aW T b (dz b L) (cP L L.length) (dz b L).length).2.Le (gF T b L).2:=by
 unfold gF;dsimp only
 split
 ·exact Sg.Le.refl _
 exact cX
open Classical in
noncomputable def CZ (l:Int) (b:List NV) (L:List SD):Int:=if qu l b L≠0 then qu l b L else if (gF af b L).2.bad=true then 8 else 0
noncomputable def Gg (b:List NV) (L:List SD):List LD:=(gF af b L).2.ls.map (fun x=>x.v.d)
end
section
variable {P:Program} {tn tw tl:TypeId} {ef:Bool→Value} {bw:Nat} {Γ:List FV} {σ:Sg} {s:Ws}
variable {r:Option Nat} {f:FuncId} {R:Value→World→Prop} {w0:World} {S:List Nat} {Y:List (Nat×Obj)} {n:Nat} {k:List Item} {l:Fl} {ops:Array Oper} {i d:Nat} {rest:List Nat} {ty:TypeId} {pos:String} {aft:Array Edge} {g:Option (Nat×Bool)}
variable {az:Array Operand} {ts:Array TypeId} {cal:Operand} {gf:FuncId} {vs:List Value}
theorem B4 {pre H:Hl} {er:Value}:(pre++(cd tw tl er bw s++H)).Perm ((pre++H)++cd tw tl er bw s):=by
 rw [List.append_assoc]
 exact List.Perm.append_left pre List.perm_append_comm
theorem ab.DX {pre H hR':Hl} {res:Nat×Sg} (hW:ff tn Γ σ s) (hsub:hR'.Sublist (pre++H)) (ho:ops[i]?=some ⟨some d,.call ⟨.value cal,az,ts⟩,ty,pos,aft,g⟩) (hw:au ops l g=true)
  (hc:aU l cal=some (.func (.func gf) #[] #[])) (hx:dq l az.toList=some vs) (hd:Nat.blt d n=true) (hcf:∀args w,(callFunc gf args).run P w=.ok (.enter gf args) w)
  (hcall:∀w Y',St w0 S w ((pre++H)++cd tw tl (ef σ.bad) bw s) Y'→rq P tn tw tl ef bw Γ σ gf vs w hR' res)
  (hk:∀s' Γ',ff tn Γ' res.2 s'→Γ⊆Γ'→ab P r f R w0 S Y n (.inRegion ops rest::k) ((d,.int .i64 (res.1:Int))::l) (pre++(cd tw tl (ef res.2.bad) bw s'++H))):
  ab P r f R w0 S Y n (.inRegion ops (i::rest)::k) l (pre++(cd tw tl (ef σ.bad) bw s++H)):=by
 refine ab.mK B4 ?_
 refine ab.qg hW hsub ho hw hc hx hd hcf hcall (fun s' Γ' hW' hg'=>?_)
 exact ab.mK B4.symm (hk s' Γ' hW' hg')
theorem ab.GM {h h':Hl} (hm:∀w Y',St w0 S w h Y'→St w0 S w h' Y') (hg:ab P r f R w0 S Y n k l h'):ab P r f R w0 S Y n k l h:=fun t w Ds hF hS=>hg t w Ds hF (hm w _ hS)
theorem dk.qg {K:Value→Hl→Prop} {pre hR':Hl} {res:Nat×Sg} (hW:ff tn Γ σ s) (hsub:hR'.Sublist pre) (ho:ops[i]?=some ⟨some d,.call ⟨.value cal,az,ts⟩,ty,pos,aft,g⟩) (hw:au ops l g=true)
  (hc:aU l cal=some (.func (.func gf) #[] #[])) (hx:dq l az.toList=some vs) (hd:Nat.blt d n=true) (hcf:∀args w,(callFunc gf args).run P w=.ok (.enter gf args) w)
  (hcall:∀w Y',St w0 S w (pre++cd tw tl (ef σ.bad) bw s) Y'→rq P tn tw tl ef bw Γ σ gf vs w hR' res)
  (hk:∀s' Γ',ff tn Γ' res.2 s'→Γ⊆Γ'→K (.int .i64 (res.1:Int)) (pre++cd tw tl (ef res.2.bad) bw s')):dk P w0 S n (pre++cd tw tl (ef σ.bad) bw s) ops i l d K:=by
 have hp:(pre++cd tw tl (ef σ.bad) bw s).Perm (cd tw tl (ef σ.bad) bw s++pre):=List.perm_append_comm
 refine ⟨_,ho,rfl,rfl,rfl,hd,.inl ⟨hw,fun t w Ds Y' hF' hS=>.inr ⟨gf,vs.toArray,fun v w'=>∃h',(∃s' Γ',v=.int .i64 (res.1:Int)∧h'=cd tw tl (ef res.2.bad) bw s'∧ff tn Γ' res.2 s'∧Γ⊆Γ')∧St w (cI (cd tw tl (ef σ.bad) bw s)) w' h' [],?_,?_,fun v w' ⟨h',h1,h2⟩=>?_⟩⟩⟩
 ·have e1:=gh (P:=P) (ty:=ty) (ts:=ts) (Ds:=Ds) (w:=w) (first:=#[]) (captured:=#[]) hF' hc hx
  simp only [execOp,Sem.run_bind,e1,Result.andThen_ok,invoke,hcf]
  simp
 ·have:=hcall w Y' hS s hW ((hS.perm hp).has.sub (List.Sublist.append (List.Sublist.refl _) hsub))
  exact Calls.mono this (fun e w' ⟨v,h',e1,e2,e3⟩=>⟨v,e1,h',e2,e3⟩)
 obtain ⟨s',Γ',rfl,rfl,hW',hs'⟩:=h1
 exact ⟨_,((hS.perm hp).frame h2).perm List.perm_append_comm,hk s' Γ' hW' hs'⟩
end
end Go.Proofs.Wit
namespace Go.Proofs.Wit
open Go Go.RowKit
theorem tI:∀(xs:List Tr),∃l:List Tr,l.Nodup∧(∀u,u∈l↔u∈xs)∧l.length≤xs.length
 |[]=>⟨[],List.nodup_nil,fun _=>Iff.rfl,Nat.le_refl _⟩
 |x::xs=>by
  obtain ⟨l,h1,h2,h3⟩:=tI xs
  by_cases h:x∈l
  ·exact ⟨l,h1,fun u=>by rw [h2,List.mem_cons];exact ⟨.inr,fun e=>e.elim (fun e=>by rw [e];exact (h2 x).1 h) id⟩,by simp;omega⟩
  exact ⟨x::l,List.nodup_cons.2 ⟨h,h1⟩,fun u=>by rw [List.mem_cons,List.mem_cons,h2],by simp;omega⟩
theorem DP {t:Tr} (h:(kH t).length≤10):af t:=by
 obtain ⟨l,h1,h2,h3⟩:=tI (kH t)
 exact ⟨l,h1,h2,by omega⟩
def Gh (t:Tr) (r:Int) (ls:List TL):Bool:=decide ((bS t).length≤200) && (decide (ls.length<400) && (decide (r≠1)||decide ((kH t).length≤10)))
theorem jo {t:Tr} {r:Int} {a b:Nat} {g:Int} {ls:List TL} (h:Gh t r ls=true):bQ af t r a b g ⟨ls,false⟩=(ls.length,⟨ls++[⟨t,r,a,b,g⟩],false⟩):=by
 unfold Gh at h
 simp only [Bool.and_eq_true,Bool.or_eq_true,decide_eq_true_eq] at h
 obtain ⟨h1,h2,h3⟩:=h
 rw [bQ,if_neg]
 rintro (e|e|e|⟨e1,e2⟩)
 ·cases e
 ·exact e h1
 ·dsimp only at e;omega
 rcases h3 with h3|h3
 ·exact h3 e1
 exact e2 (DP h3)
theorem rJ {t:Tr} (h:decide ((bS (aE t)).length≤200)=true):eR t=(aN t).2:=by
 unfold eR;split
 ·rfl
 rename_i h2;exact absurd (of_decide_eq_true h:(bS (aE t)).length≤200) h2
theorem AP:eR pT=aE pT:=by rw [rJ (by decide+kernel)];decide+kernel
theorem B6:eR (aE pT)=pT:=by rw [rJ (by decide+kernel)];decide+kernel
theorem GF:eR (ar 0 pT)=gi 0 (aE pT):=by rw [rJ (by decide+kernel)];decide+kernel
theorem lO {g u:Tr} {fr:List Nat} {ls:List TL} (hu:u=ct (fr.map (fM ⟨ls,false⟩)) g) (h:Gh u 1 ls=true):aX af g fr ⟨ls,false⟩=lg af g (fr.map (fun n=>(n,fM ⟨ls,false⟩ n))) ls.length ⟨ls++[⟨u,1,0,0,0⟩],false⟩:=by
 rw [aX,if_neg (by simp),←hu,jo h]
theorem lK {g u t:Tr} {n m:Nat} {ps:List (Nat×Tr)} {ls:List TL} (hu:u=ct (ps.map (·.2)) g) (h:Gh u 10 ls=true):lg af g ((m,t)::ps) n ⟨ls,false⟩=lg af g ps ls.length ⟨ls++[⟨u,10,m,n,0⟩],false⟩:=by
 rw [lg,←hu,jo h]
abbrev C9:Tr:=aE (aE pT)
abbrev DW (ei:Bool):Tr:=if ei=true then .bin 6 0 0 0 pT (aE pT) else aE (ju pT (aE pT))
abbrev BC (ei:Bool):Tr:=if ei=true then .bin 6 0 0 0 (ar 0 pT) (gi 0 (aE pT)) else aE (ju (ar 0 pT) (gi 0 (aE pT)))
abbrev kP (ei:Bool):Tr:=if ei=true then C9 else pT
abbrev kQ (ei:Bool):Tr:=if ei=true then pT else C9
abbrev GN (ei:Bool):List TL:=[⟨DW ei,1,0,0,0⟩]
abbrev yD (ei:Bool):List TL:=[⟨DW ei,1,0,0,0⟩,⟨aR (DW ei) (aR (kP ei) (kQ ei)),1,0,0,0⟩,⟨aR (kP ei) (kQ ei),10,0,1,0⟩]
abbrev Di (ei:Bool):List TL:=yD ei++[⟨ar 0 (aR (kP ei) (kQ ei)),11,2,0,0⟩,⟨aR (ar 0 (aR (kP ei) (kQ ei))) (aR (ar 0 (kP ei)) (ar 0 (kQ ei))),2,0,0,0⟩,⟨aR (ar 0 (kP ei)) (ar 0 (kQ ei)),10,3,4,0⟩,⟨nF (gi 0 (aE pT)) (aE (ar 0 C9)),7,0,0,0⟩]
abbrev Gj (ei:Bool):List TL:=Di ei++[⟨aR (aR (ar 0 (kP ei)) (ar 0 (kQ ei))) (aR (nF (gi 0 (aE pT)) (aE (ar 0 C9))) (BC ei)),1,0,0,0⟩,⟨aR (nF (gi 0 (aE pT)) (aE (ar 0 C9))) (BC ei),10,5,7,0⟩,⟨BC ei,10,6,8,0⟩]
theorem G1 {ei:Bool}:jt ei pT=DW ei:=by unfold jt DW;rw [AP]
theorem G2 {ei:Bool}:jt ei (ar 0 pT)=BC ei:=by unfold jt BC;rw [GF]
theorem Dl {ei:Bool}:aF af ei pT ⟨[],false⟩=(0,⟨GN ei,false⟩):=by
 show aF af ei (.leaf 3 0 0 0) _=_
 rw [aF,show (Tr.leaf 3 0 0 0)=pT from rfl,G1,lO (u:=DW ei) rfl (by cases ei<;>decide+kernel)]
 rfl
theorem Dm {ei:Bool}:aF af ei (ar 0 pT) ⟨[],false⟩=(9,⟨Gj ei,false⟩):=by
 show aF af ei (.un 9 0 0 0 pT) _=_
 rw [aF,if_pos (.inl rfl),Dl,show (Tr.un 9 0 0 0 pT)=ar 0 pT from rfl]
 have hp:oH ei 9 pT=kP ei:=by unfold oH kP vT uT;rw [if_pos rfl,if_pos rfl,AP]
 have hq:oG ei 9 pT=kQ ei:=by unfold oG kQ vT uT;rw [if_pos rfl,if_pos rfl,AP]
 have hv:vT 9 pT=aE pT:=by unfold vT;rw [if_pos rfl,AP]
 have h1:aX af (aR (kP ei) (kQ ei)) [0] ⟨GN ei,false⟩=(2,⟨yD ei,false⟩):=by
  rw [lO (u:=aR (DW ei) (aR (kP ei) (kQ ei))) rfl (by cases ei<;>decide+kernel)]
  rw [List.map_cons,List.map_nil,lK (u:=aR (kP ei) (kQ ei)) rfl (by cases ei<;>decide+kernel)]
  rfl
 have h2:gH af 0 (kP ei) (kQ ei) 2 ⟨yD ei,false⟩=(5,⟨yD ei++[⟨ar 0 (aR (kP ei) (kQ ei)),11,2,0,0⟩,⟨aR (ar 0 (aR (kP ei) (kQ ei))) (aR (ar 0 (kP ei)) (ar 0 (kQ ei))),2,0,0,0⟩,⟨aR (ar 0 (kP ei)) (ar 0 (kQ ei)),10,3,4,0⟩],false⟩):=by
  rw [gH,jo (by cases ei<;>decide+kernel)]
  dsimp only
  rw [kW,jo (by cases ei<;>decide+kernel)]
  dsimp only
  rw [jo (by cases ei<;>decide+kernel)]
  rfl
 have h3:dS af 0 (aE pT) ⟨yD ei++[⟨ar 0 (aR (kP ei) (kQ ei)),11,2,0,0⟩,⟨aR (ar 0 (aR (kP ei) (kQ ei))) (aR (ar 0 (kP ei)) (ar 0 (kQ ei))),2,0,0,0⟩,⟨aR (ar 0 (kP ei)) (ar 0 (kQ ei)),10,3,4,0⟩],false⟩=(6,⟨Di ei,false⟩):=by
  rw [dS,jo (by cases ei<;>decide+kernel)]
  rfl
 have h4:aX af (BC ei) [5,6] ⟨Di ei,false⟩=(9,⟨Gj ei,false⟩):=by
  rw [lO (u:=aR (aR (ar 0 (kP ei)) (ar 0 (kQ ei))) (aR (nF (gi 0 (aE pT)) (aE (ar 0 C9))) (BC ei))) rfl (by cases ei<;>decide+kernel)]
  rw [List.map_cons,List.map_cons,List.map_nil,lK (u:=aR (nF (gi 0 (aE pT)) (aE (ar 0 C9))) (BC ei)) rfl (by cases ei<;>decide+kernel),lK (u:=BC ei) rfl (by cases ei<;>decide+kernel)]
  rfl
 rw [pJ,hp,hq,hv,h1]
 dsimp only
 rw [h2]
 dsimp only
 rw [h3]
 dsimp only
 rw [G2,h4]
def gJ:List NV:=[⟨3,0,0,0,0,0⟩,⟨4,0,0,0,0,0⟩,⟨9,0,0,0,0,0⟩]
def Ah:SD:=⟨7#64,1,1,0,[]⟩
def Ag:SD:=⟨6#64,5,2,0,[0]⟩
def dD:List SD:=[Ah,Ag]
theorem CI:aY gJ:=⟨by decide+kernel,by decide,by decide+kernel⟩
theorem EL:aa gJ 0=pT:=by decide+kernel
theorem EK:aa gJ 1=aE pT:=by decide+kernel
theorem Gs:aa gJ 2=ar 0 pT:=by decide+kernel
theorem CG:jw gJ 1=0:=qT (i:=1) (j:=0) (by decide) (by rw [EL,show tA gJ 1=aa gJ 1 from rfl,EK,B6]) (fun k hk=>absurd hk (Nat.not_lt_zero _))
theorem Af:ej 2 gJ dD 0 Ah:=by
 refine ⟨fun k hk=>?_,.inl ⟨rfl,rfl,.inr ⟨by decide+kernel,by decide,by decide+kernel,CG⟩⟩⟩
 have:∀k:Fin 64,(7#64).getLsbD k.val=true→k.val<3:=by decide+kernel
 exact this ⟨k,BitVec.lt_of_getLsbD hk⟩ hk
theorem Ae:ej 2 gJ dD 1 Ag:=by
 refine ⟨fun k hk=>?_,.inr (.inr (.inr (.inr (.inl ⟨rfl,rfl,.inl rfl,⟨by decide,by decide+kernel,by decide+kernel⟩,?_⟩))))⟩
 ·have:∀k:Fin 64,(6#64).getLsbD k.val=true→k.val<3:=by decide+kernel
  exact this ⟨k,BitVec.lt_of_getLsbD hk⟩ hk
 exact ⟨⟨⟨by decide,by decide⟩,by decide+kernel⟩,trivial⟩
theorem u7:iA 2 gJ dD:=by
 refine ⟨by decide,CI,by decide,by decide,fun k hk=>?_⟩
 match k,hk with
 |0,_=>exact Af
 |1,_=>exact Ae
theorem Ac:oQ gJ dD 0=3#64:=by decide+kernel
theorem Ab:oQ gJ dD 1=6#64:=by decide+kernel
theorem B1:dO dD 1=true:=ic.2 (.last rfl)
theorem B2:dO dD 0=true:=ic.2 (.fr (k:=1) (by decide) (.last rfl) (by decide+kernel))
theorem pj:dz gJ dD=[⟨3#64,1,1,0,[]⟩,⟨6#64,5,2,0,[0]⟩]:=by
 have h0:mx gJ dD 1=[⟨3#64,1,1,0,[]⟩]:=by
  rw [jW (k:=0) (by decide),if_pos B2]
  show []++[gD gJ dD 0 Ah]=_
  rw [gD,Ac,if_neg (by decide+kernel)];rfl
 have hc:bJ (dO dD) 0=0:=rfl
 rw [dz]
 show mx gJ dD 2=_
 rw [jW (k:=1) (by decide),if_pos B1,h0]
 show _++[gD gJ dD 1 Ag]=_
 rw [gD,Ab,if_neg (by decide+kernel)]
 show [_]++[SD.mk 6#64 5 2 0 [((bJ (dO dD) 0:Nat):Int)]]=_
 rw [hc];rfl
theorem xB:cP dD dD.length=[7#64,6#64]:=by
 show cP dD 2=_
 have h0:cP dD 1=[7#64]:=by
  show (match dD[0]? with|some x=>if dO dD 0=true then cP dD 0++[x.set] else cP dD 0|none=>cP dD 0)=_
  show (if dO dD 0=true then _ else _)=_
  rw [if_pos B2];rfl
 show (if dO dD 1=true then cP dD 1++[6#64] else cP dD 1)=_
 rw [if_pos B1,h0];rfl
abbrev Bj:Tr:=aE (ju pT (aE pT))
abbrev DK:Tr:=aE (ju (aE pT) (ar 0 pT))
abbrev EB:Tr:=aE (ju (aE pT) pT)
abbrev uC:List TL:=[⟨EB,1,0,0,0⟩,⟨aR EB Bj,1,0,0,0⟩,⟨Bj,10,0,1,0⟩]
abbrev Ev:List TL:=uC++[⟨aR (ar 0 pT) pT,3,0,0,0⟩,⟨aR (aR (ar 0 pT) pT) (aR Bj DK),1,0,0,0⟩,⟨aR Bj DK,10,3,4,0⟩,⟨DK,10,2,5,0⟩]
theorem Fe:dA gJ 3#64=Bj:=by decide+kernel
theorem Fc:dA gJ 6#64=DK:=by decide+kernel
theorem GO:aF af false (aE pT) ⟨[],false⟩=(0,⟨[⟨EB,1,0,0,0⟩],false⟩):=by
 have hc:jt false (aE pT)=EB:=by unfold jt;rw [if_neg (by decide),B6]
 show aF af false (.un 4 0 0 0 pT) _=_
 rw [aF,if_neg (by decide),show (Tr.un 4 0 0 0 pT)=aE pT from rfl,hc,lO (u:=EB) rfl (by decide+kernel)]
 rfl
theorem Gv:bH af gJ (dz gJ dD) 7#64 ⟨3#64,1,1,0,[]⟩ [] ⟨[],false⟩=(2,⟨uC,false⟩):=by
 unfold bH
 dsimp only
 rw [if_pos rfl,if_neg (by decide+kernel),Fe,show tA gJ 1=aa gJ 1 from rfl,EK,GO]
 dsimp only
 rw [lO (u:=aR EB Bj) rfl (by decide+kernel),List.map_cons,List.map_nil,lK (u:=Bj) rfl (by decide+kernel)]
 rfl
theorem Gu:bH af gJ (dz gJ dD) 6#64 ⟨6#64,5,2,0,[0]⟩ [2] ⟨uC,false⟩=(6,⟨Ev,false⟩):=by
 unfold bH
 dsimp only
 rw [if_neg (by decide),if_neg (by decide),if_neg (by decide),if_neg (by decide),if_pos rfl,Fc,show tA gJ 2=aa gJ 2 from rfl,Gs,show tA gJ (nd gJ 2).x=aa gJ 0 from rfl,EL,jo (by decide+kernel)]
 dsimp only
 rw [show ([2]:List Nat).getD (([0]:List Int).getD 0 0).toNat 0=2 from rfl,show uC.length=3 from rfl]
 rw [lO (u:=aR (aR (ar 0 pT) pT) (aR Bj DK)) rfl (by decide+kernel),List.map_cons,List.map_cons,List.map_nil,lK (u:=aR Bj DK) rfl (by decide+kernel),lK (u:=DK) rfl (by decide+kernel)]
 rfl
theorem CW:gF af gJ dD=(6,⟨Ev,false⟩):=by
 have hl:(dz gJ dD).length=2:=by rw [pj];rfl
 have h1:aW af gJ (dz gJ dD) (cP dD dD.length) 1=([2],⟨uC,false⟩):=by
  rw [eK (q:=0) (by omega),xB]
  have e:(dz gJ dD)[0]'(by omega)=⟨3#64,1,1,0,[]⟩:=by simp only [pj];rfl
  rw [e]
  show ([]++[(bH af gJ (dz gJ dD) 7#64 ⟨3#64,1,1,0,[]⟩ [] ⟨[],false⟩).1],(bH af gJ (dz gJ dD) 7#64 ⟨3#64,1,1,0,[]⟩ [] ⟨[],false⟩).2)=_
  rw [Gv];rfl
 have h2:aW af gJ (dz gJ dD) (cP dD dD.length) 2=([2,6],⟨Ev,false⟩):=by
  rw [eK (q:=1) (by omega),h1,xB]
  have e:(dz gJ dD)[1]'(by omega)=⟨6#64,5,2,0,[0]⟩:=by simp only [pj];rfl
  rw [e]
  show ([2]++[(bH af gJ (dz gJ dD) 6#64 ⟨6#64,5,2,0,[0]⟩ [2] ⟨uC,false⟩).1],(bH af gJ (dz gJ dD) 6#64 ⟨6#64,5,2,0,[0]⟩ [2] ⟨uC,false⟩).2)=_
  rw [Gu];rfl
 unfold gF
 dsimp only
 rw [hl,h2,if_pos (by rw [pj];decide+kernel)]
 rfl
theorem mc {l:Int} {σ:Sg} (hg:Good l σ) (hl:0≤l∧l≤6) (h0:0<σ.ls.length) {ls:List LV} (hd:ls.map LV.d=σ.ls.map (fun x=>x.v.d)):fB l ls=0:=by
 have h1:fB l (σ.ls.map TL.v)=0:=gk.2 ⟨hl,by rw [List.length_map];exact h0,by rw [List.length_map];exact hg.len,hg.ok⟩
 exact uV (by rw [hd,List.map_map];rfl) h1
theorem tJ {ls:List LV} {ts:List TL} (hd:ls.map LV.d=ts.map (fun x=>x.v.d)) {k:Nat} (hk:k<ls.length) (hk2:k<ts.length):ls[k].f.f=bT ts[k].t:=by
 have h1:ls[k].d=ts[k].v.d:=by
  have:=congrArg (fun l=>l[k]?) hd
  simpa [hk,hk2] using this
 exact congrArg LD.f h1
theorem GI:mr pT:=by show (3:Int)≤3;decide
theorem GJ:mr (ar 0 pT):=.inr ⟨.inl rfl,GI⟩
theorem oJ:(ar 0 pT).ok:=bt (by decide) dT
theorem Dj {ei:Bool}:oq ei (bT pT)=0∧A6 ei (bT pT)=(GN ei).map (fun x=>x.v.d):=by
 have h1:aV (bT pT)=0:=by decide+kernel
 have h2:aO (bT pT)=pT:=by decide+kernel
 have h3:∀n∈aj (bT pT),ew (aj (bT pT)) n:=by decide+kernel
 refine ⟨?_,?_⟩
 ·rw [oq,if_neg (by simp [h1]),if_neg (fun h=>h h3),h2,Dl,if_neg (by simp)]
 rw [A6,h2,Dl]
theorem wH {ei:Bool}:oq ei (bT (ar 0 pT))=0∧A6 ei (bT (ar 0 pT))=(Gj ei).map (fun x=>x.v.d):=by
 have h1:aV (bT (ar 0 pT))=0:=by decide+kernel
 have h2:aO (bT (ar 0 pT))=ar 0 pT:=by decide+kernel
 have h3:∀n∈aj (bT (ar 0 pT)),ew (aj (bT (ar 0 pT))) n:=by decide+kernel
 refine ⟨?_,?_⟩
 ·rw [oq,if_neg (by simp [h1]),if_neg (fun h=>h h3),h2,Dm,if_neg (by simp)]
 rw [A6,h2,Dm]
theorem Fm:oq false (bT (aR pT pT))=10:=by
 have h1:aV (bT (aR pT pT))=0:=by decide+kernel
 have h3:¬∀n∈aj (bT (aR pT pT)),ew (aj (bT (aR pT pT))) n:=by decide+kernel
 rw [oq,if_neg (by simp [h1]),if_pos h3]
theorem CY:CZ 2 gJ dD=0∧Gg gJ dD=Ev.map (fun x=>x.v.d):=by
 have h1:qu 2 gJ dD=0:=kX.2 u7
 refine ⟨?_,?_⟩
 ·rw [CZ,if_neg (by simp [h1]),CW,if_neg (by simp)]
 rw [Gg,CW]
theorem FN {ls:List LV} (hd:ls.map LV.d=(Gj false).map (fun x=>x.v.d)):fB 0 ls=0:=by
 have h:=(kz (l:=0) (ei:=false) GJ oJ pR).dF
 rw [Dm] at h
 exact mc h (by decide) (by decide) hd
theorem FM {ls:List LV} (hd:ls.map LV.d=Ev.map (fun x=>x.v.d)):fB 2 ls=0:=by
 have h:=u7.H4.2.1
 rw [CW] at h
 exact mc h (by decide) (by decide) hd
theorem DQ:aQ ⟨3,0,0,0,0,0⟩ []=bT pT:=by decide+kernel
end Go.Proofs.Wit
