/- Laws of walks, for any program, under the conditions that each theorem states. -/
import Derived.Test.YtnfmegcknckahaaGreatDoorXA40
import Derived.Test.YtnfmegcknckahaaGreatDoorXA27
import Derived.Test.YtnfmegcknckahaaGreatDoorXA13
import Derived.Test.YtnfmegcknckahaaGreatDoorXA25
namespace Go.Proofs.Wit
open Go Go.RowKit
structure Ws where
  q:Option Nat
  cap:Nat
  ls:List LV
  sp:List Value
  H:Hl
def ER (tw tl:TypeId) (er:Value) (bw:Nat) (s:Ws):Hl:=[(some bw,.cells #[cQ s.q s.ls.length s.cap,er] tw (0,0)),(s.q,xv tl s.ls s.sp)]
def cm (tw tl:TypeId) (er:Value) (bw:Nat) (s:Ws):Hl:=(some bw,.cells #[cQ s.q s.ls.length s.cap,er] tw (0,0))::(s.q,xv tl s.ls s.sp)::s.H
theorem Al {tw tl:TypeId} {er:Value} {bw:Nat} {s:Ws}:(ER tw tl er bw s).Sublist (cm tw tl er bw s):=.cons_cons _ (.cons_cons _ (List.nil_sublist _))
def Ws.sC (s:Ws) (p:Option Nat×Obj):Ws:={s with H:=p::s.H}
structure fw (tn:TypeId) (Γ:List FV) (σ:Sg) (s:Ws):Prop where
  nil:s.q=none→s.ls.length=0∧s.cap=0
  cap:(s.ls.flatMap LV.cells++s.sp).length=s.cap*5
  BJ:s.ls.map LV.d=σ.ls.map (fun x=>x.v.d)
  EJ:s.ls.length≤400
  ctx:∀x∈Γ,x.sH tn s.H∧x.f.length≤maxLen
  DZ:∀x∈s.ls,x.f∈Γ
  EF:∀x∈σ.ls,x.t.ok
section
variable {tn tw tl:TypeId} {er:Value} {bw:Nat} {Γ:List FV} {σ:Sg} {s:Ws}
theorem fw.len (h:fw tn Γ σ s):s.ls.length=σ.ls.length:=by have:=congrArg List.length h.BJ;simpa using this
theorem fw.at (h:fw tn Γ σ s) {k:Nat} (hk:k<s.ls.length):s.ls[k].f.f=bT (fQ σ k)∧(fQ σ k).ok∧s.ls[k].f∈Γ:=by
 have hk2:k<σ.ls.length:=by rw [←h.len];exact hk
 have h1:s.ls[k].d=(σ.ls[k]).v.d:=by
  have:=congrArg (fun l=>l[k]?) h.BJ
  simpa [hk,hk2] using this
 have ht:fQ σ k=(σ.ls[k]).t:=by simp [fQ,List.getD_eq_getElem?_getD,hk2]
 refine ⟨?_,by rw [ht];exact h.EF _ (List.getElem_mem hk2),h.DZ _ (List.getElem_mem hk)⟩
 rw [ht]
 exact congrArg LD.f h1
theorem fw.fa (h:fw tn Γ σ s) {x:FV} (hx:x∈Γ) {w0 w:World} {S:List Nat} {pre:Hl} {Y:List (Nat×Obj)} (hS:St w0 S w (pre++cm tw tl er bw s) Y):FA w x.a x.f:=
 ((h.ctx x hx).1.mono (fun _ hp=>List.mem_append_right _ (List.mem_cons_of_mem _ (List.mem_cons_of_mem _ hp)))).at hS
theorem fw.add (h:fw tn Γ σ s) {q:Option Nat} {f:List NV} {cap:Nat} {sp:List Value} (hq:q=none→f.length=0∧cap=0) (hl:f.length≤maxLen):fw tn (⟨q.map (fun b=>⟨b,0,none⟩),cap,f⟩::Γ) σ (s.sC (q,eW tn f sp)):=
 ⟨h.nil,h.cap,h.BJ,h.EJ,fun x hx=>by
  rcases List.mem_cons.1 hx with rfl|hx
  ·exact ⟨⟨q,sp,List.mem_cons_self ..,rfl,fun e=>(hq e).1⟩,hl⟩
  exact ⟨(h.ctx x hx).1.mono (List.subset_cons_self _ _),(h.ctx x hx).2⟩,fun x hx=>List.mem_cons_of_mem _ (h.DZ x hx),h.EF⟩
def FV.Z (x:FV):Prop:=x.f=[]→x.a=none
theorem fw.GR (h:fw tn Γ σ s) {x:FV} (hx:x∈Γ) (hz:x.Z):x.a=none↔x.f=[]:=by
 refine ⟨fun e=>?_,hz⟩
 obtain ⟨q,sp,_,h2,h3⟩:=(h.ctx x hx).1
 cases q with
 |none=>exact List.eq_nil_of_length_eq_zero (h3 rfl)
 |some b=>rw [h2] at e;cases e
end
theorem iE.stay {w0 w1:World} {h0 hR pre h1:Hl} {Y:List (Nat×Obj)} (g:iE w0 (h0++hR)) (s:St w0 (cM h0) w1 (pre++h1) Y):iE w1 (h1++(pre++hR)):=by
 have hap:=List.pairwise_append.1 g.apart
 have hkeep:∀p∈hR,∀b,p.1=some b→w1.heap[b]?=some p.2∧b<w0.heap.size∧b∉cM h0:=fun p hp b hb=>by
  have h2:=(g.own p (List.mem_append_right _ hp) b hb).1
  have hlt:=(Array.getElem?_eq_some_iff.1 h2).1
  have hn:b∉cM h0:=fun hm=>by
   obtain ⟨o,ho⟩:=gy.1 hm
   exact hap.2.2 _ ho p hp b rfl hb
  exact ⟨by rw [s.ext.block b hlt hn];exact h2,hlt,hn⟩
 have hs:=List.pairwise_append.1 s.apart
 have hcross:∀p∈pre++h1,∀q∈hR,mx p q:=fun p hp q hq b hb hqb=>by
  obtain ⟨_,hlt,hn⟩:=hkeep q hq b hqb
  rcases (s.own p hp b hb).2.2 with h|h
  ·omega
  exact hn h
 refine ⟨fun p hp b hb=>?_,?_⟩
 ·rcases List.mem_append.1 hp with hp|hp
  ·exact ⟨(s.own p (List.mem_append_right _ hp) b hb).1,(s.own p (List.mem_append_right _ hp) b hb).2.1⟩
  ·rcases List.mem_append.1 hp with hp|hp
   ·exact ⟨(s.own p (List.mem_append_left _ hp) b hb).1,(s.own p (List.mem_append_left _ hp) b hb).2.1⟩
   ·exact ⟨(hkeep p hp b hb).1,(g.own p (List.mem_append_right _ hp) b hb).2⟩
 refine List.pairwise_append.2 ⟨hs.2.1,List.pairwise_append.2 ⟨hs.1,hap.2.1,fun p hp q hq=>hcross p (List.mem_append_left _ hp) q hq⟩,fun p hp q hq=>?_⟩
 rcases List.mem_append.1 hq with hq|hq
 ·exact fun b hb hqb=>hs.2.2 q hq p hp b hqb hb
 exact hcross p (List.mem_append_right _ hp) q hq
def rz (P:Program) (tn tw tl:TypeId) (ef:Bool→Value) (bw:Nat) (Γ:List FV) (σ:Sg) (gf:FuncId) (args:List Value) (w:World) (hR:Hl) (r:Nat×Sg):Prop:=
 ∀s,fw tn Γ σ s→iE w (cm tw tl (ef σ.bad) bw s++hR)→qC P gf args w (cm tw tl (ef σ.bad) bw s) (fun v h'=>∃s' Γ',v=.int .i64 (r.1:Int)∧h'=cm tw tl (ef r.2.bad) bw s'∧fw tn Γ' r.2 s'∧Γ⊆Γ')
section
variable {P:Program} {tn tw tl:TypeId} {er:Value} {ef:Bool→Value} {bw:Nat} {Γ:List FV} {σ:Sg} {s:Ws}
variable {r:Option Nat} {f:FuncId} {R:Value→World→Prop} {w0:World} {S:List Nat} {Y:List (Nat×Obj)} {n:Nat} {k:List Item} {l:Fl} {ops:Array Oper} {i d:Nat} {rest:List Nat} {ty:TypeId} {pos:String} {aft:Array Edge} {g:Option (Nat×Bool)}
variable {az:Array Operand} {ts:Array TypeId} {cal:Operand} {gf:FuncId} {vs:List Value} {u:Tr}
theorem jq {q:Option Nat} {f:List NV} {cap:Nat}:cQ q f.length cap=FV.v ⟨q.map (fun b=>⟨b,0,none⟩),cap,f⟩:=by cases q<;>rfl
theorem gm {t:Tr}:(bT t).length≤maxLen:=aD rfl
theorem mS {p:Option Nat×Obj} {pre:Hl}:(p::(pre++cm tw tl er bw s)).Perm (pre++cm tw tl er bw (s.sC p)):=by
 refine (List.perm_middle (l₁:=pre) (a:=p)).symm.trans (List.Perm.append_left pre ?_)
 unfold cm Ws.sC
 exact (List.Perm.swap _ _ _).trans (List.Perm.cons _ (List.Perm.swap _ _ _))
theorem ab.iH {pre:Hl} (hW:fw tn Γ σ s) (ho:ops[i]?=some ⟨some d,.call ⟨.value cal,az,ts⟩,ty,pos,aft,g⟩) (hw:au ops l g=true)
  (hc:aU l cal=some (.func (.func gf) #[] #[])) (hx:du l az.toList=some vs) (hd:Nat.blt d n=true) (hcf:∀args w,(callFunc gf args).run P w=.ok (.enter gf args) w)
  (hcall:∀w Y',St w0 S w (pre++cm tw tl er bw s) Y'→Cn P gf vs w (fun v w'=>ga tn w w' v (bT u)))
  (hk:∀x s',x.f=bT u→x.Z→fw tn (x::Γ) σ s'→ab P r f R w0 S Y n (.inRegion ops rest::k) ((d,x.v)::l) (pre++cm tw tl er bw s')):
  ab P r f R w0 S Y n (.inRegion ops (i::rest)::k) l (pre++cm tw tl er bw s):=by
 refine ab.nr (fun w v w'=>ga tn w w' v (bT u)) ho hw hc hx hd hcf hcall (fun v w w' Y' hS he hO=>?_)
 obtain ⟨ho,hz⟩:=hO
 obtain ⟨q,cap,sp,rfl,hq,ao,hS'⟩:=ak hS he ho
 refine ⟨_,hS'.perm mS,?_⟩
 rw [jq]
 refine hk _ _ rfl (fun e=>?_) (hW.add hq gm)
 have:=hz e
 cases q with
 |none=>rfl
 |some b=>cases this
theorem ab.uE {pre:Hl} (hW:fw tn Γ σ s) (ho:ops[i]?=some ⟨some d,.call ⟨.value cal,az,ts⟩,ty,pos,aft,g⟩) (hw:au ops l g=true)
  (hc:aU l cal=some (.func (.func gf) #[] #[])) (hx:du l az.toList=some vs) (hd:Nat.blt d n=true) (hcf:∀args w,(callFunc gf args).run P w=.ok (.enter gf args) w)
  (hcall:∀w Y',St w0 S w (pre++cm tw tl er bw s) Y'→Cn P gf vs w (fun v w'=>aH tn w w' v (bT u)))
  (hk:∀x s',x.f=bT u→fw tn (x::Γ) σ s'→ab P r f R w0 S Y n (.inRegion ops rest::k) ((d,x.v)::l) (pre++cm tw tl er bw s')):
  ab P r f R w0 S Y n (.inRegion ops (i::rest)::k) l (pre++cm tw tl er bw s):=by
 refine ab.nr (fun w v w'=>aH tn w w' v (bT u)) ho hw hc hx hd hcf hcall (fun v w w' Y' hS he hO=>?_)
 obtain ⟨q,cap,sp,rfl,hq,ao,hS'⟩:=ak hS he hO
 refine ⟨_,hS'.perm mS,?_⟩
 rw [jq]
 exact hk _ _ rfl (hW.add hq gm)
theorem ab.bu {pre hR hR':Hl} {s0:Ws} {er0:Value} {res:Nat×Sg} (h0:iE w0 (cm tw tl er0 bw s0++hR)) (hW:fw tn Γ σ s) (hsub:hR'.Sublist (pre++hR)) (ho:ops[i]?=some ⟨some d,.call ⟨.value cal,az,ts⟩,ty,pos,aft,g⟩) (hw:au ops l g=true)
  (hc:aU l cal=some (.func (.func gf) #[] #[])) (hx:du l az.toList=some vs) (hd:Nat.blt d n=true) (hcf:∀args w,(callFunc gf args).run P w=.ok (.enter gf args) w)
  (hcall:∀w Y',St w0 (cM (cm tw tl er0 bw s0)) w (pre++cm tw tl (ef σ.bad) bw s) Y'→rz P tn tw tl ef bw Γ σ gf vs w hR' res)
  (hk:∀s' Γ',fw tn Γ' res.2 s'→Γ⊆Γ'→ab P r f R w0 (cM (cm tw tl er0 bw s0)) Y n (.inRegion ops rest::k) ((d,.int .i64 (res.1:Int))::l) (pre++cm tw tl (ef res.2.bad) bw s')):
  ab P r f R w0 (cM (cm tw tl er0 bw s0)) Y n (.inRegion ops (i::rest)::k) l (pre++cm tw tl (ef σ.bad) bw s):=by
 refine ab.mR (h':=cm tw tl (ef σ.bad) bw s++pre) List.perm_append_comm ?_
 refine ab.iP (h:=cm tw tl (ef σ.bad) bw s) (hF:=pre) (fs:=[]) (cs:=[]) (fun _ v h'=>∃s' Γ',v=.int .i64 (res.1:Int)∧h'=cm tw tl (ef res.2.bad) bw s'∧fw tn Γ' res.2 s'∧Γ⊆Γ') ho hw hc hx hd hcf (fun w Y' hS=>?_) (fun w v h' hR2=>?_)
 ·rw [List.nil_append,List.append_nil]
  have hS2:=hS.perm (List.perm_append_comm (l₁:=cm tw tl (ef σ.bad) bw s) (l₂:=pre))
  exact hcall w _ hS2 s hW ((h0.stay hS2).sub (List.Sublist.append (List.Sublist.refl _) hsub))
 obtain ⟨s',Γ',rfl,rfl,hW',hs⟩:=hR2
 exact ab.mR List.perm_append_comm (hk s' Γ' hW' hs)
end
section
variable {P:Program} {tn tw tl:TypeId} {er:Value} {ef:Bool→Value} {bw:Nat} {Γ:List FV} {σ:Sg} {s:Ws}
variable {r:Option Nat} {f:FuncId} {R:Value→World→Prop} {w0:World} {S:List Nat} {Y:List (Nat×Obj)} {n:Nat} {k:List Item} {l:Fl} {ops:Array Oper} {i d:Nat} {ty:TypeId} {pos:String} {aft:Array Edge} {g:Option (Nat×Bool)}
variable {az:Array Operand} {ts:Array TypeId} {cal:Operand} {gf:FuncId} {vs:List Value} {u:Tr} {hb:Hl} {q:Nat} {Dn:List Nat}
theorem C0 {pre:Hl} (hs:hb.Sublist (pre++ER tw tl er bw s)) {s':Ws} (e:ER tw tl er bw s'=ER tw tl er bw s):hb.Sublist (pre++cm tw tl er bw s'):=hs.trans (List.Sublist.append (List.Sublist.refl _) (by rw [←e];exact Al))
theorem aF.iH {pre:Hl} (hW:fw tn Γ σ s) (hs:hb.Sublist (pre++ER tw tl er bw s)) (h1:aC ops Dn=[i]) (ho:ops[i]?=some ⟨some d,.call ⟨.value cal,az,ts⟩,ty,pos,aft,g⟩) (hw:au ops l g=true)
  (hc:aU l cal=some (.func (.func gf) #[] #[])) (hx:du l az.toList=some vs) (hd:Nat.blt d n=true) (hcf:∀args w,(callFunc gf args).run P w=.ok (.enter gf args) w)
  (hcall:∀w Y',St w0 S w (pre++cm tw tl er bw s) Y'→Cn P gf vs w (fun v w'=>ga tn w w' v (bT u)))
  (hk:∀x p,x.f=bT u→x.Z→fw tn (x::Γ) σ (s.sC p)→aF P r f R w0 S Y n k ops hb q (i::Dn) ((d,x.v)::l) (pre++cm tw tl er bw (s.sC p))):
  aF P r f R w0 S Y n k ops hb (q+1) Dn l (pre++cm tw tl er bw s):=by
 refine aF.call (fun w v w'=>ga tn w w' v (bT u)) h1 ho hw hc hx hd hcf hcall (fun v w w' Y' hS he hO=>?_)
 obtain ⟨ho,hz⟩:=hO
 obtain ⟨q,cap,sp,rfl,hq,ao,hS'⟩:=ak hS he ho
 refine ⟨_,hS'.perm mS,C0 hs rfl,?_⟩
 rw [jq]
 refine hk _ _ rfl (fun e=>?_) (hW.add hq gm)
 have:=hz e
 cases q with
 |none=>rfl
 |some b=>cases this
theorem aF.bu {pre hR hR':Hl} {s0:Ws} {er0:Value} {res:Nat×Sg} (h0:iE w0 (cm tw tl er0 bw s0++hR)) (hW:fw tn Γ σ s) (hsub:hR'.Sublist (pre++hR)) (hs:hb.Sublist pre) (h1:aC ops Dn=[i]) (ho:ops[i]?=some ⟨some d,.call ⟨.value cal,az,ts⟩,ty,pos,aft,g⟩) (hw:au ops l g=true)
  (hc:aU l cal=some (.func (.func gf) #[] #[])) (hx:du l az.toList=some vs) (hd:Nat.blt d n=true) (hcf:∀args w,(callFunc gf args).run P w=.ok (.enter gf args) w)
  (hcall:∀w Y',St w0 (cM (cm tw tl er0 bw s0)) w (pre++cm tw tl (ef σ.bad) bw s) Y'→rz P tn tw tl ef bw Γ σ gf vs w hR' res)
  (hk:∀s' Γ',fw tn Γ' res.2 s'→Γ⊆Γ'→aF P r f R w0 (cM (cm tw tl er0 bw s0)) Y n k ops hb q (i::Dn) ((d,.int .i64 (res.1:Int))::l) (pre++cm tw tl (ef res.2.bad) bw s')):
  aF P r f R w0 (cM (cm tw tl er0 bw s0)) Y n k ops hb (q+1) Dn l (pre++cm tw tl (ef σ.bad) bw s):=by
 refine aF.iP (hC:=cm tw tl (ef σ.bad) bw s) (hF:=pre) (fs:=[]) (cs:=[]) List.perm_append_comm (fun _ v h'=>∃s' Γ',v=.int .i64 (res.1:Int)∧h'=cm tw tl (ef res.2.bad) bw s'∧fw tn Γ' res.2 s'∧Γ⊆Γ') h1 ho hw hc hx hd hcf (fun w Y' hS=>?_) (fun w v h' hR2=>?_)
 ·rw [List.nil_append,List.append_nil]
  have hS2:=hS.perm (List.perm_append_comm (l₁:=cm tw tl (ef σ.bad) bw s) (l₂:=pre))
  exact hcall w _ hS2 s hW ((h0.stay hS2).sub (List.Sublist.append (List.Sublist.refl _) hsub))
 obtain ⟨s',Γ',rfl,rfl,hW',hs'⟩:=hR2
 exact ⟨_,List.perm_append_comm,hs.trans (List.sublist_append_left _ _),hk s' Γ' hW' hs'⟩
theorem rz.of {gf:FuncId} {fn:Func} {c:Code} {args:List Value} {w:World} {hR:Hl} {res:Nat×Sg} (hf:P.funcs[gf]?=some fn) (hb:fn.body=some c) (hn:Nat.ble args.length fn.ntmps=true)
  (hgo:∀s,fw tn Γ σ s→iE w (cm tw tl (ef σ.bad) bw s++hR)→ab P none gf (fun v w'=>∃h',(∃s' Γ',v=.int .i64 (res.1:Int)∧h'=cm tw tl (ef res.2.bad) bw s'∧fw tn Γ' res.2 s'∧Γ⊆Γ')∧St w (cM (cm tw tl (ef σ.bad) bw s)) w' h' []) w (cM (cm tw tl (ef σ.bad) bw s)) [] fn.ntmps [.code c] (tf 0 args) (cm tw tl (ef σ.bad) bw s)):
  rz P tn tw tl ef bw Γ σ gf args w hR res:=fun s hW hH=>qC.of (hH.sub (List.sublist_append_left _ _)) hf hb hn (hgo s hW hH)
end
theorem GB {tn tw tl:TypeId} {ef:Bool→Value} {bw:Nat} {Γ Γ':List FV} {res:Nat×Sg} {s':Ws} {w w':World} {S:List Nat} {pre:Hl} {v:Value} (hv:v=.int .i64 (res.1:Int)) (hW:fw tn Γ' res.2 s') (hg:Γ⊆Γ') (hS:St w S w' (pre++cm tw tl (ef res.2.bad) bw s') []):
  ∃h',(∃s' Γ',v=.int .i64 (res.1:Int)∧h'=cm tw tl (ef res.2.bad) bw s'∧fw tn Γ' res.2 s'∧Γ⊆Γ')∧St w S w' h' []:=⟨_,⟨s',Γ',hv,rfl,hW,hg⟩,hS.dN (List.sublist_append_right _ _)⟩
theorem fw.bad {tn:TypeId} {Γ:List FV} {σ:Sg} {s:Ws} {b:Bool} (h:fw tn Γ σ s):fw tn Γ ⟨σ.ls,b⟩ s:=⟨h.nil,h.cap,h.BJ,h.EJ,h.ctx,h.DZ,h.EF⟩
theorem dU {tn tw tl:TypeId} {ef:Bool→Value} {bw:Nat} {Γ Γ':List FV} {res res':Nat×Sg} {s':Ws} {w w':World} {S:List Nat} {pre:Hl} {v:Value} (he:res=res') (hv:v=.int .i64 (res'.1:Int)) (hW:fw tn Γ' res'.2 s') (hg:Γ⊆Γ') (hS:St w S w' (pre++cm tw tl (ef res'.2.bad) bw s') []):
  ∃h',(∃s' Γ',v=.int .i64 (res.1:Int)∧h'=cm tw tl (ef res.2.bad) bw s'∧fw tn Γ' res.2 s'∧Γ⊆Γ')∧St w S w' h' []:=by subst he;exact GB hv hW hg hS
structure Gx (S:List Nat) (w:World) (a:Option Addr) (xs:List Int):Prop where
  at_:jP w a xs
  sep:∀b o,a=some ⟨b,o,none⟩→b∉S
theorem Gx.ay {S:List Nat} {w0 w:World} {a:Option Addr} {xs:List Int} (h:Gx S w0 a xs) (e:Ex S w0 w):jP w a xs:=jP.ay h.at_ e h.sep
theorem iE.read {w:World} {h0 hR:Hl} (g:iE w (h0++hR)) {b:Nat} {o:Obj} (hm:(some b,o)∈hR):w.heap[b]?=some o∧b∉cM h0:=by
 refine ⟨(g.own _ (List.mem_append_right _ hm) b rfl).1,fun hb=>?_⟩
 obtain ⟨o',ho⟩:=gy.1 hb
 exact (List.pairwise_append.1 g.apart).2.2 _ ho _ hm b rfl rfl
theorem iE.HO {w:World} {h0 hR:Hl} (g:iE w (h0++hR)) {q:Option Nat} {xs:List Int} {e:TypeId} {sp:List Value} (hm:(q,ob bK e xs sp)∈hR) (hq:q=none→xs=[]):Gx (cM h0) w (q.map (fun b=>⟨b,0,none⟩)) xs:=by
 cases q with
 |none=>rw [hq rfl];exact ⟨Sl.nil _ _,fun b o e=>by cases e⟩
 |some b=>exact ⟨Sl.di (g.read hm).1,fun b' o e=>by cases e;exact (g.read hm).2⟩
theorem fw.put {tn:TypeId} {Γ:List FV} {σ:Sg} {s:Ws} (h:fw tn Γ σ s) {x:FV} (h1:x.sH tn s.H) (h2:x.f.length≤maxLen):fw tn (x::Γ) σ s:=⟨h.nil,h.cap,h.BJ,h.EJ,fun y hy=>by
  rcases List.mem_cons.1 hy with rfl|hy
  ·exact ⟨h1,h2⟩
  exact h.ctx y hy,fun y hy=>List.mem_cons_of_mem _ (h.DZ y hy),h.EF⟩
theorem iE.cJ {w:World} {h:Hl} (g:iE w h) (o:Obj):iE w (h++[(none,o)]):=by
 constructor
 ·intro p hp b hb
  rcases List.mem_append.1 hp with hp|hp
  ·exact g.own p hp b hb
  rw [List.mem_singleton.1 hp] at hb;cases hb
 refine List.pairwise_append.2 ⟨g.apart,List.pairwise_singleton _ _,fun p _ q hq b _ hqb=>?_⟩
 rw [List.mem_singleton.1 hq] at hqb;cases hqb
section
variable {P:Program} {tn tw tl:TypeId} {ef:Bool→Value} {bw:Nat} {Γ:List FV} {σ:Sg} {s:Ws}
variable {r:Option Nat} {f:FuncId} {R:Value→World→Prop} {w0:World} {S:List Nat} {Y:List (Nat×Obj)} {n:Nat} {k:List Item} {l:Fl} {ops:Array Oper} {i d:Nat} {rest:List Nat} {ty:TypeId} {pos:String} {aft:Array Edge} {g:Option (Nat×Bool)}
variable {az:Array Operand} {ts:Array TypeId} {cal:Operand} {gf:FuncId} {vs:List Value}
theorem ab.qt {pre hR':Hl} {res:Nat×Sg} (hW:fw tn Γ σ s) (hsub:hR'.Sublist pre) (ho:ops[i]?=some ⟨some d,.call ⟨.value cal,az,ts⟩,ty,pos,aft,g⟩) (hw:au ops l g=true)
  (hc:aU l cal=some (.func (.func gf) #[] #[])) (hx:du l az.toList=some vs) (hd:Nat.blt d n=true) (hcf:∀args w,(callFunc gf args).run P w=.ok (.enter gf args) w)
  (hcall:∀w Y',St w0 S w (pre++cm tw tl (ef σ.bad) bw s) Y'→rz P tn tw tl ef bw Γ σ gf vs w hR' res)
  (hk:∀s' Γ',fw tn Γ' res.2 s'→Γ⊆Γ'→ab P r f R w0 S Y n (.inRegion ops rest::k) ((d,.int .i64 (res.1:Int))::l) (pre++cm tw tl (ef res.2.bad) bw s')):
  ab P r f R w0 S Y n (.inRegion ops (i::rest)::k) l (pre++cm tw tl (ef σ.bad) bw s):=by
 refine ab.mR (h':=cm tw tl (ef σ.bad) bw s++pre) List.perm_append_comm ?_
 refine ab.iP (h:=cm tw tl (ef σ.bad) bw s) (hF:=pre) (fs:=[]) (cs:=[]) (fun _ v h'=>∃s' Γ',v=.int .i64 (res.1:Int)∧h'=cm tw tl (ef res.2.bad) bw s'∧fw tn Γ' res.2 s'∧Γ⊆Γ') ho hw hc hx hd hcf (fun w Y' hS=>?_) (fun w v h' hR2=>?_)
 ·rw [List.nil_append,List.append_nil]
  have hS2:=hS.perm (List.perm_append_comm (l₁:=cm tw tl (ef σ.bad) bw s) (l₂:=pre))
  exact hcall w _ hS2 s hW (hS.has.sub (List.Sublist.append (List.Sublist.refl _) hsub))
 obtain ⟨s',Γ',rfl,rfl,hW',hs⟩:=hR2
 exact ab.mR List.perm_append_comm (hk s' Γ' hW' hs)
end
theorem fw.own {tn tw tl:TypeId} {Γ:List FV} {σ:Sg} {s:Ws} {er:Value} {bw:Nat} {w0 w:World} {pre:Hl} {Y:List (Nat×Obj)} (h:fw tn Γ σ s) (hS:St w0 [] w (pre++cm tw tl er bw s) Y):hJ tn tl w0 w (cQ s.q s.ls.length s.cap) s.ls:=
 ⟨s.q,s.cap,s.sp,s.H,rfl,h.nil,h.cap,(gh.of hS).sub ((List.sublist_cons_self _ _).trans (List.sublist_append_right pre _)),fun x hx=>h.ctx _ (h.DZ x hx)⟩
theorem fw.start {tn:TypeId}:fw tn [] ⟨[],false⟩ ⟨none,0,[],[],[]⟩:=by
 refine ⟨fun _=>⟨rfl,rfl⟩,rfl,rfl,Nat.zero_le _,?_,?_,?_⟩<;>(intro _ h;cases h)
end Go.Proofs.Wit
namespace Go.Proofs.Wit
open Go Go.RowKit
structure qy (b:List NV):Prop where
  jD:aW b=0
  Cl:∀n∈b,eG b n
section
variable {b:List NV}
theorem qy.x (h:qy b) {i:Nat} (hi:i<b.length) (hX:4≤(nd b i).op):0≤(nd b i).x∧(nd b i).x<i:=by
 rw [dH hi] at*
 have ho:=(aA.1 h.jD).nodes i hi
 have h1:=h.Cl _ (List.getElem_mem hi)
 have hu:cG b[i].op=true:=by unfold cG;unfold eG at h1;simp;omega
 have:=ho.x hu;omega
theorem qy.y (h:qy b) {i:Nat} (hi:i<b.length) (hX:(nd b i).op=5∨(nd b i).op=6):0≤(nd b i).y∧(nd b i).y<i:=by
 rw [dH hi] at*
 have ho:=(aA.1 h.jD).nodes i hi
 have hu:ct b[i].op=true:=by unfold ct;rcases hX with e|e<;>rw [e]<;>rfl
 have:=ho.y hu;omega
theorem qy.node (h:qy b) {i:Nat} (hi:i<b.length):((nd b i).op≤3∧aa b i=.leaf (nd b i).op (nd b i).i (nd b i).e (nd b i).g)∨(((nd b i).op=4∨(nd b i).op=9∨(nd b i).op=10)∧aa b i=.un (nd b i).op (nd b i).i (nd b i).e (nd b i).g (aa b (nd b i).x.toNat))∨(((nd b i).op=5∨(nd b i).op=6)∧aa b i=.bin (nd b i).op (nd b i).i (nd b i).e (nd b i).g (aa b (nd b i).x.toNat) (aa b (nd b i).y.toNat)):=by
 rw [dH hi]
 have hO:=(aA.1 h.jD).nodes
 have hn:=h.Cl _ (List.getElem_mem hi)
 unfold eG at hn
 have hX:cG b[i].op=true↔4≤b[i].op:=by
  unfold cG;simp;omega
 have hY:ct b[i].op=true↔b[i].op=5∨b[i].op=6:=by
  unfold ct;simp;omega
 rcases dE hi hO with ⟨h1,h2⟩|⟨h1,h2,h3⟩|⟨h1,h2⟩
 ·refine .inl ⟨?_,h2⟩
  have:¬4≤b[i].op:=fun e=>by rw [hX.2 e] at h1;cases h1
  omega
 ·refine .inr (.inl ⟨?_,h3⟩)
  have:=hX.1 h1
  have:¬(b[i].op=5∨b[i].op=6):=fun e=>by rw [hY.2 e] at h2;cases h2
  omega
 exact .inr (.inr ⟨hY.1 h1,h2⟩)
theorem qy.nf (h:qy b):∀(i:Nat),i<b.length→ot (aa b i):=by
 intro i
 induction i using Nat.strongRecOn with
 |_ i ih=>
 intro hi
 rcases h.node hi with ⟨h1,h2⟩|⟨h1,h2⟩|⟨h1,h2⟩
 ·rw [h2];exact h1
 ·have hx:=h.x hi (by omega)
  rw [h2]
  by_cases h4:(nd b i).op=4
  ·have hn:=h.Cl _ (List.getElem_mem hi)
   unfold eG at hn
   rw [←dH hi] at hn
   have h3:(nd b (nd b i).x).op=3:=by omega
   obtain ⟨k,hk⟩:∃k:Nat,(nd b i).x=k:=⟨(nd b i).x.toNat,by omega⟩
   rw [hk] at h3⊢
   have hkl:k<b.length:=by omega
   rcases h.node hkl with ⟨g1,g2⟩|⟨g1,g2⟩|⟨g1,g2⟩
   ·rw [Int.toNat_natCast,g2,h3]
    exact .inl ⟨h4,_,_,_,rfl⟩
   ·omega
   omega
  exact .inr ⟨by omega,ih _ (by omega) (by omega)⟩
 have hx:=h.x hi (by omega)
 have hy:=h.y hi h1
 rw [h2]
 exact ⟨h1,ih _ (by omega) (by omega),ih _ (by omega) (by omega)⟩
theorem qy.top (h:qy b):ot (bh b):=by
 have hp:=(aA.1 h.jD).pos
 rw [dg]
 exact h.nf _ (by omega)
end
open Classical in
noncomputable def ri (ei:Bool) (f:List NV):Int:=if aW f≠0 then aW f else if ¬∀n∈aj f,eG (aj f) n then 10 else if (aI af ei (bh f) ⟨[],false⟩).2.bad=true then 8 else 0
noncomputable def DC (ei:Bool) (f:List NV):List LD:=(aI af ei (bh f) ⟨[],false⟩).2.ls.map (fun x=>x.v.d)
end Go.Proofs.Wit
namespace Go.Proofs.Wit
open Go Go.RowKit
structure SP where
  bw:Nat
  bs:Nat
  l:Int
  A:Option Addr
  cA:Nat
  b:List NV
  B:Option Addr
  cB:Nat
  tl:List SV
  x:SV
  full:aB
  Z:Option Addr
  cZ:Nat
  last:List Nat
def SP.cs (p:SP):Array Value:=#[.pointer (some ⟨p.bw,0,none⟩),.int .i64 p.l,.slice p.A p.b.length p.cA,.slice p.B p.tl.length p.cB,U p.x.d.set,.int .i64 p.x.d.av,.int .i64 p.x.d.on,.int .i64 p.x.d.e,.slice p.x.fa p.x.d.fr.length p.x.fc,U p.full,.slice p.Z p.last.length p.cZ]
structure SP.At (p:SP) (t:TypeId) (w:World):Prop where
  di:w.heap[p.bs]?=some (.cells p.cs t (0,0))
  fa:FA w p.A p.b
  sa:Sl w p.B (p.tl.flatMap SV.cells)
  ED:jP w p.x.fa p.x.d.fr
  Gu:jP w p.Z (p.last.map (fun j:Nat=>(j:Int)))
structure SP.R (p:SP) (t:TypeId) (S:List Nat) (w:World):Prop where
  at_:p.At t w
  s1:p.bs∉S
  s2:∀b o,p.A=some ⟨b,o,none⟩→b∉S
  s3:∀b o,p.B=some ⟨b,o,none⟩→b∉S
  s4:∀b o,p.x.fa=some ⟨b,o,none⟩→b∉S
  s5:∀b o,p.Z=some ⟨b,o,none⟩→b∉S
theorem SP.R.ex {p:SP} {t:TypeId} {S:List Nat} {w w':World} (h:p.R t S w) (e:Ex S w w'):p.At t w':=by
 refine ⟨?_,h.at_.fa.ay e h.s2,Sl.ex h.at_.sa e h.s3,jP.ay h.at_.ED e h.s4,jP.ay h.at_.Gu e h.s5⟩
 have h1:=h.at_.di
 rw [e.block p.bs (Array.getElem?_eq_some_iff.1 h1).1 h.s1];exact h1
theorem SP.At.ay {p:SP} {t:TypeId} {w w':World} (h:p.At t w) (e:Ex [] w w'):p.At t w':=⟨e.gH h.di,h.fa.ay e,Sl.ex h.sa e (by simp),h.ED.ay e,h.Gu.ay e⟩
structure SP.In (p:SP) (t tn ts ti:TypeId) (hR:Hl):Prop where
  di:(some p.bs,.cells p.cs t (0,0))∈hR
  fa:∃q sp,(q,eW tn p.b sp)∈hR∧p.A=q.map (fun b=>⟨b,0,none⟩)∧(q=none→p.b.length=0)
  sa:∃q sp,(q,l8 ts p.tl sp)∈hR∧p.B=q.map (fun b=>⟨b,0,none⟩)∧(q=none→p.tl.length=0)
  ED:∃q sp,(q,ob bK ti p.x.d.fr sp)∈hR∧p.x.fa=q.map (fun b=>⟨b,0,none⟩)∧(q=none→p.x.d.fr.length=0)
  Gu:∃q sp,(q,ob bK ti (p.last.map (fun j:Nat=>(j:Int))) sp)∈hR∧p.Z=q.map (fun b=>⟨b,0,none⟩)∧(q=none→p.last.length=0)
theorem SP.In.mono {p:SP} {t tn ts ti:TypeId} {hR hR':Hl} (h:p.In t tn ts ti hR) (hs:hR⊆hR'):p.In t tn ts ti hR':=by
 obtain ⟨h1,⟨q2,s2,a2,b2⟩,⟨q3,s3,a3,b3⟩,⟨q4,s4,a4,b4⟩,⟨q5,s5,a5,b5⟩⟩:=h
 exact ⟨hs h1,⟨q2,s2,hs a2,b2⟩,⟨q3,s3,hs a3,b3⟩,⟨q4,s4,hs a4,b4⟩,⟨q5,s5,hs a5,b5⟩⟩
theorem SP.In.r {p:SP} {t tn ts ti:TypeId} {hR h0:Hl} {w:World} (h:p.In t tn ts ti hR) (g:iE w (h0++hR)):p.R t (cM h0) w:=by
 obtain ⟨h1,⟨q2,s2,a2,b2,c2⟩,⟨q3,s3,a3,b3,c3⟩,⟨q4,s4,a4,b4,c4⟩,⟨q5,s5,a5,b5,c5⟩⟩:=h
 obtain ⟨k1,k2⟩:=g.read h1
 have hsep:∀{a:Option Addr} {q:Option Nat} {o':Obj},(q,o')∈hR→a=q.map (fun b=>(⟨b,0,none⟩:Addr))→∀b o,a=some ⟨b,o,none⟩→b∉cM h0:=fun hm e b o e2=>by
  rename_i a q o'
  subst e
  cases q with
  |none=>cases e2
  |some b'=>cases e2;exact (g.read hm).2
 refine ⟨⟨k1,?_,?_,?_,?_⟩,k2,hsep a2 b2,hsep a3 b3,hsep a4 b4,hsep a5 b5⟩
 ·rw [b2]
  cases q2 with
  |none=>rw [List.eq_nil_of_length_eq_zero (c2 rfl)];exact ⟨Sl.nil _ _⟩
  |some b=>exact ⟨Sl.di (g.read a2).1⟩
 ·rw [b3]
  cases q3 with
  |none=>rw [List.eq_nil_of_length_eq_zero (c3 rfl)];exact Sl.nil _ _
  |some b=>exact Sl.di (g.read a3).1
 ·rw [b4]
  cases q4 with
  |none=>rw [List.eq_nil_of_length_eq_zero (c4 rfl)];exact Sl.nil _ _
  |some b=>exact Sl.di (g.read a4).1
 rw [b5]
 cases q5 with
 |none=>rw [List.eq_nil_of_length_eq_zero (c5 rfl)];exact Sl.nil _ _
 |some b=>exact Sl.di (g.read a5).1
theorem SP.At.part {p:SP} {t:TypeId} {w:World} (h:p.At t w) {o:Nat} {cs:List Value} (hc:∀j,j<cs.length→p.cs[o+j]?=cs[j]?):∀j v,cs[j]?=some v→w.cell? ((⟨p.bs,o,none⟩:Addr).add j)=some v:=fun j v hv=>by
 have hj:=(List.getElem?_eq_some_iff.1 hv).1
 have e1:(⟨p.bs,o,none⟩:Addr).add j=⟨p.bs,o+j,none⟩:=by
  unfold Addr.add;split
  ·rename_i h0;rw [h0];rfl
  rfl
 rw [e1]
 exact Ex.cell (Ex.refl _ _) h.di (by rw [hc j hj];exact hv)
structure Gz (S:List Nat) (w:World) (a:Option Addr) (xs:List Value):Prop where
  at_:Sl w a xs
  sep:∀b o,a=some ⟨b,o,none⟩→b∉S
theorem Gz.ay {S:List Nat} {w0 w:World} {a:Option Addr} {xs:List Value} (h:Gz S w0 a xs) (e:Ex S w0 w):Gz S w a xs:=⟨Sl.ex h.at_ e h.sep,h.sep⟩
theorem SP.R.HP {p:SP} {t:TypeId} {S:List Nat} {w:World} (h:p.R t S w):Gz S w p.B (p.tl.flatMap SV.cells):=⟨h.at_.sa,h.s3⟩
theorem SP.R.EK {p:SP} {t:TypeId} {S:List Nat} {w:World} (h:p.R t S w):CI S w p.A p.b:=⟨h.at_.fa.at_,h.s2⟩
def SP.ag (p:SP):Int:=if p.x.d.av=7 then p.x.d.on else (nd p.b p.x.d.on).i
def SP.S0 (p:SP):aB:=cu (ec p.tl) (p.x.d.fr.getD 0 0)
def SP.own (p:SP):List Nat:=if p.x.d.av=6 then dG (p.S0 &&& ~~~ bW (nd p.b p.x.d.on).x) else dG p.S0
def SP.ns (p:SP):List Nat:=if p.x.d.av=6 then p.own else p.own.dropLast
def SP.tg (p:SP):Nat:=if p.x.d.av=6 then (nd p.b p.x.d.on).x.toNat else p.own.getLastD 0
def SP.line (p:SP):Nat:=p.last.getD (p.x.d.fr.getD 0 0).toNat 0
structure SP.Ok (p:SP) (k:Nat):Prop where
  base:aX p.b
  full:iM p.b p.full
  kX:ey p.l p.b (ec p.tl) k p.x.d
  Iq:k<p.tl.length
  FB:p.last.length=k
  uq:∀j:Nat,j<p.tl.length→iM p.b (cu (ec p.tl) (j:Int))
  ne:∀j:Nat,j<p.tl.length→dG (cu (ec p.tl) (j:Int))≠[]
  Iy:p.x.d.av=6∨p.x.d.av=7→∀n∈p.own,fB p.b p.full p.ag n=n→(nd p.b n).op=9∨(nd p.b n).op=10
  IB:p.x.d.av=6∨p.x.d.av=7→0≤p.ag∧p.ag<4
noncomputable def Fy (p:SP) (G:Tr) (σ:Sg):Nat×Sg:=uG af p.b G p.full p.ag p.ns p.tg p.own (decide (p.x.d.av=6)) p.line σ
theorem AW {s u:aB} {n:Nat} (h:n∈dG (s &&& u)):n∈dG s:=cH.2 (by
 have:=cH.1 h
 rw [BitVec.getLsbD_and,Bool.and_eq_true] at this;exact this.1)
theorem SP.vz {p:SP} {n:Nat} (h:n∈p.own):n∈dG p.S0:=by
 unfold SP.own at h
 split at h
 ·exact AW h
 exact h
theorem SP.Dk {p:SP} {n:Nat} (h:n∈p.ns):n∈p.own:=by
 unfold SP.ns at h
 split at h
 ·exact h
 exact (List.dropLast_sublist _).subset h
theorem AX {s:aB}:(dG s).length≤64:=by
 have:=List.length_filter_le (fun i=>s.getLsbD i) (List.range 64)
 simpa [dG] using this
theorem SP.A2 {p:SP}:p.own.length≤64:=by unfold SP.own;split<;>exact AX
theorem SP.A6 {p:SP}:p.own.take p.ns.length=p.ns:=by
 unfold SP.ns;split
 ·exact List.take_length
 rw [List.length_dropLast,List.dropLast_eq_take]
theorem SP.Fp {p:SP}:p.ns.length≤p.own.length:=by
 unfold SP.ns;split
 ·exact Nat.le_refl _
 rw [List.length_dropLast];omega
section
variable {P:Program} {tn tw tl:TypeId} {er:Value} {bw:Nat} {Γ:List FV} {σ:Sg} {s:Ws}
variable {r:Option Nat} {f:FuncId} {R:Value→World→Prop} {w0:World} {S:List Nat} {Y:List (Nat×Obj)} {n:Nat} {k:List Item} {l:Fl} {ops:Array Oper} {i d:Nat} {rest:List Nat} {ty:TypeId} {pos:String} {aft:Array Edge} {g:Option (Nat×Bool)}
variable {az:Array Operand} {ts:Array TypeId} {cal:Operand} {gf:FuncId} {vs:List Value} {u:Tr}
theorem ab.Ac {pre:Hl} {y:FV} (hW:fw tn Γ σ s) (hy:y∈Γ) (hyz:y.Z) (ho:ops[i]?=some ⟨some d,.call ⟨.value cal,az,ts⟩,ty,pos,aft,g⟩) (hw:au ops l g=true)
  (hc:aU l cal=some (.func (.func gf) #[] #[])) (hx:du l az.toList=some vs) (hd:Nat.blt d n=true) (hcf:∀args w,(callFunc gf args).run P w=.ok (.enter gf args) w)
  (hcall:∀w Y',St w0 S w (pre++cm tw tl er bw s) Y'→Cn P gf vs w (fun v w'=>(v=y.v∧y.f=bT u)∨ga tn w w' v (bT u)))
  (hk:∀x s' Γ',x∈Γ'→Γ⊆Γ'→x.f=bT u→x.Z→fw tn Γ' σ s'→ab P r f R w0 S Y n (.inRegion ops rest::k) ((d,x.v)::l) (pre++cm tw tl er bw s')):
  ab P r f R w0 S Y n (.inRegion ops (i::rest)::k) l (pre++cm tw tl er bw s):=by
 refine ab.nr (fun w v w'=>(v=y.v∧y.f=bT u)∨ga tn w w' v (bT u)) ho hw hc hx hd hcf hcall (fun v w w' Y' hS he hO=>?_)
 rcases hO with ⟨rfl,hf⟩|⟨ho,hz⟩
 ·exact ⟨_,hS.later he,hk y s Γ hy (fun _ h=>h) hf hyz hW⟩
 obtain ⟨q,cap,sp,rfl,hq,ao,hS'⟩:=ak hS he ho
 refine ⟨_,hS'.perm mS,?_⟩
 rw [jq]
 refine hk _ _ _ (List.mem_cons_self ..) (fun _ h=>List.mem_cons_of_mem _ h) rfl (fun e=>?_) (hW.add hq gm)
 have:=hz e
 cases q with
 |none=>rfl
 |some b=>cases this
end
section
variable {P:Program} {tn tw tl:TypeId} {er:Value} {ef:Bool→Value} {bw:Nat} {Γ:List FV} {σ:Sg} {s:Ws}
variable {r:Option Nat} {f:FuncId} {R:Value→World→Prop} {w0:World} {S:List Nat} {Y:List (Nat×Obj)} {n:Nat} {k:List Item} {l:Fl} {ops:Array Oper} {i d:Nat} {ty:TypeId} {pos:String} {aft:Array Edge} {g:Option (Nat×Bool)}
variable {az:Array Operand} {ts:Array TypeId} {cal:Operand} {gf:FuncId} {vs:List Value} {u:Tr} {hb:Hl} {q:Nat} {Dn:List Nat} {h:Hl}
theorem aF.two {i j d e:Nat} (h1:aC ops Dn=[i,j]) (hi:dq P w0 S n h ops i l d (fun v h'=>hb.Sublist h'∧aF P r f R w0 S Y n k ops hb q (i::Dn) ((d,v)::l) h')) (hd:Nat.blt d n=true) (hj:dq P w0 S n h ops j l e (fun v h'=>hb.Sublist h'∧aF P r f R w0 S Y n k ops hb q (j::Dn) ((e,v)::l) h')) (he:Nat.blt e n=true):aF P r f R w0 S Y n k ops hb (q+1) Dn l h:=by
 intro t hF
 rw [Dt]
 refine .inr ⟨by rw [h1];simp,fun m hm=>?_⟩
 rw [h1] at hm
 simp only [List.mem_cons,List.not_mem_nil,or_false] at hm
 rcases hm with rfl|rfl
 ·exact fY.of hi hF (fun v h' ⟨e1,e2⟩=>⟨e1,e2 _ (hF.put v hd)⟩)
 exact fY.of hj hF (fun v h' ⟨e1,e2⟩=>⟨e1,e2 _ (hF.put v he)⟩)
theorem dq.Ac {K:Value→Hl→Prop} {pre:Hl} {y:FV} (hW:fw tn Γ σ s) (hy:y∈Γ) (hyz:y.Z) (ho:ops[i]?=some ⟨some d,.call ⟨.value cal,az,ts⟩,ty,pos,aft,g⟩) (hw:au ops l g=true)
  (hc:aU l cal=some (.func (.func gf) #[] #[])) (hx:du l az.toList=some vs) (hd:Nat.blt d n=true) (hcf:∀args w,(callFunc gf args).run P w=.ok (.enter gf args) w)
  (hcall:∀w Y',St w0 S w (pre++cm tw tl er bw s) Y'→Cn P gf vs w (fun v w'=>(v=y.v∧y.f=bT u)∨ga tn w w' v (bT u)))
  (hk:∀x s' Γ',x∈Γ'→Γ⊆Γ'→x.f=bT u→x.Z→fw tn Γ' σ s'→K x.v (pre++cm tw tl er bw s')):dq P w0 S n (pre++cm tw tl er bw s) ops i l d K:=by
 refine dq.call (fun w v w'=>(v=y.v∧y.f=bT u)∨ga tn w w' v (bT u)) ho hw hc hx hd hcf hcall (fun v w w' Y' hS he hO=>?_)
 rcases hO with ⟨rfl,hf⟩|⟨ho,hz⟩
 ·exact ⟨_,hS.later he,hk y s Γ hy (fun _ h=>h) hf hyz hW⟩
 obtain ⟨q,cap,sp,rfl,hq,ao,hS'⟩:=ak hS he ho
 refine ⟨_,hS'.perm mS,?_⟩
 rw [jq]
 refine hk _ _ _ (List.mem_cons_self ..) (fun _ h=>List.mem_cons_of_mem _ h) rfl (fun e=>?_) (hW.add hq gm)
 have:=hz e
 cases q with
 |none=>rfl
 |some b=>cases this
theorem dq.iH {K:Value→Hl→Prop} {pre:Hl} (hW:fw tn Γ σ s) (ho:ops[i]?=some ⟨some d,.call ⟨.value cal,az,ts⟩,ty,pos,aft,g⟩) (hw:au ops l g=true)
  (hc:aU l cal=some (.func (.func gf) #[] #[])) (hx:du l az.toList=some vs) (hd:Nat.blt d n=true) (hcf:∀args w,(callFunc gf args).run P w=.ok (.enter gf args) w)
  (hcall:∀w Y',St w0 S w (pre++cm tw tl er bw s) Y'→Cn P gf vs w (fun v w'=>ga tn w w' v (bT u)))
  (hk:∀x s',x.f=bT u→x.Z→fw tn (x::Γ) σ s'→K x.v (pre++cm tw tl er bw s')):dq P w0 S n (pre++cm tw tl er bw s) ops i l d K:=by
 refine dq.call (fun w v w'=>ga tn w w' v (bT u)) ho hw hc hx hd hcf hcall (fun v w w' Y' hS he hO=>?_)
 obtain ⟨ho,hz⟩:=hO
 obtain ⟨q,cap,sp,rfl,hq,ao,hS'⟩:=ak hS he ho
 refine ⟨_,hS'.perm mS,?_⟩
 rw [jq]
 refine hk _ _ rfl (fun e=>?_) (hW.add hq gm)
 have:=hz e
 cases q with
 |none=>rfl
 |some b=>cases this
theorem dq.uE {K:Value→Hl→Prop} {pre:Hl} (hW:fw tn Γ σ s) (ho:ops[i]?=some ⟨some d,.call ⟨.value cal,az,ts⟩,ty,pos,aft,g⟩) (hw:au ops l g=true)
  (hc:aU l cal=some (.func (.func gf) #[] #[])) (hx:du l az.toList=some vs) (hd:Nat.blt d n=true) (hcf:∀args w,(callFunc gf args).run P w=.ok (.enter gf args) w)
  (hcall:∀w Y',St w0 S w (pre++cm tw tl er bw s) Y'→Cn P gf vs w (fun v w'=>aH tn w w' v (bT u)))
  (hk:∀x s',x.f=bT u→fw tn (x::Γ) σ s'→K x.v (pre++cm tw tl er bw s')):dq P w0 S n (pre++cm tw tl er bw s) ops i l d K:=by
 refine dq.call (fun w v w'=>aH tn w w' v (bT u)) ho hw hc hx hd hcf hcall (fun v w w' Y' hS he hO=>?_)
 obtain ⟨q,cap,sp,rfl,hq,ao,hS'⟩:=ak hS he hO
 refine ⟨_,hS'.perm mS,?_⟩
 rw [jq]
 exact hk _ _ rfl (hW.add hq gm)
theorem dq.bu {K:Value→Hl→Prop} {pre hR hR':Hl} {s0:Ws} {er0:Value} {res:Nat×Sg} (h0:iE w0 (cm tw tl er0 bw s0++hR)) (hW:fw tn Γ σ s) (hsub:hR'.Sublist (pre++hR)) (ho:ops[i]?=some ⟨some d,.call ⟨.value cal,az,ts⟩,ty,pos,aft,g⟩) (hw:au ops l g=true)
  (hc:aU l cal=some (.func (.func gf) #[] #[])) (hx:du l az.toList=some vs) (hd:Nat.blt d n=true) (hcf:∀args w,(callFunc gf args).run P w=.ok (.enter gf args) w)
  (hcall:∀w Y',St w0 (cM (cm tw tl er0 bw s0)) w (pre++cm tw tl (ef σ.bad) bw s) Y'→rz P tn tw tl ef bw Γ σ gf vs w hR' res)
  (hk:∀s' Γ',fw tn Γ' res.2 s'→Γ⊆Γ'→K (.int .i64 (res.1:Int)) (pre++cm tw tl (ef res.2.bad) bw s')):dq P w0 (cM (cm tw tl er0 bw s0)) n (pre++cm tw tl (ef σ.bad) bw s) ops i l d K:=by
 have hp:(pre++cm tw tl (ef σ.bad) bw s).Perm (cm tw tl (ef σ.bad) bw s++pre):=List.perm_append_comm
 refine ⟨_,ho,rfl,rfl,rfl,hd,.inl ⟨hw,fun t w Ds Y' hF' hS=>.inr ⟨gf,vs.toArray,fun v w'=>∃h',(∃s' Γ',v=.int .i64 (res.1:Int)∧h'=cm tw tl (ef res.2.bad) bw s'∧fw tn Γ' res.2 s'∧Γ⊆Γ')∧St w (cM (cm tw tl (ef σ.bad) bw s)) w' h' [],?_,?_,fun v w' ⟨h',h1,h2⟩=>?_⟩⟩⟩
 ·have e1:=gk (P:=P) (ty:=ty) (ts:=ts) (Ds:=Ds) (w:=w) (first:=#[]) (captured:=#[]) hF' hc hx
  simp only [execOp,Sem.run_bind,e1,Result.andThen_ok,invoke,hcf]
  simp
 ·have:=hcall w Y' hS s hW ((h0.stay hS).sub (List.Sublist.append (List.Sublist.refl _) hsub))
  exact Calls.mono this (fun e w' ⟨v,h',e1,e2,e3⟩=>⟨v,e1,h',e2,e3⟩)
 obtain ⟨s',Γ',rfl,rfl,hW',hs'⟩:=h1
 exact ⟨_,((hS.perm hp).frame h2).perm List.perm_append_comm,hk s' Γ' hW' hs'⟩
end
theorem vv {w:World} {a:Option Addr} {xs:List Value} (h:Sl w a xs) (n:Nat):Sl w a (xs.take n):=by
 refine ⟨fun hp=>h.isSome (by rw [List.length_take] at hp;omega),fun j hj=>?_⟩
 rw [List.length_take] at hj
 rw [h.cell j (by omega)]
 simp [List.getD_eq_getElem?_getD,show j<n by omega]
end Go.Proofs.Wit
namespace Go.Proofs.Wit
open Go Go.RowKit
section
variable {l:Int} {b:List NV} {L:List SD}
theorem zD (hb:aX b) {s:aB} {a:Int} {n:Nat} (hn:(lG l b s a).getLsbD n=true) (he:fB b s a n=n):(nd b n).op=9∨(nd b n).op=10:=by
 obtain ⟨z,_,h⟩:=ql hb hn he
 obtain ⟨i,h1,_⟩:=(kl hb).1 hn
 have hnb:n<b.length:=by
  rcases h with ⟨h,_⟩|⟨h,_⟩
  all_goals
   refine Classical.byContradiction fun e=>?_
   have:aa b n=aa b n:=rfl
   obtain ⟨i,h1,h2,h3,h4⟩:=(kl hb).1 hn
   rcases h4 with ⟨h4,h5⟩|⟨h4,_⟩
   ·have:=hb.x h1 (by omega);omega
   omega
 rcases hb.node hnb with ⟨g1,g2⟩|⟨g1,g2⟩|⟨g1,g2⟩
 ·rcases h with ⟨h,_⟩|⟨h,_⟩<;>rw [g2] at h<;>cases h
 ·rcases h with ⟨h,_⟩|⟨h,_⟩<;>rw [g2] at h<;>injection h with h1<;>omega
 rcases h with ⟨h,_⟩|⟨h,_⟩<;>rw [g2] at h<;>cases h
theorem gZ.GH (h:gZ l b L) {p:SP} {q:Nat} (e1:p.l=l) (e2:p.b=b) (e3:ec p.tl=dB b L) (hq:q<p.tl.length) (e4:p.x=p.tl[q]) (e5:p.full=(cU L L.length).getD q 0#64) (e6:p.last.length=q):p.Ok q:=by
 have hb:=h.base
 have ht:=h.tr
 have htl:p.tl.length=(dB b L).length:=by rw [←e3,cW]
 have hqt:q<(dB b L).length:=by omega
 have hxd:p.x.d=(dB b L)[q]:=by
  rw [e4]
  have:(ec p.tl)[q]'(by rw [cW];exact hq)=p.tl[q].d:=kI hq
  rw [←this];simp only [e3]
 obtain ⟨k,hk,hn,hkq,htq⟩:=ui hqt
 have hfull:p.full=L[k].set:=by rw [e5,List.getD_eq_getElem?_getD,←hkq,rX hn (Nat.le_refl _) hk hk];rfl
 have hcor:=ht.kX q hqt
 rw [←hxd] at hcor htq
 have hru:p.x.d.av=L[k].av:=by rw [htq];rfl
 have hon:p.x.d.on=L[k].on:=by rw [htq];rfl
 have hfr:p.x.d.fr=L[k].fr.map (fun j=>((bJ (dR L) j.toNat:Nat):Int)):=by rw [htq];rfl
 have hS0:∀j:Nat,L[k].fr=[(j:Int)]→p.S0=oV b L j:=fun j hj=>by
  have hm:(j:Int)∈L[k].fr:=by rw [hj];simp
  unfold SP.S0
  rw [hfr,hj,e3]
  exact rI (by have:=(h.pre hk hn hm).2.1;omega) (h.pre hk hn hm).1
 have ml:=h.E2 hk
 have hag9:∀{o:Nat},o<b.length→(nd b o).op=10→0≤(nd b o).i∧(nd b o).i<4:=fun {o} ho h2=>by
  have hok:=hb.ok ho
  rcases hb.node ho with ⟨g1,g2⟩|⟨g1,g2⟩|⟨g1,g2⟩
  ·omega
  ·rw [g2] at hok;exact (mV hok (by omega)).1
  omega
 refine ⟨e2 ▸ hb,?_,?_,hq,e6,fun j hj=>?_,fun j hj=>?_,fun h67 n hno hsn=>?_,fun h67=>?_⟩
 ·rw [hfull,e2];exact (h.kX k hk).1
 ·rw [e1,e2,e3];exact hcor
 ·rw [e3,e2,dL (by omega)];exact (ht.kX j (by omega)).1
 ·obtain ⟨n,h1,_⟩:=ht.zd j (by omega)
  have h2:=ht.sub j (by omega) n h1
  rw [e3,dL (by omega)]
  exact fun e=>by have:=cH.2 h2;rw [e] at this;cases this
 ·rw [e2] at hsn⊢
  have hns:=SP.vz hno
  cases ml with
  |Cv o g1=>omega
  |neg o e g1=>omega
  |and o j g1=>omega
  |or o j i g1=>omega
  |cut o e j i g1=>omega
  |t o j g1=>omega
  |k o j g1 g2 g3 g4 g5 g6 g7 g8 g9 g10=>
   have hag:p.ag=(nd b o).i:=by unfold SP.ag;rw [if_neg (by omega),e2,hon,g5]
   rw [hS0 j g3] at hns
   have hnx:(n:Int)≠(nd b o).x:=fun e=>by
    have hx:=hb.x g6 (by omega)
    unfold SP.own at hno
    rw [if_pos (by omega),cH,gx,e2,hon,g5,oi (by have:=hb.len;omega)] at hno
    exact hno.2 e
   have:=g9 n (by
    have hm:(j:Int)∈L[k].fr:=by rw [g3];simp
    have:=(h.pre hk hn hm).2.1
    rw [dL (by omega)];exact h.sub j (by omega) n (cH.1 hns))
   rw [hag,hfull] at hsn
   exact zD hb (this.resolve_right hnx) hsn
  |d j g1 g2 g3 g4 g5 g6 g7 g8=>
   have hag:p.ag=L[k].on:=by unfold SP.ag;rw [if_pos (by omega),hon]
   rw [hS0 j g4] at hns
   rw [hag,hfull] at hsn
   exact zD hb (g7 n (by
    have hm:(j:Int)∈L[k].fr:=by rw [g4];simp
    have:=(h.pre hk hn hm).2.1
    rw [dL (by omega)];exact h.sub j (by omega) n (cH.1 hns))) hsn
 cases ml with
 |Cv o g1=>omega
 |neg o e g1=>omega
 |and o j g1=>omega
 |or o j i g1=>omega
 |cut o e j i g1=>omega
 |t o j g1=>omega
 |k o j g1 g2 g3 g4 g5 g6 g7 g8 g9 g10=>
  unfold SP.ag;rw [if_neg (by omega),e2,hon,g5]
  exact hag9 g6 g8
 |d j g1 g2 g3 g4 g5 g6 g7 g8=>
  unfold SP.ag;rw [if_pos (by omega),hon];exact g6
theorem sZ {T:Tr→Prop} {tl:List SD} {fl:List aB} {q:Nat}:∀{r:Nat},q≤r→r≤tl.length→(aT T b tl fl q).2.Le (aT T b tl fl r).2
 |0,h,_=>by rw [show q=0 by omega];exact Sg.Le.refl _
 |r+1,h,h2=>by
  by_cases e:q=r+1
  ·rw [e];exact Sg.Le.refl _
  refine (sZ (r:=r) (by omega) (by omega)).trans ?_
  rw [eM (by omega)];exact sQ
theorem AY {T:Tr→Prop}:(aT T b (dB b L) (cU L L.length) (dB b L).length).2.Le (fS T b L).2:=by
 unfold fS;dsimp only
 split
 ·exact Sg.Le.refl _
 exact dc
open Classical in
noncomputable def xu (l:Int) (b:List NV) (L:List SD):Int:=if nH l b L≠0 then nH l b L else if (fS af b L).2.bad=true then 8 else 0
noncomputable def EE (b:List NV) (L:List SD):List LD:=(fS af b L).2.ls.map (fun x=>x.v.d)
end
section
variable {P:Program} {tn tw tl:TypeId} {ef:Bool→Value} {bw:Nat} {Γ:List FV} {σ:Sg} {s:Ws}
variable {r:Option Nat} {f:FuncId} {R:Value→World→Prop} {w0:World} {S:List Nat} {Y:List (Nat×Obj)} {n:Nat} {k:List Item} {l:Fl} {ops:Array Oper} {i d:Nat} {rest:List Nat} {ty:TypeId} {pos:String} {aft:Array Edge} {g:Option (Nat×Bool)}
variable {az:Array Operand} {ts:Array TypeId} {cal:Operand} {gf:FuncId} {vs:List Value}
theorem Ci {pre H:Hl} {er:Value}:(pre++(cm tw tl er bw s++H)).Perm ((pre++H)++cm tw tl er bw s):=by
 rw [List.append_assoc]
 exact List.Perm.append_left pre List.perm_append_comm
theorem ab.Ea {pre H hR':Hl} {res:Nat×Sg} (hW:fw tn Γ σ s) (hsub:hR'.Sublist (pre++H)) (ho:ops[i]?=some ⟨some d,.call ⟨.value cal,az,ts⟩,ty,pos,aft,g⟩) (hw:au ops l g=true)
  (hc:aU l cal=some (.func (.func gf) #[] #[])) (hx:du l az.toList=some vs) (hd:Nat.blt d n=true) (hcf:∀args w,(callFunc gf args).run P w=.ok (.enter gf args) w)
  (hcall:∀w Y',St w0 S w ((pre++H)++cm tw tl (ef σ.bad) bw s) Y'→rz P tn tw tl ef bw Γ σ gf vs w hR' res)
  (hk:∀s' Γ',fw tn Γ' res.2 s'→Γ⊆Γ'→ab P r f R w0 S Y n (.inRegion ops rest::k) ((d,.int .i64 (res.1:Int))::l) (pre++(cm tw tl (ef res.2.bad) bw s'++H))):
  ab P r f R w0 S Y n (.inRegion ops (i::rest)::k) l (pre++(cm tw tl (ef σ.bad) bw s++H)):=by
 refine ab.mR Ci ?_
 refine ab.qt hW hsub ho hw hc hx hd hcf hcall (fun s' Γ' hW' hg'=>?_)
 exact ab.mR Ci.symm (hk s' Γ' hW' hg')
theorem ab.GX {h h':Hl} (hm:∀w Y',St w0 S w h Y'→St w0 S w h' Y') (hg:ab P r f R w0 S Y n k l h'):ab P r f R w0 S Y n k l h:=fun t w Ds hF hS=>hg t w Ds hF (hm w _ hS)
theorem dq.qt {K:Value→Hl→Prop} {pre hR':Hl} {res:Nat×Sg} (hW:fw tn Γ σ s) (hsub:hR'.Sublist pre) (ho:ops[i]?=some ⟨some d,.call ⟨.value cal,az,ts⟩,ty,pos,aft,g⟩) (hw:au ops l g=true)
  (hc:aU l cal=some (.func (.func gf) #[] #[])) (hx:du l az.toList=some vs) (hd:Nat.blt d n=true) (hcf:∀args w,(callFunc gf args).run P w=.ok (.enter gf args) w)
  (hcall:∀w Y',St w0 S w (pre++cm tw tl (ef σ.bad) bw s) Y'→rz P tn tw tl ef bw Γ σ gf vs w hR' res)
  (hk:∀s' Γ',fw tn Γ' res.2 s'→Γ⊆Γ'→K (.int .i64 (res.1:Int)) (pre++cm tw tl (ef res.2.bad) bw s')):dq P w0 S n (pre++cm tw tl (ef σ.bad) bw s) ops i l d K:=by
 have hp:(pre++cm tw tl (ef σ.bad) bw s).Perm (cm tw tl (ef σ.bad) bw s++pre):=List.perm_append_comm
 refine ⟨_,ho,rfl,rfl,rfl,hd,.inl ⟨hw,fun t w Ds Y' hF' hS=>.inr ⟨gf,vs.toArray,fun v w'=>∃h',(∃s' Γ',v=.int .i64 (res.1:Int)∧h'=cm tw tl (ef res.2.bad) bw s'∧fw tn Γ' res.2 s'∧Γ⊆Γ')∧St w (cM (cm tw tl (ef σ.bad) bw s)) w' h' [],?_,?_,fun v w' ⟨h',h1,h2⟩=>?_⟩⟩⟩
 ·have e1:=gk (P:=P) (ty:=ty) (ts:=ts) (Ds:=Ds) (w:=w) (first:=#[]) (captured:=#[]) hF' hc hx
  simp only [execOp,Sem.run_bind,e1,Result.andThen_ok,invoke,hcf]
  simp
 ·have:=hcall w Y' hS s hW ((hS.perm hp).has.sub (List.Sublist.append (List.Sublist.refl _) hsub))
  exact Calls.mono this (fun e w' ⟨v,h',e1,e2,e3⟩=>⟨v,e1,h',e2,e3⟩)
 obtain ⟨s',Γ',rfl,rfl,hW',hs'⟩:=h1
 exact ⟨_,((hS.perm hp).frame h2).perm List.perm_append_comm,hk s' Γ' hW' hs'⟩
end
end Go.Proofs.Wit
namespace Go.Proofs.Wit
open Go Go.RowKit
theorem tQ:∀(xs:List Tr),∃l:List Tr,l.Nodup∧(∀u,u∈l↔u∈xs)∧l.length≤xs.length
 |[]=>⟨[],List.nodup_nil,fun _=>Iff.rfl,Nat.le_refl _⟩
 |x::xs=>by
  obtain ⟨l,h1,h2,h3⟩:=tQ xs
  by_cases h:x∈l
  ·exact ⟨l,h1,fun u=>by rw [h2,List.mem_cons];exact ⟨.inr,fun e=>e.elim (fun e=>by rw [e];exact (h2 x).1 h) id⟩,by simp;omega⟩
  exact ⟨x::l,List.nodup_cons.2 ⟨h,h1⟩,fun u=>by rw [List.mem_cons,List.mem_cons,h2],by simp;omega⟩
theorem D3 {t:Tr} (h:(kK t).length≤10):af t:=by
 obtain ⟨l,h1,h2,h3⟩:=tQ (kK t)
 exact ⟨l,h1,h2,by omega⟩
def Gt (t:Tr) (r:Int) (ls:List TL):Bool:=decide ((bX t).length≤200) && (decide (ls.length<400) && (decide (r≠1)||decide ((kK t).length≤10)))
theorem jx {t:Tr} {r:Int} {a b:Nat} {g:Int} {ls:List TL} (h:Gt t r ls=true):bR af t r a b g ⟨ls,false⟩=(ls.length,⟨ls++[⟨t,r,a,b,g⟩],false⟩):=by
 unfold Gt at h
 simp only [Bool.and_eq_true,Bool.or_eq_true,decide_eq_true_eq] at h
 obtain ⟨h1,h2,h3⟩:=h
 rw [bR,if_neg]
 rintro (e|e|e|⟨e1,e2⟩)
 ·cases e
 ·exact e h1
 ·dsimp only at e;omega
 rcases h3 with h3|h3
 ·exact h3 e1
 exact e2 (D3 h3)
theorem rO {t:Tr} (h:decide ((bX (aE t)).length≤200)=true):fg t=(aN t).2:=by
 unfold fg;split
 ·rfl
 rename_i h2;exact absurd (of_decide_eq_true h:(bX (aE t)).length≤200) h2
theorem A4:fg pT=aE pT:=by rw [rO (by decide+kernel)];decide+kernel
theorem Ck:fg (aE pT)=pT:=by rw [rO (by decide+kernel)];decide+kernel
theorem GP:fg (ar 0 pT)=gl 0 (aE pT):=by rw [rO (by decide+kernel)];decide+kernel
theorem lU {g u:Tr} {fr:List Nat} {ls:List TL} (hu:u=cy (fr.map (fQ ⟨ls,false⟩)) g) (h:Gt u 1 ls=true):aV af g fr ⟨ls,false⟩=lu af g (fr.map (fun n=>(n,fQ ⟨ls,false⟩ n))) ls.length ⟨ls++[⟨u,1,0,0,0⟩],false⟩:=by
 rw [aV,if_neg (by simp),←hu,jx h]
theorem lP {g u t:Tr} {n m:Nat} {ps:List (Nat×Tr)} {ls:List TL} (hu:u=cy (ps.map (·.2)) g) (h:Gt u 10 ls=true):lu af g ((m,t)::ps) n ⟨ls,false⟩=lu af g ps ls.length ⟨ls++[⟨u,10,m,n,0⟩],false⟩:=by
 rw [lu,←hu,jx h]
abbrev Dm:Tr:=aE (aE pT)
abbrev D9 (ei:Bool):Tr:=if ei=true then .bin 6 0 0 0 pT (aE pT) else aE (jA pT (aE pT))
abbrev BP (ei:Bool):Tr:=if ei=true then .bin 6 0 0 0 (ar 0 pT) (gl 0 (aE pT)) else aE (jA (ar 0 pT) (gl 0 (aE pT)))
abbrev kP (ei:Bool):Tr:=if ei=true then Dm else pT
abbrev kQ (ei:Bool):Tr:=if ei=true then pT else Dm
abbrev GY (ei:Bool):List TL:=[⟨D9 ei,1,0,0,0⟩]
abbrev yN (ei:Bool):List TL:=[⟨D9 ei,1,0,0,0⟩,⟨aP (D9 ei) (aP (kP ei) (kQ ei)),1,0,0,0⟩,⟨aP (kP ei) (kQ ei),10,0,1,0⟩]
abbrev DA (ei:Bool):List TL:=yN ei++[⟨ar 0 (aP (kP ei) (kQ ei)),11,2,0,0⟩,⟨aP (ar 0 (aP (kP ei) (kQ ei))) (aP (ar 0 (kP ei)) (ar 0 (kQ ei))),2,0,0,0⟩,⟨aP (ar 0 (kP ei)) (ar 0 (kQ ei)),10,3,4,0⟩,⟨nJ (gl 0 (aE pT)) (aE (ar 0 Dm)),7,0,0,0⟩]
abbrev Gv (ei:Bool):List TL:=DA ei++[⟨aP (aP (ar 0 (kP ei)) (ar 0 (kQ ei))) (aP (nJ (gl 0 (aE pT)) (aE (ar 0 Dm))) (BP ei)),1,0,0,0⟩,⟨aP (nJ (gl 0 (aE pT)) (aE (ar 0 Dm))) (BP ei),10,5,7,0⟩,⟨BP ei,10,6,8,0⟩]
theorem He {ei:Bool}:lW ei pT=D9 ei:=by unfold lW D9;rw [A4]
theorem Hf {ei:Bool}:lW ei (ar 0 pT)=BP ei:=by unfold lW BP;rw [GP]
theorem DE {ei:Bool}:aI af ei pT ⟨[],false⟩=(0,⟨GY ei,false⟩):=by
 show aI af ei (.leaf 3 0 0 0) _=_
 rw [aI,show (Tr.leaf 3 0 0 0)=pT from rfl,He,lU (u:=D9 ei) rfl (by cases ei<;>decide+kernel)]
 rfl
theorem DF {ei:Bool}:aI af ei (ar 0 pT) ⟨[],false⟩=(9,⟨Gv ei,false⟩):=by
 show aI af ei (.un 9 0 0 0 pT) _=_
 rw [aI,if_pos (.inl rfl),DE,show (Tr.un 9 0 0 0 pT)=ar 0 pT from rfl]
 have hp:oM ei 9 pT=kP ei:=by unfold oM kP vT uT;rw [if_pos rfl,if_pos rfl,A4]
 have hq:oL ei 9 pT=kQ ei:=by unfold oL kQ vT uT;rw [if_pos rfl,if_pos rfl,A4]
 have hv:vT 9 pT=aE pT:=by unfold vT;rw [if_pos rfl,A4]
 have h1:aV af (aP (kP ei) (kQ ei)) [0] ⟨GY ei,false⟩=(2,⟨yN ei,false⟩):=by
  rw [lU (u:=aP (D9 ei) (aP (kP ei) (kQ ei))) rfl (by cases ei<;>decide+kernel)]
  rw [List.map_cons,List.map_nil,lP (u:=aP (kP ei) (kQ ei)) rfl (by cases ei<;>decide+kernel)]
  rfl
 have h2:gI af 0 (kP ei) (kQ ei) 2 ⟨yN ei,false⟩=(5,⟨yN ei++[⟨ar 0 (aP (kP ei) (kQ ei)),11,2,0,0⟩,⟨aP (ar 0 (aP (kP ei) (kQ ei))) (aP (ar 0 (kP ei)) (ar 0 (kQ ei))),2,0,0,0⟩,⟨aP (ar 0 (kP ei)) (ar 0 (kQ ei)),10,3,4,0⟩],false⟩):=by
  rw [gI,jx (by cases ei<;>decide+kernel)]
  dsimp only
  rw [kW,jx (by cases ei<;>decide+kernel)]
  dsimp only
  rw [jx (by cases ei<;>decide+kernel)]
  rfl
 have h3:dV af 0 (aE pT) ⟨yN ei++[⟨ar 0 (aP (kP ei) (kQ ei)),11,2,0,0⟩,⟨aP (ar 0 (aP (kP ei) (kQ ei))) (aP (ar 0 (kP ei)) (ar 0 (kQ ei))),2,0,0,0⟩,⟨aP (ar 0 (kP ei)) (ar 0 (kQ ei)),10,3,4,0⟩],false⟩=(6,⟨DA ei,false⟩):=by
  rw [dV,jx (by cases ei<;>decide+kernel)]
  rfl
 have h4:aV af (BP ei) [5,6] ⟨DA ei,false⟩=(9,⟨Gv ei,false⟩):=by
  rw [lU (u:=aP (aP (ar 0 (kP ei)) (ar 0 (kQ ei))) (aP (nJ (gl 0 (aE pT)) (aE (ar 0 Dm))) (BP ei))) rfl (by cases ei<;>decide+kernel)]
  rw [List.map_cons,List.map_cons,List.map_nil,lP (u:=aP (nJ (gl 0 (aE pT)) (aE (ar 0 Dm))) (BP ei)) rfl (by cases ei<;>decide+kernel),lP (u:=BP ei) rfl (by cases ei<;>decide+kernel)]
  rfl
 rw [pP,hp,hq,hv,h1]
 dsimp only
 rw [h2]
 dsimp only
 rw [h3]
 dsimp only
 rw [Hf,h4]
def gL:List NV:=[⟨3,0,0,0,0,0⟩,⟨4,0,0,0,0,0⟩,⟨9,0,0,0,0,0⟩]
def Aw:SD:=⟨7#64,1,1,0,[]⟩
def Av:SD:=⟨6#64,5,2,0,[0]⟩
def dD:List SD:=[Aw,Av]
theorem CW:aX gL:=⟨by decide+kernel,by decide,by decide+kernel⟩
theorem EX:aa gL 0=pT:=by decide+kernel
theorem EW:aa gL 1=aE pT:=by decide+kernel
theorem GC:aa gL 2=ar 0 pT:=by decide+kernel
theorem CU:jC gL 1=0:=qY (i:=1) (j:=0) (by decide) (by rw [EX,show tA gL 1=aa gL 1 from rfl,EW,Ck]) (fun k hk=>absurd hk (Nat.not_lt_zero _))
theorem Au:ey 2 gL dD 0 Aw:=by
 refine ⟨fun k hk=>?_,.inl ⟨rfl,rfl,.inr ⟨by decide+kernel,by decide,by decide+kernel,CU⟩⟩⟩
 have:∀k:Fin 64,(7#64).getLsbD k.val=true→k.val<3:=by decide+kernel
 exact this ⟨k,BitVec.lt_of_getLsbD hk⟩ hk
theorem As:ey 2 gL dD 1 Av:=by
 refine ⟨fun k hk=>?_,.inr (.inr (.inr (.inr (.inl ⟨rfl,rfl,.inl rfl,⟨by decide,by decide+kernel,by decide+kernel⟩,?_⟩))))⟩
 ·have:∀k:Fin 64,(6#64).getLsbD k.val=true→k.val<3:=by decide+kernel
  exact this ⟨k,BitVec.lt_of_getLsbD hk⟩ hk
 exact ⟨⟨⟨by decide,by decide⟩,by decide+kernel⟩,trivial⟩
theorem vm:gZ 2 gL dD:=by
 refine ⟨by decide,CW,by decide,by decide,fun k hk=>?_⟩
 match k,hk with
 |0,_=>exact Au
 |1,_=>exact As
theorem Aq:oV gL dD 0=3#64:=by decide+kernel
theorem Ap:oV gL dD 1=6#64:=by decide+kernel
theorem Ce:dR dD 1=true:=ig.2 (.last rfl)
theorem Cg:dR dD 0=true:=ig.2 (.fr (k:=1) (by decide) (.last rfl) (by decide+kernel))
theorem pw:dB gL dD=[⟨3#64,1,1,0,[]⟩,⟨6#64,5,2,0,[0]⟩]:=by
 have h0:mG gL dD 1=[⟨3#64,1,1,0,[]⟩]:=by
  rw [j7 (k:=0) (by decide),if_pos Cg]
  show []++[gG gL dD 0 Aw]=_
  rw [gG,Aq,if_neg (by decide+kernel)];rfl
 have hc:bJ (dR dD) 0=0:=rfl
 rw [dB]
 show mG gL dD 2=_
 rw [j7 (k:=1) (by decide),if_pos Ce,h0]
 show _++[gG gL dD 1 Av]=_
 rw [gG,Ap,if_neg (by decide+kernel)]
 show [_]++[SD.mk 6#64 5 2 0 [((bJ (dR dD) 0:Nat):Int)]]=_
 rw [hc];rfl
theorem xL:cU dD dD.length=[7#64,6#64]:=by
 show cU dD 2=_
 have h0:cU dD 1=[7#64]:=by
  show (match dD[0]? with|some x=>if dR dD 0=true then cU dD 0++[x.set] else cU dD 0|none=>cU dD 0)=_
  show (if dR dD 0=true then _ else _)=_
  rw [if_pos Cg];rfl
 show (if dR dD 1=true then cU dD 1++[6#64] else cU dD 1)=_
 rw [if_pos Ce,h0];rfl
abbrev Bv:Tr:=aE (jA pT (aE pT))
abbrev DY:Tr:=aE (jA (aE pT) (ar 0 pT))
abbrev EM:Tr:=aE (jA (aE pT) pT)
abbrev uK:List TL:=[⟨EM,1,0,0,0⟩,⟨aP EM Bv,1,0,0,0⟩,⟨Bv,10,0,1,0⟩]
abbrev EH:List TL:=uK++[⟨aP (ar 0 pT) pT,3,0,0,0⟩,⟨aP (aP (ar 0 pT) pT) (aP Bv DY),1,0,0,0⟩,⟨aP Bv DY,10,3,4,0⟩,⟨DY,10,2,5,0⟩]
theorem Fs:dh gL 3#64=Bv:=by decide+kernel
theorem Fq:dh gL 6#64=DY:=by decide+kernel
theorem GZ:aI af false (aE pT) ⟨[],false⟩=(0,⟨[⟨EM,1,0,0,0⟩],false⟩):=by
 have hc:lW false (aE pT)=EM:=by unfold lW;rw [if_neg (by decide),Ck]
 show aI af false (.un 4 0 0 0 pT) _=_
 rw [aI,if_neg (by decide),show (Tr.un 4 0 0 0 pT)=aE pT from rfl,hc,lU (u:=EM) rfl (by decide+kernel)]
 rfl
theorem GG:bH af gL (dB gL dD) 7#64 ⟨3#64,1,1,0,[]⟩ [] ⟨[],false⟩=(2,⟨uK,false⟩):=by
 unfold bH
 dsimp only
 rw [if_pos rfl,if_neg (by decide+kernel),Fs,show tA gL 1=aa gL 1 from rfl,EW,GZ]
 dsimp only
 rw [lU (u:=aP EM Bv) rfl (by decide+kernel),List.map_cons,List.map_nil,lP (u:=Bv) rfl (by decide+kernel)]
 rfl
theorem GF:bH af gL (dB gL dD) 6#64 ⟨6#64,5,2,0,[0]⟩ [2] ⟨uK,false⟩=(6,⟨EH,false⟩):=by
 unfold bH
 dsimp only
 rw [if_neg (by decide),if_neg (by decide),if_neg (by decide),if_neg (by decide),if_pos rfl,Fq,show tA gL 2=aa gL 2 from rfl,GC,show tA gL (nd gL 2).x=aa gL 0 from rfl,EX,jx (by decide+kernel)]
 dsimp only
 rw [show ([2]:List Nat).getD (([0]:List Int).getD 0 0).toNat 0=2 from rfl,show uK.length=3 from rfl]
 rw [lU (u:=aP (aP (ar 0 pT) pT) (aP Bv DY)) rfl (by decide+kernel),List.map_cons,List.map_cons,List.map_nil,lP (u:=aP Bv DY) rfl (by decide+kernel),lP (u:=DY) rfl (by decide+kernel)]
 rfl
theorem Da:fS af gL dD=(6,⟨EH,false⟩):=by
 have hl:(dB gL dD).length=2:=by rw [pw];rfl
 have h1:aT af gL (dB gL dD) (cU dD dD.length) 1=([2],⟨uK,false⟩):=by
  rw [eM (q:=0) (by omega),xL]
  have e:(dB gL dD)[0]'(by omega)=⟨3#64,1,1,0,[]⟩:=by simp only [pw];rfl
  rw [e]
  show ([]++[(bH af gL (dB gL dD) 7#64 ⟨3#64,1,1,0,[]⟩ [] ⟨[],false⟩).1],(bH af gL (dB gL dD) 7#64 ⟨3#64,1,1,0,[]⟩ [] ⟨[],false⟩).2)=_
  rw [GG];rfl
 have h2:aT af gL (dB gL dD) (cU dD dD.length) 2=([2,6],⟨EH,false⟩):=by
  rw [eM (q:=1) (by omega),h1,xL]
  have e:(dB gL dD)[1]'(by omega)=⟨6#64,5,2,0,[0]⟩:=by simp only [pw];rfl
  rw [e]
  show ([2]++[(bH af gL (dB gL dD) 6#64 ⟨6#64,5,2,0,[0]⟩ [2] ⟨uK,false⟩).1],(bH af gL (dB gL dD) 6#64 ⟨6#64,5,2,0,[0]⟩ [2] ⟨uK,false⟩).2)=_
  rw [GF];rfl
 unfold fS
 dsimp only
 rw [hl,h2,if_pos (by rw [pw];decide+kernel)]
 rfl
theorem mm {l:Int} {σ:Sg} (hg:Good l σ) (hl:0≤l∧l≤6) (h0:0<σ.ls.length) {ls:List LV} (hd:ls.map LV.d=σ.ls.map (fun x=>x.v.d)):fN l ls=0:=by
 have h1:fN l (σ.ls.map TL.v)=0:=iC.2 ⟨hl,by rw [List.length_map];exact h0,by rw [List.length_map];exact hg.len,hg.ok⟩
 exact u5 (by rw [hd,List.map_map];rfl) h1
theorem tR {ls:List LV} {ts:List TL} (hd:ls.map LV.d=ts.map (fun x=>x.v.d)) {k:Nat} (hk:k<ls.length) (hk2:k<ts.length):ls[k].f.f=bT ts[k].t:=by
 have h1:ls[k].d=ts[k].v.d:=by
  have:=congrArg (fun l=>l[k]?) hd
  simpa [hk,hk2] using this
 exact congrArg LD.f h1
theorem GS:ot pT:=by show (3:Int)≤3;decide
theorem GU:ot (ar 0 pT):=.inr ⟨.inl rfl,GS⟩
theorem oO:(ar 0 pT).ok:=bt (by decide) dW
theorem DB {ei:Bool}:ri ei (bT pT)=0∧DC ei (bT pT)=(GY ei).map (fun x=>x.v.d):=by
 have h1:aW (bT pT)=0:=by decide+kernel
 have h2:bh (bT pT)=pT:=by decide+kernel
 have h3:∀n∈aj (bT pT),eG (aj (bT pT)) n:=by decide+kernel
 refine ⟨?_,?_⟩
 ·rw [ri,if_neg (by simp [h1]),if_neg (fun h=>h h3),h2,DE,if_neg (by simp)]
 rw [DC,h2,DE]
theorem wS {ei:Bool}:ri ei (bT (ar 0 pT))=0∧DC ei (bT (ar 0 pT))=(Gv ei).map (fun x=>x.v.d):=by
 have h1:aW (bT (ar 0 pT))=0:=by decide+kernel
 have h2:bh (bT (ar 0 pT))=ar 0 pT:=by decide+kernel
 have h3:∀n∈aj (bT (ar 0 pT)),eG (aj (bT (ar 0 pT))) n:=by decide+kernel
 refine ⟨?_,?_⟩
 ·rw [ri,if_neg (by simp [h1]),if_neg (fun h=>h h3),h2,DF,if_neg (by simp)]
 rw [DC,h2,DF]
theorem Fz:ri false (bT (aP pT pT))=10:=by
 have h1:aW (bT (aP pT pT))=0:=by decide+kernel
 have h3:¬∀n∈aj (bT (aP pT pT)),eG (aj (bT (aP pT pT))) n:=by decide+kernel
 rw [ri,if_neg (by simp [h1]),if_pos h3]
theorem Dc:xu 2 gL dD=0∧EE gL dD=EH.map (fun x=>x.v.d):=by
 have h1:nH 2 gL dD=0:=iw.2 vm
 refine ⟨?_,?_⟩
 ·rw [xu,if_neg (by simp [h1]),Da,if_neg (by simp)]
 rw [EE,Da]
theorem FY {ls:List LV} (hd:ls.map LV.d=(Gv false).map (fun x=>x.v.d)):fN 0 ls=0:=by
 have h:=(lR (l:=0) (ei:=false) GU oO tM).dJ
 rw [DF] at h
 exact mm h (by decide) (by decide) hd
theorem FX {ls:List LV} (hd:ls.map LV.d=EH.map (fun x=>x.v.d)):fN 2 ls=0:=by
 have h:=vm.HT.2.1
 rw [Da] at h
 exact mm h (by decide) (by decide) hd
theorem D4:aR ⟨3,0,0,0,0,0⟩ []=bT pT:=by decide+kernel
end Go.Proofs.Wit
