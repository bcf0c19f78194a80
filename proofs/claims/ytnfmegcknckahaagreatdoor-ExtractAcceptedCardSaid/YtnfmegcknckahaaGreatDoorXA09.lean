/- Laws of walks, for any program, under the conditions that each theorem states. -/
import Derived.Test.YtnfmegcknckahaaGreatDoorXA07
namespace Go.Proofs.Wit
open Go Go.RowKit
/-- a tree of which every node is right -/
def Tr.ok:Tr→Prop
 |.leaf op i e g=>(1≤op∧op≤21)∧cG op=false∧fe op i e g=0
 |.un op i e g a=>(1≤op∧op≤21)∧cG op=true∧ct op=false∧fe op i e g=0∧a.ok
 |.bin op i e g a b=>(1≤op∧op≤21)∧ct op=true∧fe op i e g=0∧a.ok∧b.ok
theorem Tr.ok.wf:∀{t:Tr},t.ok→t.wf
 |.leaf _ _ _ _,h=>h.2.1
 |.un _ _ _ _ _,h=>⟨h.2.1,h.2.2.1,h.2.2.2.2.wf⟩
 |.bin _ _ _ _ _ _,h=>⟨h.2.1,h.2.2.2.1.wf,h.2.2.2.2.wf⟩
theorem Tr.ok.tF {t c:Tr} (h:t.ok) (hc:c∈kids t):c.ok:=by
 cases t with
 |leaf=>cases hc
 |un op i e g a=>rw [List.mem_singleton.1 hc];exact h.2.2.2.2
 |bin op i e g a b=>
  simp only [kids,List.mem_cons,List.not_mem_nil,or_false] at hc
  rcases hc with rfl|rfl
  ·exact h.2.2.2.1
  exact h.2.2.2.2
theorem Dx {n:NV} {a b:Tr} (h1:1≤n.op∧n.op≤21) (h2:fe n.op n.i n.e n.g=0) (ha:cG n.op=true→a.ok) (hb:ct n.op=true→b.ok):(tm n a b).ok:=by
 by_cases hY:ct n.op=true
 ·rw [ij hY];exact ⟨h1,hY,h2,ha (ez hY),hb hY⟩
 have hY':ct n.op=false:=by simpa using hY
 by_cases hX:cG n.op=true
 ·rw [jU hX hY'];exact ⟨h1,hX,hY',h2,ha hX⟩
 have hX':cG n.op=false:=by simpa using hX
 rw [fT hX'];exact ⟨h1,hX',h2⟩
theorem aZ.tree {f:List NV} (hf:aZ f):∀(i:Nat),i<f.length→(aa f i).ok:=by
 intro i
 induction i using Nat.strongRecOn with
 |_ i ih=>
  intro hi
  have h:=hf i hi
  rw [lh hi (fun hu=>by have:=h.x hu;omega) (fun hu=>by have:=h.y hu;omega)]
  exact Dx h.op h.kU (fun hu=>ih _ (by have:=h.x hu;omega) (by have:=h.x hu;omega)) (fun hu=>ih _ (by have:=h.y hu;omega) (by have:=h.y hu;omega))
theorem qP {p:Tr→Prop} (hp:∀t,p t→∀c∈kids t,p c) (t:Tr):∀{ts:List Tr},p t→(∀u∈ts,p u)→∀u∈visit t ts,p u:=by
 induction t with
 |leaf op i e g=>
  intro ts ht h u hu
  rw [visit] at hu
  split at hu
  ·exact h u hu
  rcases List.mem_append.1 hu with hu|hu
  ·exact h u hu
  rw [List.mem_singleton.1 hu];exact ht
 |un op i e g a iha=>
  intro ts ht h u hu
  rw [visit] at hu
  split at hu
  ·exact h u hu
  rcases List.mem_append.1 hu with hu|hu
  ·exact iha (hp _ ht a (by simp [kids])) h u hu
  rw [List.mem_singleton.1 hu];exact ht
 |bin op i e g a b iha ihb=>
  intro ts ht h u hu
  rw [visit] at hu
  split at hu
  ·exact h u hu
  rcases List.mem_append.1 hu with hu|hu
  ·exact ihb (hp _ ht b (by simp [kids])) (iha (hp _ ht a (by simp [kids])) h) u hu
  rw [List.mem_singleton.1 hu];exact ht
theorem xQ {t:Tr} (h:t.ok):∀u∈gq t,u.ok:=qP (fun _ ht _ hc=>ht.tF hc) t h (fun u hu=>by cases hu)
theorem pU {ts:List Tr} {c:Tr} {k:Nat} (h:c∈ts.take k):ts.idxOf c<k:=by
 have h1:=List.idxOf_lt_length_iff.2 h
 rw [←lS (List.take_prefix k ts) h] at h1
 rw [List.length_take] at h1
 omega
theorem uC {ts:List Tr} (hc:l9 ts) (ho:∀u∈ts,u.ok):aZ (aQ ts):=fun i hi=>by
 rw [jJ] at hi
 have hg:(aQ ts)[i]'(by rw [jJ];exact hi)=br ts ts[i]:=by simp [aQ]
 rw [hg]
 have h:=ho _ (List.getElem_mem hi)
 have hk:=hc i hi
 cases ht:ts[i] with
 |leaf op j e g=>
  rw [ht] at h
  have hY:ct op=false:=by
   cases e:ct op with
   |false=>rfl
   |true=>exact absurd ((ez e).symm.trans h.2.1) (by decide)
  exact ⟨h.1,fun hu=>absurd ((h.2.1).symm.trans hu) (by decide),fun _=>rfl,fun hu=>absurd ((hY).symm.trans hu) (by decide),fun _=>rfl,h.2.2⟩
 |un op j e g a=>
  rw [ht] at h hk
  have:=pU (hk a (by simp [kids]))
  exact ⟨h.1,fun _=>⟨by simp [br],by simp only [br];omega⟩,fun hu=>absurd ((h.2.1).symm.trans hu) (by decide),fun hu=>absurd ((h.2.2.1).symm.trans hu) (by decide),fun _=>rfl,h.2.2.2.1⟩
 |bin op j e g a b=>
  rw [ht] at h hk
  have h1:=pU (hk a (by simp [kids]))
  have h2:=pU (hk b (by simp [kids]))
  exact ⟨h.1,fun _=>⟨by simp [br],by simp only [br];omega⟩,fun hu=>absurd ((ez h.2.1).symm.trans hu) (by decide),fun _=>⟨by simp [br],by simp only [br];omega⟩,fun hu=>absurd ((h.2.1).symm.trans hu) (by decide),h.2.2.1⟩
theorem mu {t:Tr} (h:t.ok):aZ (bX t):=uC (ib t).oQ (xQ h)
theorem jr (t:Tr):0<(bX t).length:=by
 rw [fX]
 obtain ⟨l,hl⟩:=nN t
 rw [hl];simp
theorem qs {t:Tr} (h:t.ok) (hl:(bX t).length≤200):xy (bX t):=⟨jr t,hl,fun i hi=>gW.2 (mu h i hi)⟩
def dx (d:Nat) (n:NV):NV:={n with x:=if cG n.op=true then n.x+d else n.x,y:=if ct n.op=true then n.y+d else n.y}
def dT (o g:List NV):List NV:=o++g.map (dx o.length)
theorem qe {o g:List NV}:(dT o g).length=o.length+g.length:=by simp [dT]
theorem xY {d:Nat} {n:NV} {a:Int} (h:Ag n a):Ag (dx d n) (a+d):=by
 refine ⟨h.op,fun hu=>?_,fun hu=>?_,fun hu=>?_,fun hu=>?_,h.kU⟩
 ·have hu':cG n.op=true:=hu
  have:=h.x hu'
  simp only [dx,if_pos hu'];omega
 ·have hu':cG n.op=false:=hu
  have:=h.x0 hu'
  simp only [dx];rw [if_neg (by rw [hu'];simp)];exact this
 ·have hu':ct n.op=true:=hu
  have:=h.y hu'
  simp only [dx,if_pos hu'];omega
 have hu':ct n.op=false:=hu
 have:=h.y0 hu'
 simp only [dx];rw [if_neg (by rw [hu'];simp)];exact this
theorem v8 {o g:List NV} (ho:aZ o) (hg:aZ g):aZ (dT o g):=fun i hi=>by
 by_cases h:i<o.length
 ·have:(dT o g)[i]=o[i]:=by simp [dT,List.getElem_append_left h]
  rw [this];exact ho i h
 rw [qe] at hi
 have hj:i - o.length<g.length:=by omega
 have:(dT o g)[i]=dx o.length g[i - o.length]:=by simp [dT,List.getElem_append_right (Nat.le_of_not_lt h)]
 rw [this]
 have:=xY (d:=o.length) (hg _ hj)
 rw [show ((i - o.length:Nat):Int)+o.length=i from by omega] at this
 exact this
theorem vt {o:List NV} {n:NV} (ho:aZ o) (hn:Ag n o.length):aZ (o++[n]):=fun i hi=>by
 by_cases h:i<o.length
 ·rw [List.getElem_append_left h];exact ho i h
 have:i=o.length:=by simp at hi;omega
 subst this
 simp;exact hn
theorem sE.FR {f:List NV} {n:NV} (h:sE (f++[n])):sE f:=fun i hi=>by
 have:=h i (by simp;omega)
 rwa [List.getElem_append_left hi] at this
theorem wq {o g:List NV} (hg:sE g):trees (dT o g)=trees o++trees g:=by
 induction g using gv with
 |h0=>simp [dT,trees,Aa]
 |h1 g m ih=>
  have h:=ih hg.FR
  have hm:=hg g.length (by simp)
  simp only [List.getElem_concat_length] at hm
  have hcat:dT o (g++[m])=dT o g++[dx o.length m]:=by simp [dT]
  rw [hcat,fy,fy,h,←List.append_assoc]
  congr 2
  have hget:∀v:Int,0≤v→(trees o++trees g).getD (v+o.length).toNat l6=(trees g).getD v.toNat l6:=fun v hv=>by
   rw [List.getD_eq_getElem?_getD,List.getElem?_append_right (by rw [cK];omega),cK,List.getD_eq_getElem?_getD]
   congr 2;omega
  by_cases hY:ct m.op=true
  ·have hX:=ez hY
   have e1:(dx o.length m).x=m.x+o.length:=by simp [dx,hX]
   have e2:(dx o.length m).y=m.y+o.length:=by simp [dx,hY]
   rw [ij (n:=dx o.length m) hY,ij hY,e1,e2,hget _ (hm.1 hX).1,hget _ (hm.2 hY).1];rfl
  have hY':ct m.op=false:=by simpa using hY
  by_cases hX:cG m.op=true
  ·have e1:(dx o.length m).x=m.x+o.length:=by simp [dx,hX]
   rw [jU (n:=dx o.length m) hX hY',jU hX hY',e1,hget _ (hm.1 hX).1];rfl
  have hX':cG m.op=false:=by simpa using hX
  rw [fT (n:=dx o.length m) hX',fT hX'];rfl
def aj (f:List NV):List NV:=if aW f≠0 then [] else bX (bh f)
def wI:List (List NV)→List NV→List NV
 |[],o=>o
 |g::gs,o=>wI gs (dT o (aj g))
theorem lO:∀{gs:List (List NV)} {o g:List NV},wI (gs++[g]) o=dT (wI gs o) (aj g)
 |[],_,_=>rfl
 |h::gs,o,g=>by rw [List.cons_append,wI,lO,wI]
def outs (gs:List (List NV)):List NV:=wI gs []
def eS (n:NV) (gs:List (List NV)):Nat→NV
 |0=>n
 |k+1=>if k=0 then {eS n gs k with x:=((outs (gs.take (k+1))).length:Int) - 1} else {eS n gs k with y:=((outs (gs.take (k+1))).length:Int) - 1}
def aR (n:NV) (gs:List (List NV)):List NV:=
 if ∃g∈gs,aW g≠0 then [] else if aK (eS n gs gs.length) (outs gs).length≠0 then []
 else if 200<(bX (aa (outs gs++[eS n gs gs.length]) (outs gs).length)).length then [] else bX (aa (outs gs++[eS n gs gs.length]) (outs gs).length)
theorem dg {f:List NV}:bh f=aa f (f.length - 1):=rfl
theorem fR {f:List NV}:fz f ((f.length:Int) - 1)=aj f:=by
 unfold fz aj
 by_cases h:aW f=0
 ·have hp:=(aA.1 h).pos
  rw [if_neg (by simp [h];omega),if_neg (by simp [h]),dg]
  congr 2;omega
 rw [if_pos (.inl h),if_pos h]
theorem dv {f:List NV} (h:aW f=0):aj f=bX (bh f):=if_neg (by simp [h])
theorem xy.top {f:List NV} (h:xy f):(bh f).ok:=by
 rw [dg];exact h.nodes.tree _ (by have:=h.pos;omega)
theorem nZ {f:List NV} (h:aW f=0):(aj f).length≤f.length:=by
 have hok:=aA.1 h
 rw [dv h,dg]
 have:=og hok.ord (i:=f.length - 1) (by have:=hok.pos;omega)
 have:=hok.pos
 omega
theorem iB {f:List NV} (h:aW f=0):xy (aj f):=by
 have hok:=aA.1 h
 have hl:=nZ h
 have:=hok.len
 rw [dv h] at hl⊢
 exact qs hok.top (by omega)
theorem A3:∀{gs:List (List NV)},(∀g∈gs,aW g=0)→aZ (outs gs):=by
 intro gs
 induction gs using gv with
 |h0=>intro _ i hi;exact absurd hi (Nat.not_lt_zero _)
 |h1 gs g ih=>
  intro h
  unfold outs
  rw [lO]
  exact v8 (ih (fun g' hg'=>h g' (List.mem_append_left _ hg'))) (iB (h g (by simp))).nodes
theorem yn {gs:List (List NV)} (h:∀g∈gs,aW g=0):(outs gs).length≤200*gs.length:=by
 induction gs using gv with
 |h0=>exact Nat.zero_le _
 |h1 gs g ih=>
  unfold outs
  rw [lO,qe]
  have h1:=ih (fun g' hg'=>h g' (List.mem_append_left _ hg'))
  have h2:=(iB (h g (by simp))).len
  unfold outs at h1
  simp
  omega
theorem wH {gs:List (List NV)} {k:Nat} (hk:k<gs.length):outs (gs.take (k+1))=dT (outs (gs.take k)) (aj gs[k]):=by
 rw [List.take_succ_eq_append_getElem hk];exact lO
structure FV where
  a:Option Addr
  c:Nat
  f:List NV
def FV.v (x:FV):Value:=.slice x.a x.f.length x.c
def qM (w:World) (a:Option Addr) (gs:List FV):Prop:=Sl w a (gs.map FV.v)
theorem qM.ay {w0 w:World} {a:Option Addr} {gs:List FV} (h:qM w0 a gs) {S:List Nat} (e:Ex S w0 w) (hS:∀b o,a=some ⟨b,o,none⟩→b∉S:=by simp):qM w a gs:=Sl.ex h e hS
theorem qM.at {w:World} {a:Option Addr} {gs:List FV} (h:qM w a gs) (k:Nat) (hk:k<gs.length):w.cell? (nD a k)=some gs[k].v:=by
 rw [Sl.cell h k (by simpa using hk)]
 simp [List.getD_eq_getElem?_getD,hk]
theorem A7 {n:NV} {gs:List (List NV)} {k:Nat} (h:k≠0):eS n gs (k+1)={eS n gs k with y:=((outs (gs.take (k+1))).length:Int) - 1}:=by rw [eS,if_neg h]
theorem qd {o c:List NV} {m:Nat} (hm:m<c.length):dT o (c.take (m+1))=dT o (c.take m)++[dx o.length c[m]]:=by
 unfold dT
 rw [List.take_succ_eq_append_getElem hm,List.map_append,List.append_assoc];rfl
theorem p8 {o c:List NV}:dT o (c.take 0)=o:=by simp [dT]
def ga (e:TypeId) (w w':World) (v:Value) (ns:List NV):Prop:=aH e w w' v ns∧(ns=[]→v=.slice none 0 0)
theorem ga.oN {t:TypeId} {w w':World}:ga t w w' (.slice none 0 0) []:=⟨aH.oN,fun _=>rfl⟩
end Go.Proofs.Wit
