/- Laws of walks, for any program, under the conditions that each theorem states. -/
import Derived.Test.YtnfmegcknckahaaGreatDoorXO07
namespace Go.Proofs.Wit
open Go Go.RowKit
/-- a tree of which every node is right -/
def Tr.ok:Tr→Prop
 |.leaf op i e g=>(1≤op∧op≤21)∧cF op=false∧eX op i e g=0
 |.un op i e g a=>(1≤op∧op≤21)∧cF op=true∧cm op=false∧eX op i e g=0∧a.ok
 |.bin op i e g a b=>(1≤op∧op≤21)∧cm op=true∧eX op i e g=0∧a.ok∧b.ok
theorem Tr.ok.wf:∀{t:Tr},t.ok→t.wf
 |.leaf _ _ _ _,h=>h.2.1
 |.un _ _ _ _ _,h=>⟨h.2.1,h.2.2.1,h.2.2.2.2.wf⟩
 |.bin _ _ _ _ _ _,h=>⟨h.2.1,h.2.2.2.1.wf,h.2.2.2.2.wf⟩
theorem Tr.ok.tu {t c:Tr} (h:t.ok) (hc:c∈kids t):c.ok:=by
 cases t with
 |leaf=>cases hc
 |un op i e g a=>rw [List.mem_singleton.1 hc];exact h.2.2.2.2
 |bin op i e g a b=>
  simp only [kids,List.mem_cons,List.not_mem_nil,or_false] at hc
  rcases hc with rfl|rfl
  ·exact h.2.2.2.1
  exact h.2.2.2.2
theorem Df {n:NV} {a b:Tr} (h1:1≤n.op∧n.op≤21) (h2:eX n.op n.i n.e n.g=0) (ha:cF n.op=true→a.ok) (hb:cm n.op=true→b.ok):(sY n a b).ok:=by
 by_cases hY:cm n.op=true
 ·rw [ie hY];exact ⟨h1,hY,h2,ha (ep hY),hb hY⟩
 have hY':cm n.op=false:=by simpa using hY
 by_cases hX:cF n.op=true
 ·rw [jN hX hY'];exact ⟨h1,hX,hY',h2,ha hX⟩
 have hX':cF n.op=false:=by simpa using hX
 rw [fO hX'];exact ⟨h1,hX',h2⟩
theorem bd.tree {f:List NV} (hf:bd f):∀(i:Nat),i<f.length→(aa f i).ok:=by
 intro i
 induction i using Nat.strongRecOn with
 |_ i ih=>
  intro hi
  have h:=hf i hi
  rw [kU hi (fun hu=>by have:=h.x hu;omega) (fun hu=>by have:=h.y hu;omega)]
  exact Df h.op h.kO (fun hu=>ih _ (by have:=h.x hu;omega) (by have:=h.x hu;omega)) (fun hu=>ih _ (by have:=h.y hu;omega) (by have:=h.y hu;omega))
theorem qI {p:Tr→Prop} (hp:∀t,p t→∀c∈kids t,p c) (t:Tr):∀{ts:List Tr},p t→(∀u∈ts,p u)→∀u∈visit t ts,p u:=by
 induction t with
 |leaf op i e g=>
  intro ts ht h u hu
  rw [visit] at hu
  split at hu
  ·exact h u hu
  rcases List.mem_append.1 hu with hu|hu
  ·exact h u hu
  rw [List.mem_singleton.1 hu];exact ht
 |un op i e g a iha=>
  intro ts ht h u hu
  rw [visit] at hu
  split at hu
  ·exact h u hu
  rcases List.mem_append.1 hu with hu|hu
  ·exact iha (hp _ ht a (by simp [kids])) h u hu
  rw [List.mem_singleton.1 hu];exact ht
 |bin op i e g a b iha ihb=>
  intro ts ht h u hu
  rw [visit] at hu
  split at hu
  ·exact h u hu
  rcases List.mem_append.1 hu with hu|hu
  ·exact ihb (hp _ ht b (by simp [kids])) (iha (hp _ ht a (by simp [kids])) h) u hu
  rw [List.mem_singleton.1 hu];exact ht
theorem xH {t:Tr} (h:t.ok):∀u∈gl t,u.ok:=qI (fun _ ht _ hc=>ht.tu hc) t h (fun u hu=>by cases hu)
theorem pO {ts:List Tr} {c:Tr} {k:Nat} (h:c∈ts.take k):ts.idxOf c<k:=by
 have h1:=List.idxOf_lt_length_iff.2 h
 rw [←lM (List.take_prefix k ts) h] at h1
 rw [List.length_take] at h1
 omega
theorem uu {ts:List Tr} (hc:lY ts) (ho:∀u∈ts,u.ok):bd (aS ts):=fun i hi=>by
 rw [jE] at hi
 have hg:(aS ts)[i]'(by rw [jE];exact hi)=br ts ts[i]:=by simp [aS]
 rw [hg]
 have h:=ho _ (List.getElem_mem hi)
 have hk:=hc i hi
 cases ht:ts[i] with
 |leaf op j e g=>
  rw [ht] at h
  have hY:cm op=false:=by
   cases e:cm op with
   |false=>rfl
   |true=>exact absurd ((ep e).symm.trans h.2.1) (by decide)
  exact ⟨h.1,fun hu=>absurd ((h.2.1).symm.trans hu) (by decide),fun _=>rfl,fun hu=>absurd ((hY).symm.trans hu) (by decide),fun _=>rfl,h.2.2⟩
 |un op j e g a=>
  rw [ht] at h hk
  have:=pO (hk a (by simp [kids]))
  exact ⟨h.1,fun _=>⟨by simp [br],by simp only [br];omega⟩,fun hu=>absurd ((h.2.1).symm.trans hu) (by decide),fun hu=>absurd ((h.2.2.1).symm.trans hu) (by decide),fun _=>rfl,h.2.2.2.1⟩
 |bin op j e g a b=>
  rw [ht] at h hk
  have h1:=pO (hk a (by simp [kids]))
  have h2:=pO (hk b (by simp [kids]))
  exact ⟨h.1,fun _=>⟨by simp [br],by simp only [br];omega⟩,fun hu=>absurd ((ep h.2.1).symm.trans hu) (by decide),fun _=>⟨by simp [br],by simp only [br];omega⟩,fun hu=>absurd ((h.2.1).symm.trans hu) (by decide),h.2.2.1⟩
theorem ml {t:Tr} (h:t.ok):bd (bS t):=uu (ia t).oL (xH h)
theorem jf (t:Tr):0<(bS t).length:=by
 rw [fT]
 obtain ⟨l,hl⟩:=nJ t
 rw [hl];simp
theorem qe {t:Tr} (h:t.ok) (hl:(bS t).length≤200):xm (bS t):=⟨jf t,hl,fun i hi=>gW.2 (ml h i hi)⟩
def du (d:Nat) (n:NV):NV:={n with x:=if cF n.op=true then n.x+d else n.x,y:=if cm n.op=true then n.y+d else n.y}
def dP (o g:List NV):List NV:=o++g.map (du o.length)
theorem p6 {o g:List NV}:(dP o g).length=o.length+g.length:=by simp [dP]
theorem xP {d:Nat} {n:NV} {a:Int} (h:zW n a):zW (du d n) (a+d):=by
 refine ⟨h.op,fun hu=>?_,fun hu=>?_,fun hu=>?_,fun hu=>?_,h.kO⟩
 ·have hu':cF n.op=true:=hu
  have:=h.x hu'
  simp only [du,if_pos hu'];omega
 ·have hu':cF n.op=false:=hu
  have:=h.x0 hu'
  simp only [du];rw [if_neg (by rw [hu'];simp)];exact this
 ·have hu':cm n.op=true:=hu
  have:=h.y hu'
  simp only [du,if_pos hu'];omega
 have hu':cm n.op=false:=hu
 have:=h.y0 hu'
 simp only [du];rw [if_neg (by rw [hu'];simp)];exact this
theorem vU {o g:List NV} (ho:bd o) (hg:bd g):bd (dP o g):=fun i hi=>by
 by_cases h:i<o.length
 ·have:(dP o g)[i]=o[i]:=by simp [dP,List.getElem_append_left h]
  rw [this];exact ho i h
 rw [p6] at hi
 have hj:i - o.length<g.length:=by omega
 have:(dP o g)[i]=du o.length g[i - o.length]:=by simp [dP,List.getElem_append_right (Nat.le_of_not_lt h)]
 rw [this]
 have:=xP (d:=o.length) (hg _ hj)
 rw [show ((i - o.length:Nat):Int)+o.length=i from by omega] at this
 exact this
theorem vh {o:List NV} {n:NV} (ho:bd o) (hn:zW n o.length):bd (o++[n]):=fun i hi=>by
 by_cases h:i<o.length
 ·rw [List.getElem_append_left h];exact ho i h
 have:i=o.length:=by simp at hi;omega
 subst this
 simp;exact hn
theorem sr.FH {f:List NV} {n:NV} (h:sr (f++[n])):sr f:=fun i hi=>by
 have:=h i (by simp;omega)
 rwa [List.getElem_append_left hi] at this
theorem wb {o g:List NV} (hg:sr g):trees (dP o g)=trees o++trees g:=by
 induction g using gq with
 |h0=>simp [dP,trees,zQ]
 |h1 g m ih=>
  have h:=ih hg.FH
  have hm:=hg g.length (by simp)
  simp only [List.getElem_concat_length] at hm
  have hcat:dP o (g++[m])=dP o g++[du o.length m]:=by simp [dP]
  rw [hcat,fi,fi,h,←List.append_assoc]
  congr 2
  have hget:∀v:Int,0≤v→(trees o++trees g).getD (v+o.length).toNat lV=(trees g).getD v.toNat lV:=fun v hv=>by
   rw [List.getD_eq_getElem?_getD,List.getElem?_append_right (by rw [cH];omega),cH,List.getD_eq_getElem?_getD]
   congr 2;omega
  by_cases hY:cm m.op=true
  ·have hX:=ep hY
   have e1:(du o.length m).x=m.x+o.length:=by simp [du,hX]
   have e2:(du o.length m).y=m.y+o.length:=by simp [du,hY]
   rw [ie (n:=du o.length m) hY,ie hY,e1,e2,hget _ (hm.1 hX).1,hget _ (hm.2 hY).1];rfl
  have hY':cm m.op=false:=by simpa using hY
  by_cases hX:cF m.op=true
  ·have e1:(du o.length m).x=m.x+o.length:=by simp [du,hX]
   rw [jN (n:=du o.length m) hX hY',jN hX hY',e1,hget _ (hm.1 hX).1];rfl
  have hX':cF m.op=false:=by simpa using hX
  rw [fO (n:=du o.length m) hX',fO hX'];rfl
def aj (f:List NV):List NV:=if aV f≠0 then [] else bS (aO f)
def wx:List (List NV)→List NV→List NV
 |[],o=>o
 |g::gs,o=>wx gs (dP o (aj g))
theorem lJ:∀{gs:List (List NV)} {o g:List NV},wx (gs++[g]) o=dP (wx gs o) (aj g)
 |[],_,_=>rfl
 |h::gs,o,g=>by rw [List.cons_append,wx,lJ,wx]
def outs (gs:List (List NV)):List NV:=wx gs []
def eS (n:NV) (gs:List (List NV)):Nat→NV
 |0=>n
 |k+1=>if k=0 then {eS n gs k with x:=((outs (gs.take (k+1))).length:Int) - 1} else {eS n gs k with y:=((outs (gs.take (k+1))).length:Int) - 1}
def aQ (n:NV) (gs:List (List NV)):List NV:=
 if ∃g∈gs,aV g≠0 then [] else if aK (eS n gs gs.length) (outs gs).length≠0 then []
 else if 200<(bS (aa (outs gs++[eS n gs gs.length]) (outs gs).length)).length then [] else bS (aa (outs gs++[eS n gs gs.length]) (outs gs).length)
theorem db {f:List NV}:aO f=aa f (f.length - 1):=rfl
theorem fN {f:List NV}:fw f ((f.length:Int) - 1)=aj f:=by
 unfold fw aj
 by_cases h:aV f=0
 ·have hp:=(aA.1 h).pos
  rw [if_neg (by simp [h];omega),if_neg (by simp [h]),db]
  congr 2;omega
 rw [if_pos (.inl h),if_pos h]
theorem dt {f:List NV} (h:aV f=0):aj f=bS (aO f):=if_neg (by simp [h])
theorem xm.top {f:List NV} (h:xm f):(aO f).ok:=by
 rw [db];exact h.nodes.tree _ (by have:=h.pos;omega)
theorem nV {f:List NV} (h:aV f=0):(aj f).length≤f.length:=by
 have hok:=aA.1 h
 rw [dt h,db]
 have:=oc hok.ord (i:=f.length - 1) (by have:=hok.pos;omega)
 have:=hok.pos
 omega
theorem iy {f:List NV} (h:aV f=0):xm (aj f):=by
 have hok:=aA.1 h
 have hl:=nV h
 have:=hok.len
 rw [dt h] at hl⊢
 exact qe hok.top (by omega)
theorem AO:∀{gs:List (List NV)},(∀g∈gs,aV g=0)→bd (outs gs):=by
 intro gs
 induction gs using gq with
 |h0=>intro _ i hi;exact absurd hi (Nat.not_lt_zero _)
 |h1 gs g ih=>
  intro h
  unfold outs
  rw [lJ]
  exact vU (ih (fun g' hg'=>h g' (List.mem_append_left _ hg'))) (iy (h g (by simp))).nodes
theorem yd {gs:List (List NV)} (h:∀g∈gs,aV g=0):(outs gs).length≤200*gs.length:=by
 induction gs using gq with
 |h0=>exact Nat.zero_le _
 |h1 gs g ih=>
  unfold outs
  rw [lJ,p6]
  have h1:=ih (fun g' hg'=>h g' (List.mem_append_left _ hg'))
  have h2:=(iy (h g (by simp))).len
  unfold outs at h1
  simp
  omega
theorem wv {gs:List (List NV)} {k:Nat} (hk:k<gs.length):outs (gs.take (k+1))=dP (outs (gs.take k)) (aj gs[k]):=by
 rw [List.take_succ_eq_append_getElem hk];exact lJ
structure FV where
  a:Option Addr
  c:Nat
  f:List NV
def FV.v (x:FV):Value:=.slice x.a x.f.length x.c
def qF (w:World) (a:Option Addr) (gs:List FV):Prop:=Sl w a (gs.map FV.v)
theorem qF.ay {w0 w:World} {a:Option Addr} {gs:List FV} (h:qF w0 a gs) {S:List Nat} (e:Ex S w0 w) (hS:∀b o,a=some ⟨b,o,none⟩→b∉S:=by simp):qF w a gs:=Sl.ex h e hS
theorem qF.at {w:World} {a:Option Addr} {gs:List FV} (h:qF w a gs) (k:Nat) (hk:k<gs.length):w.cell? (nr a k)=some gs[k].v:=by
 rw [Sl.cell h k (by simpa using hk)]
 simp [List.getD_eq_getElem?_getD,hk]
theorem AT {n:NV} {gs:List (List NV)} {k:Nat} (h:k≠0):eS n gs (k+1)={eS n gs k with y:=((outs (gs.take (k+1))).length:Int) - 1}:=by rw [eS,if_neg h]
theorem p5 {o c:List NV} {m:Nat} (hm:m<c.length):dP o (c.take (m+1))=dP o (c.take m)++[du o.length c[m]]:=by
 unfold dP
 rw [List.take_succ_eq_append_getElem hm,List.map_append,List.append_assoc];rfl
theorem p4 {o c:List NV}:dP o (c.take 0)=o:=by simp [dP]
def fY (e:TypeId) (w w':World) (v:Value) (ns:List NV):Prop:=aI e w w' v ns∧(ns=[]→v=.slice none 0 0)
theorem fY.oI {t:TypeId} {w w':World}:fY t w w' (.slice none 0 0) []:=⟨aI.oI,fun _=>rfl⟩
end Go.Proofs.Wit
