/- Laws of walks, for any program, under the conditions that each theorem states. -/
import Derived.Test.YtnfmegcknckahaaGreatDoorXN07
namespace Go.Proofs.Wit
open Go Go.RowKit
/-! formulas that are built from formulas -/
/-- a tree of which every node is right -/
def Tr.ok:Tr→Prop
 |.leaf op i e g=>(1≤op∧op≤21)∧cD op=false∧eY op i e g=0
 |.un op i e g a=>(1≤op∧op≤21)∧cD op=true∧cn op=false∧eY op i e g=0∧a.ok
 |.bin op i e g a b=>(1≤op∧op≤21)∧cn op=true∧eY op i e g=0∧a.ok∧b.ok
theorem Tr.ok.wf:∀{t:Tr},t.ok→t.wf
 |.leaf _ _ _ _,h=>h.2.1
 |.un _ _ _ _ _,h=>⟨h.2.1,h.2.2.1,h.2.2.2.2.wf⟩
 |.bin _ _ _ _ _ _,h=>⟨h.2.1,h.2.2.2.1.wf,h.2.2.2.2.wf⟩
theorem Tr.ok.tD {t c:Tr} (h:t.ok) (hc:c∈kids t):c.ok:=by
 cases t with
 |leaf=>cases hc
 |un op i e g a=>rw [List.mem_singleton.1 hc];exact h.2.2.2.2
 |bin op i e g a b=>
  simp only [kids,List.mem_cons,List.not_mem_nil,or_false] at hc
  rcases hc with rfl|rfl
  ·exact h.2.2.2.1
  exact h.2.2.2.2
theorem Dm {n:NV} {a b:Tr} (h1:1≤n.op∧n.op≤21) (h2:eY n.op n.i n.e n.g=0) (ha:cD n.op=true→a.ok) (hb:cn n.op=true→b.ok):(th n a b).ok:=by
 by_cases hY:cn n.op=true
 ·rw [ib hY];exact ⟨h1,hY,h2,ha (ey hY),hb hY⟩
 have hY':cn n.op=false:=by simpa using hY
 by_cases hX:cD n.op=true
 ·rw [jN hX hY'];exact ⟨h1,hX,hY',h2,ha hX⟩
 have hX':cD n.op=false:=by simpa using hX
 rw [fM hX'];exact ⟨h1,hX',h2⟩
theorem aZ.tree {f:List NV} (hf:aZ f):∀(i:Nat),i<f.length→(aa f i).ok:=by
 intro i
 induction i using Nat.strongRecOn with
 |_ i ih=>
  intro hi
  have h:=hf i hi
  rw [kX hi (fun hu=>by have:=h.x hu;omega) (fun hu=>by have:=h.y hu;omega)]
  exact Dm h.op h.kO (fun hu=>ih _ (by have:=h.x hu;omega) (by have:=h.x hu;omega)) (fun hu=>ih _ (by have:=h.y hu;omega) (by have:=h.y hu;omega))
theorem qQ {p:Tr→Prop} (hp:∀t,p t→∀c∈kids t,p c) (t:Tr):∀{ts:List Tr},p t→(∀u∈ts,p u)→∀u∈visit t ts,p u:=by
 induction t with
 |leaf op i e g=>
  intro ts ht h u hu
  rw [visit] at hu
  split at hu
  ·exact h u hu
  rcases List.mem_append.1 hu with hu|hu
  ·exact h u hu
  rw [List.mem_singleton.1 hu];exact ht
 |un op i e g a iha=>
  intro ts ht h u hu
  rw [visit] at hu
  split at hu
  ·exact h u hu
  rcases List.mem_append.1 hu with hu|hu
  ·exact iha (hp _ ht a (by simp [kids])) h u hu
  rw [List.mem_singleton.1 hu];exact ht
 |bin op i e g a b iha ihb=>
  intro ts ht h u hu
  rw [visit] at hu
  split at hu
  ·exact h u hu
  rcases List.mem_append.1 hu with hu|hu
  ·exact ihb (hp _ ht b (by simp [kids])) (iha (hp _ ht a (by simp [kids])) h) u hu
  rw [List.mem_singleton.1 hu];exact ht
theorem xN {t:Tr} (h:t.ok):∀u∈gl t,u.ok:=qQ (fun _ ht _ hc=>ht.tD hc) t h (fun u hu=>by cases hu)
theorem pS {ts:List Tr} {c:Tr} {k:Nat} (h:c∈ts.take k):ts.idxOf c<k:=by
 have h1:=List.idxOf_lt_length_iff.2 h
 rw [←lR (List.take_prefix k ts) h] at h1
 rw [List.length_take] at h1
 omega
theorem ux {ts:List Tr} (hc:l9 ts) (ho:∀u∈ts,u.ok):aZ (aQ ts):=fun i hi=>by
 rw [jC] at hi
 have hg:(aQ ts)[i]'(by rw [jC];exact hi)=br ts ts[i]:=by simp [aQ]
 rw [hg]
 have h:=ho _ (List.getElem_mem hi)
 have hk:=hc i hi
 cases ht:ts[i] with
 |leaf op j e g=>
  rw [ht] at h
  have hY:cn op=false:=by
   cases e:cn op with
   |false=>rfl
   |true=>exact absurd ((ey e).symm.trans h.2.1) (by decide)
  exact ⟨h.1,fun hu=>absurd ((h.2.1).symm.trans hu) (by decide),fun _=>rfl,fun hu=>absurd ((hY).symm.trans hu) (by decide),fun _=>rfl,h.2.2⟩
 |un op j e g a=>
  rw [ht] at h hk
  have:=pS (hk a (by simp [kids]))
  exact ⟨h.1,fun _=>⟨by simp [br],by simp only [br];omega⟩,fun hu=>absurd ((h.2.1).symm.trans hu) (by decide),fun hu=>absurd ((h.2.2.1).symm.trans hu) (by decide),fun _=>rfl,h.2.2.2.1⟩
 |bin op j e g a b=>
  rw [ht] at h hk
  have h1:=pS (hk a (by simp [kids]))
  have h2:=pS (hk b (by simp [kids]))
  exact ⟨h.1,fun _=>⟨by simp [br],by simp only [br];omega⟩,fun hu=>absurd ((ey h.2.1).symm.trans hu) (by decide),fun _=>⟨by simp [br],by simp only [br];omega⟩,fun hu=>absurd ((h.2.1).symm.trans hu) (by decide),h.2.2.1⟩
theorem mq {t:Tr} (h:t.ok):aZ (bX t):=ux (hJ t).oM (xN h)
theorem ji (t:Tr):0<(bX t).length:=by
 rw [fR]
 obtain ⟨l,hl⟩:=nI t
 rw [hl];simp
theorem qt {t:Tr} (h:t.ok) (hl:(bX t).length≤200):xt (bX t):=⟨ji t,hl,fun i hi=>gW.2 (mq h i hi)⟩
def du (d:Nat) (n:NV):NV:={n with x:=if cD n.op=true then n.x+d else n.x,y:=if cn n.op=true then n.y+d else n.y}
def dQ (o g:List NV):List NV:=o++g.map (du o.length)
theorem qh {o g:List NV}:(dQ o g).length=o.length+g.length:=by simp [dQ]
theorem xV {d:Nat} {n:NV} {a:Int} (h:z9 n a):z9 (du d n) (a+d):=by
 refine ⟨h.op,fun hu=>?_,fun hu=>?_,fun hu=>?_,fun hu=>?_,h.kO⟩
 ·have hu':cD n.op=true:=hu
  have:=h.x hu'
  simp only [du,if_pos hu'];omega
 ·have hu':cD n.op=false:=hu
  have:=h.x0 hu'
  simp only [du];rw [if_neg (by rw [hu'];simp)];exact this
 ·have hu':cn n.op=true:=hu
  have:=h.y hu'
  simp only [du,if_pos hu'];omega
 have hu':cn n.op=false:=hu
 have:=h.y0 hu'
 simp only [du];rw [if_neg (by rw [hu'];simp)];exact this
theorem v3 {o g:List NV} (ho:aZ o) (hg:aZ g):aZ (dQ o g):=fun i hi=>by
 by_cases h:i<o.length
 ·have:(dQ o g)[i]=o[i]:=by simp [dQ,List.getElem_append_left h]
  rw [this];exact ho i h
 rw [qh] at hi
 have hj:i - o.length<g.length:=by omega
 have:(dQ o g)[i]=du o.length g[i - o.length]:=by simp [dQ,List.getElem_append_right (Nat.le_of_not_lt h)]
 rw [this]
 have:=xV (d:=o.length) (hg _ hj)
 rw [show ((i - o.length:Nat):Int)+o.length=i from by omega] at this
 exact this
theorem vo {o:List NV} {n:NV} (ho:aZ o) (hn:z9 n o.length):aZ (o++[n]):=fun i hi=>by
 by_cases h:i<o.length
 ·rw [List.getElem_append_left h];exact ho i h
 have:i=o.length:=by simp at hi;omega
 subst this
 simp;exact hn
theorem sG.FO {f:List NV} {n:NV} (h:sG (f++[n])):sG f:=fun i hi=>by
 have:=h i (by simp;omega)
 rwa [List.getElem_append_left hi] at this
theorem wk {o g:List NV} (hg:sG g):trees (dQ o g)=trees o++trees g:=by
 induction g using gq with
 |h0=>simp [dQ,trees,zW]
 |h1 g m ih=>
  have h:=ih hg.FO
  have hm:=hg g.length (by simp)
  simp only [List.getElem_concat_length] at hm
  have hcat:dQ o (g++[m])=dQ o g++[du o.length m]:=by simp [dQ]
  rw [hcat,fh,fh,h,←List.append_assoc]
  congr 2
  have hget:∀v:Int,0≤v→(trees o++trees g).getD (v+o.length).toNat l6=(trees g).getD v.toNat l6:=fun v hv=>by
   rw [List.getD_eq_getElem?_getD,List.getElem?_append_right (by rw [cH];omega),cH,List.getD_eq_getElem?_getD]
   congr 2;omega
  by_cases hY:cn m.op=true
  ·have hX:=ey hY
   have e1:(du o.length m).x=m.x+o.length:=by simp [du,hX]
   have e2:(du o.length m).y=m.y+o.length:=by simp [du,hY]
   rw [ib (n:=du o.length m) hY,ib hY,e1,e2,hget _ (hm.1 hX).1,hget _ (hm.2 hY).1];rfl
  have hY':cn m.op=false:=by simpa using hY
  by_cases hX:cD m.op=true
  ·have e1:(du o.length m).x=m.x+o.length:=by simp [du,hX]
   rw [jN (n:=du o.length m) hX hY',jN hX hY',e1,hget _ (hm.1 hX).1];rfl
  have hX':cD m.op=false:=by simpa using hX
  rw [fM (n:=du o.length m) hX',fM hX'];rfl
def aj (f:List NV):List NV:=if aV f≠0 then [] else bX (bh f)
def wF:List (List NV)→List NV→List NV
 |[],o=>o
 |g::gs,o=>wF gs (dQ o (aj g))
theorem lN:∀{gs:List (List NV)} {o g:List NV},wF (gs++[g]) o=dQ (wF gs o) (aj g)
 |[],_,_=>rfl
 |h::gs,o,g=>by rw [List.cons_append,wF,lN,wF]
def outs (gs:List (List NV)):List NV:=wF gs []
def eS (n:NV) (gs:List (List NV)):Nat→NV
 |0=>n
 |k+1=>if k=0 then {eS n gs k with x:=((outs (gs.take (k+1))).length:Int) - 1} else {eS n gs k with y:=((outs (gs.take (k+1))).length:Int) - 1}
def aR (n:NV) (gs:List (List NV)):List NV:=
 if ∃g∈gs,aV g≠0 then [] else if aK (eS n gs gs.length) (outs gs).length≠0 then []
 else if 200<(bX (aa (outs gs++[eS n gs gs.length]) (outs gs).length)).length then [] else bX (aa (outs gs++[eS n gs gs.length]) (outs gs).length)
theorem dc {f:List NV}:bh f=aa f (f.length - 1):=rfl
theorem fL {f:List NV}:fi f ((f.length:Int) - 1)=aj f:=by
 unfold fi aj
 by_cases h:aV f=0
 ·have hp:=(aD.1 h).pos
  rw [if_neg (by simp [h];omega),if_neg (by simp [h]),dc]
  congr 2;omega
 rw [if_pos (.inl h),if_pos h]
theorem dt {f:List NV} (h:aV f=0):aj f=bX (bh f):=if_neg (by simp [h])
theorem xt.top {f:List NV} (h:xt f):(bh f).ok:=by
 rw [dc];exact h.nodes.tree _ (by have:=h.pos;omega)
theorem nU {f:List NV} (h:aV f=0):(aj f).length≤f.length:=by
 have hok:=aD.1 h
 rw [dt h,dc]
 have:=nY hok.ord (i:=f.length - 1) (by have:=hok.pos;omega)
 have:=hok.pos
 omega
theorem iy {f:List NV} (h:aV f=0):xt (aj f):=by
 have hok:=aD.1 h
 have hl:=nU h
 have:=hok.len
 rw [dt h] at hl⊢
 exact qt hok.top (by omega)
theorem AU:∀{gs:List (List NV)},(∀g∈gs,aV g=0)→aZ (outs gs):=by
 intro gs
 induction gs using gq with
 |h0=>intro _ i hi;exact absurd hi (Nat.not_lt_zero _)
 |h1 gs g ih=>
  intro h
  unfold outs
  rw [lN]
  exact v3 (ih (fun g' hg'=>h g' (List.mem_append_left _ hg'))) (iy (h g (by simp))).nodes
theorem yk {gs:List (List NV)} (h:∀g∈gs,aV g=0):(outs gs).length≤200*gs.length:=by
 induction gs using gq with
 |h0=>exact Nat.zero_le _
 |h1 gs g ih=>
  unfold outs
  rw [lN,qh]
  have h1:=ih (fun g' hg'=>h g' (List.mem_append_left _ hg'))
  have h2:=(iy (h g (by simp))).len
  unfold outs at h1
  simp
  omega
theorem wE {gs:List (List NV)} {k:Nat} (hk:k<gs.length):outs (gs.take (k+1))=dQ (outs (gs.take k)) (aj gs[k]):=by
 rw [List.take_succ_eq_append_getElem hk];exact lN
structure FV where
  a:Option Addr
  c:Nat
  f:List NV
def FV.v (x:FV):Value:=.slice x.a x.f.length x.c
def qN (w:World) (a:Option Addr) (gs:List FV):Prop:=Sl w a (gs.map FV.v)
theorem qN.aA {w0 w:World} {a:Option Addr} {gs:List FV} (h:qN w0 a gs) {S:List Nat} (e:Ex S w0 w) (hS:∀b o,a=some ⟨b,o,none⟩→b∉S:=by simp):qN w a gs:=Sl.ex h e hS
theorem qN.at {w:World} {a:Option Addr} {gs:List FV} (h:qN w a gs) (k:Nat) (hk:k<gs.length):w.cell? (nr a k)=some gs[k].v:=by
 rw [Sl.cell h k (by simpa using hk)]
 simp [List.getD_eq_getElem?_getD,hk]
theorem AY {n:NV} {gs:List (List NV)} {k:Nat} (h:k≠0):eS n gs (k+1)={eS n gs k with y:=((outs (gs.take (k+1))).length:Int) - 1}:=by rw [eS,if_neg h]
theorem qg {o c:List NV} {m:Nat} (hm:m<c.length):dQ o (c.take (m+1))=dQ o (c.take m)++[du o.length c[m]]:=by
 unfold dQ
 rw [List.take_succ_eq_append_getElem hm,List.map_append,List.append_assoc];rfl
theorem qe {o c:List NV}:dQ o (c.take 0)=o:=by simp [dQ]
def fV (e:TypeId) (w w':World) (v:Value) (ns:List NV):Prop:=aH e w w' v ns∧(ns=[]→v=.slice none 0 0)
theorem fV.oI {t:TypeId} {w w':World}:fV t w w' (.slice none 0 0) []:=⟨aH.oI,fun _=>rfl⟩
end Go.Proofs.Wit
