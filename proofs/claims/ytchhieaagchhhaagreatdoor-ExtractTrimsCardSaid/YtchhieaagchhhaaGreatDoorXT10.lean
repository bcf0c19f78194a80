/- Laws of walks, for any program, under the conditions that each theorem states. -/
import Derived.Test.YtchhieaagchhhaaGreatDoorXT08
set_option maxRecDepth 100000
set_option maxHeartbeats 4000000
namespace Go.Proofs.Wit
open Go Go.RowKit
def Tr.ok:Tr→Prop
 |.leaf op i e g=>(1≤op∧op≤21)∧dh op=false∧eR op i e g=0
 |.un op i e g a=>(1≤op∧op≤21)∧dh op=true∧cD op=false∧eR op i e g=0∧a.ok
 |.bin op i e g a b=>(1≤op∧op≤21)∧cD op=true∧eR op i e g=0∧a.ok∧b.ok
theorem Tr.ok.wf:∀{t:Tr},t.ok→t.wf
 |.leaf _ _ _ _,h=>h.2.1
 |.un _ _ _ _ _,h=>⟨h.2.1,h.2.2.1,h.2.2.2.2.wf⟩
 |.bin _ _ _ _ _ _,h=>⟨h.2.1,h.2.2.2.1.wf,h.2.2.2.2.wf⟩
theorem Tr.ok.vz {t c:Tr} (h:t.ok) (hc:c∈kids t):c.ok:=by
 cases t with
 |leaf=>cases hc
 |un op i e g a=>rw [List.mem_singleton.1 hc];exact h.2.2.2.2
 |bin op i e g a b=>
  simp only [kids,List.mem_cons,List.not_mem_nil,or_false] at hc;rcases hc with rfl|rfl;exact h.2.2.2.1;exact h.2.2.2.2
theorem Gn {n:NV} {a b:Tr} (h1:1≤n.op∧n.op≤21) (h2:eR n.op n.i n.e n.g=0) (ha:dh n.op=true→a.ok) (hb:cD n.op=true→b.ok):(vm n a b).ok:=by
 by_cases hY:cD n.op=true;rw [iY hY];exact ⟨h1,hY,h2,ha (dZ hY),hb hY⟩;have hY':cD n.op=false:=by simpa using hY
 by_cases hX:dh n.op=true;rw [kv hX hY'];exact ⟨h1,hX,hY',h2,ha hX⟩;have hX':dh n.op=false:=by simpa using hX
 rw [gk hX'];exact ⟨h1,hX',h2⟩
theorem aP.tree {f:List NV} (hf:aP f):∀(i:Nat),i<f.length→(aa f i).ok:=by
 intro i
 induction i using Nat.strongRecOn with
 |_ i ih=>
  intro hi;have h:=hf i hi;rw [mi hi (fun hu=>by have:=h.x hu;omega) (fun hu=>by have:=h.y hu;omega)];exact Gn h.op h.fV (fun hu=>ih _ (by have:=h.x hu;omega) (by have:=h.x hu;omega)) (fun hu=>ih _ (by have:=h.y hu;omega) (by have:=h.y hu;omega))
theorem sG {p:Tr→Prop} (hp:∀t,p t→∀c∈kids t,p c) (t:Tr):∀{ts:List Tr},p t→(∀u∈ts,p u)→∀u∈visit t ts,p u:=by
 induction t with
 |leaf op i e g=>
  intro ts ht h u hu;rw [visit] at hu;split at hu;exact h u hu;rcases List.mem_append.1 hu with hu|hu;exact h u hu;rw [List.mem_singleton.1 hu];exact ht
 |un op i e g a iha=>
  intro ts ht h u hu;rw [visit] at hu;split at hu;exact h u hu;rcases List.mem_append.1 hu with hu|hu;exact iha (hp _ ht a (by simp [kids])) h u hu;rw [List.mem_singleton.1 hu];exact ht
 |bin op i e g a b iha ihb=>
  intro ts ht h u hu;rw [visit] at hu;split at hu;exact h u hu;rcases List.mem_append.1 hu with hu|hu;exact ihb (hp _ ht b (by simp [kids])) (iha (hp _ ht a (by simp [kids])) h) u hu;rw [List.mem_singleton.1 hu];exact ht
theorem Ai {t:Tr} (h:t.ok):∀u∈eM t,u.ok:=sG (fun _ ht _ hc=>ht.vz hc) t h (fun u hu=>by cases hu)
theorem ru {ts:List Tr} {c:Tr} {k:Nat} (h:c∈ts.take k):ts.idxOf c<k:=by
 have h1:=List.idxOf_lt_length_iff.2 h;rw [←km (List.take_prefix k ts) h] at h1;rw [List.length_take] at h1;omega
theorem wK {ts:List Tr} (hc:mM ts) (ho:∀u∈ts,u.ok):aP (ar ts):=fun i hi=>by
 rw [gN] at hi;have hg:(ar ts)[i]'(by rw [gN];exact hi)=aH ts ts[i]:=by simp [ar]
 rw [hg];have h:=ho _ (List.getElem_mem hi);have hk:=hc i hi;cases ht:ts[i] with
 |leaf op j e g=>
  rw [ht] at h;have hY:cD op=false:=by
   cases e:cD op with
   |false=>rfl
   |true=>exact absurd ((dZ e).symm.trans h.2.1) (by decide)
  exact ⟨h.1,fun hu=>absurd ((h.2.1).symm.trans hu) (by decide),fun _=>rfl,fun hu=>absurd ((hY).symm.trans hu) (by decide),fun _=>rfl,h.2.2⟩
 |un op j e g a=>
  rw [ht] at h hk;have:=ru (hk a (by simp [kids]));exact ⟨h.1,fun _=>⟨by simp [aH],by simp only [aH];omega⟩,fun hu=>absurd ((h.2.1).symm.trans hu) (by decide),fun hu=>absurd ((h.2.2.1).symm.trans hu) (by decide),fun _=>rfl,h.2.2.2.1⟩
 |bin op j e g a b=>
  rw [ht] at h hk;have h1:=ru (hk a (by simp [kids]));have h2:=ru (hk b (by simp [kids]));exact ⟨h.1,fun _=>⟨by simp [aH],by simp only [aH];omega⟩,fun hu=>absurd ((dZ h.2.1).symm.trans hu) (by decide),fun _=>⟨by simp [aH],by simp only [aH];omega⟩,fun hu=>absurd ((h.2.1).symm.trans hu) (by decide),h.2.2.1⟩
theorem nN {t:Tr} (h:t.ok):aP (cm t):=wK (iW t).lR (Ai h)
theorem jV (t:Tr):0<(cm t).length:=by
 rw [fR];obtain ⟨l,hl⟩:=oY t;rw [hl];simp
theorem rR {t:Tr} (h:t.ok) (hl:(cm t).length≤200):zT (cm t):=⟨jV t,hl,fun i hi=>fg.2 (nN h i hi)⟩
def cP (d:Nat) (n:NV):NV:={n with x:=if dh n.op=true then n.x+d else n.x,y:=if cD n.op=true then n.y+d else n.y}
def bh (o g:List NV):List NV:=o++g.map (cP o.length)
theorem mH {o g:List NV}:(bh o g).length=o.length+g.length:=by simp [bh]
theorem Ap {d:Nat} {n:NV} {a:Int} (h:CH n a):CH (cP d n) (a+d):=by
 refine ⟨h.op,fun hu=>?_,fun hu=>?_,fun hu=>?_,fun hu=>?_,h.fV⟩;have hu':dh n.op=true:=hu;have:=h.x hu';simp only [cP,if_pos hu'];omega;have hu':dh n.op=false:=hu;have:=h.x0 hu';simp only [cP];rw [if_neg (by rw [hu'];simp)];exact this;have hu':cD n.op=true:=hu;have:=h.y hu';simp only [cP,if_pos hu'];omega;have hu':cD n.op=false:=hu;have:=h.y0 hu';simp only [cP];rw [if_neg (by rw [hu'];simp)];exact this
theorem yB {o g:List NV} (ho:aP o) (hg:aP g):aP (bh o g):=fun i hi=>by
 by_cases h:i<o.length;have:(bh o g)[i]=o[i]:=by simp [bh,List.getElem_append_left h]
 rw [this];exact ho i h;rw [mH] at hi;have hj:i - o.length<g.length:=by omega
 have:(bh o g)[i]=cP o.length g[i - o.length]:=by simp [bh,List.getElem_append_right (Nat.le_of_not_lt h)]
 rw [this];have:=Ap (d:=o.length) (hg _ hj);rw [show ((i - o.length:Nat):Int)+o.length=i from by omega] at this;exact this
theorem xD {o:List NV} {n:NV} (ho:aP o) (hn:CH n o.length):aP (o++[n]):=fun i hi=>by
 by_cases h:i<o.length;rw [List.getElem_append_left h];exact ho i h;have:i=o.length:=by simp at hi;omega
 subst this;simp;exact hn
theorem uO.I7 {f:List NV} {n:NV} (h:uO (f++[n])):uO f:=fun i hi=>by
 have:=h i (by simp;omega);rwa [List.getElem_append_left hi] at this
theorem yQ {o g:List NV} (hg:uO g):trees (bh o g)=trees o++trees g:=by
 induction g using gV with
 |h0=>simp [bh,trees,Cy]
 |h1 g m ih=>
  have h:=ih hg.I7;have hm:=hg g.length (by simp);simp only [List.getElem_concat_length] at hm;have hcat:bh o (g++[m])=bh o g++[cP o.length m]:=by simp [bh]
  rw [hcat,fP,fP,h,←List.append_assoc]
  congr 2
  have hget:∀v:Int,0≤v→(trees o++trees g).getD (v+o.length).toNat lS=(trees g).getD v.toNat lS:=fun v hv=>by
   rw [List.getD_eq_getElem?_getD,List.getElem?_append_right (by rw [db];omega),db,List.getD_eq_getElem?_getD]
   congr 2;omega
  by_cases hY:cD m.op=true;have hX:=dZ hY;have e1:(cP o.length m).x=m.x+o.length:=by simp [cP,hX]
  have e2:(cP o.length m).y=m.y+o.length:=by simp [cP,hY]
  rw [iY (n:=cP o.length m) hY,iY hY,e1,e2,hget _ (hm.1 hX).1,hget _ (hm.2 hY).1];rfl;have hY':cD m.op=false:=by simpa using hY
  by_cases hX:dh m.op=true;have e1:(cP o.length m).x=m.x+o.length:=by simp [cP,hX]
  rw [kv (n:=cP o.length m) hX hY',kv hX hY',e1,hget _ (hm.1 hX).1];rfl;have hX':dh m.op=false:=by simpa using hX
  rw [gk (n:=cP o.length m) hX',gk hX'];rfl
def ah (f:List NV):List NV:=if aN f≠0 then [] else cm (bu f)
def zc:List (List NV)→List NV→List NV
 |[],o=>o
 |g::gs,o=>zc gs (bh o (ah g))
theorem mT:∀{gs:List (List NV)} {o g:List NV},zc (gs++[g]) o=bh (zc gs o) (ah g)
 |[],_,_=>rfl
 |h::gs,o,g=>by rw [List.cons_append,zc,mT,zc]
def outs (gs:List (List NV)):List NV:=zc gs []
def fz (n:NV) (gs:List (List NV)):Nat→NV
 |0=>n
 |k+1=>if k=0 then {fz n gs k with x:=((outs (gs.take (k+1))).length:Int) - 1} else {fz n gs k with y:=((outs (gs.take (k+1))).length:Int) - 1}
def aU (n:NV) (gs:List (List NV)):List NV:=
 if ∃g∈gs,aN g≠0 then [] else if eA (fz n gs gs.length) (outs gs).length≠0 then []
 else if 200<(cm (aa (outs gs++[fz n gs gs.length]) (outs gs).length)).length then [] else cm (aa (outs gs++[fz n gs gs.length]) (outs gs).length)
theorem dE {f:List NV}:bu f=aa f (f.length - 1):=rfl
theorem eN {f:List NV}:eH f ((f.length:Int) - 1)=ah f:=by
 unfold eH ah;by_cases h:aN f=0;have hp:=(aB.1 h).pos;rw [if_neg (by simp [h];omega),if_neg (by simp [h]),dE]
 congr 2;omega
 rw [if_pos (.inl h),if_pos h]
theorem dG {f:List NV} (h:aN f=0):ah f=cm (bu f):=if_neg (by simp [h])
theorem zT.top {f:List NV} (h:zT f):(bu f).ok:=by
 rw [dE];exact h.nodes.tree _ (by have:=h.pos;omega)
theorem pv {f:List NV} (h:aN f=0):(ah f).length≤f.length:=by
 have hok:=aB.1 h;rw [dG h,dE];have:=pA hok.ord (i:=f.length - 1) (by have:=hok.pos;omega);have:=hok.pos;omega
theorem gu {f:List NV} (h:aN f=0):zT (ah f):=by
 have hok:=aB.1 h;have hl:=pv h;have:=hok.len;rw [dG h] at hl⊢;exact rR hok.top (by omega)
theorem Dz:∀{gs:List (List NV)},(∀g∈gs,aN g=0)→aP (outs gs):=by
 intro gs
 induction gs using gV with
 |h0=>intro _ i hi;exact absurd hi (Nat.not_lt_zero _)
 |h1 gs g ih=>
  intro h;unfold outs;rw [mT];exact yB (ih (fun g' hg'=>h g' (List.mem_append_left _ hg'))) (gu (h g (by simp))).nodes
theorem AN {gs:List (List NV)} (h:∀g∈gs,aN g=0):(outs gs).length≤200*gs.length:=by
 induction gs using gV with
 |h0=>exact Nat.zero_le _
 |h1 gs g ih=>
  unfold outs;rw [mT,mH];have h1:=ih (fun g' hg'=>h g' (List.mem_append_left _ hg'));have h2:=(gu (h g (by simp))).len;unfold outs at h1;simp;omega
theorem zb {gs:List (List NV)} {k:Nat} (hk:k<gs.length):outs (gs.take (k+1))=bh (outs (gs.take k)) (ah gs[k]):=by
 rw [List.take_succ_eq_append_getElem hk];exact mT
structure FV where
  a:Option Addr
  c:Nat
  f:List NV
def FV.v (x:FV):Value:=.slice x.a x.f.length x.c
def sC (w:World) (a:Option Addr) (gs:List FV):Prop:=Sl w a (gs.map FV.v)
theorem sC.aq {w0 w:World} {a:Option Addr} {gs:List FV} (h:sC w0 a gs) {S:List Nat} (e:Ex S w0 w) (hS:∀b o,a=some ⟨b,o,none⟩→b∉S:=by simp):sC w a gs:=Sl.ex h e hS
theorem sC.at {w:World} {a:Option Addr} {gs:List FV} (h:sC w a gs) (k:Nat) (hk:k<gs.length):w.cell? (nq a k)=some gs[k].v:=by
 rw [Sl.cell h k (by simpa using hk)];simp [List.getD_eq_getElem?_getD,hk]
theorem DG {n:NV} {gs:List (List NV)} {k:Nat} (h:k≠0):fz n gs (k+1)={fz n gs k with y:=((outs (gs.take (k+1))).length:Int) - 1}:=by rw [fz,if_neg h]
theorem kY {o c:List NV} {m:Nat} (hm:m<c.length):bh o (c.take (m+1))=bh o (c.take m)++[cP o.length c[m]]:=by
 unfold bh;rw [List.take_succ_eq_append_getElem hm,List.map_append,List.append_assoc];rfl
theorem kX {o c:List NV}:bh o (c.take 0)=o:=by simp [bh]
def gx (e:TypeId) (w w':World) (v:Value) (ns:List NV):Prop:=ax e w w' v ns∧(ns=[]→v=.slice none 0 0)
theorem gx.kf {t:TypeId} {w w':World}:gx t w w' (.slice none 0 0) []:=⟨ax.kf,fun _=>rfl⟩
end Go.Proofs.Wit
