/- Laws of walks, for any program, under the conditions that each theorem states. -/
import Derived.Test.YtaamcaiglooemaaGreatDoorXF08
set_option maxRecDepth 100000
set_option maxHeartbeats 4000000
namespace Go.Proofs.Wit
open Go Go.RowKit
def Tr.ok:Tr→Prop
 |.leaf op i e g=>(1≤op∧op≤21)∧cS op=false∧eP op i e g=0
 |.un op i e g a=>(1≤op∧op≤21)∧cS op=true∧cF op=false∧eP op i e g=0∧a.ok
 |.bin op i e g a b=>(1≤op∧op≤21)∧cF op=true∧eP op i e g=0∧a.ok∧b.ok
theorem Tr.ok.wf:∀{t:Tr},t.ok→t.wf
 |.leaf _ _ _ _,h=>h.2.1
 |.un _ _ _ _ _,h=>⟨h.2.1,h.2.2.1,h.2.2.2.2.wf⟩
 |.bin _ _ _ _ _ _,h=>⟨h.2.1,h.2.2.2.1.wf,h.2.2.2.2.wf⟩
theorem Tr.ok.vJ {t c:Tr} (h:t.ok) (hc:c∈kids t):c.ok:=by
 cases t with
 |leaf=>cases hc
 |un op i e g a=>rw [List.mem_singleton.1 hc];exact h.2.2.2.2
 |bin op i e g a b=>
  simp only [kids,List.mem_cons,List.not_mem_nil,or_false] at hc;rcases hc with rfl|rfl;exact h.2.2.2.1;exact h.2.2.2.2
theorem Gz {n:NV} {a b:Tr} (h1:1≤n.op∧n.op≤21) (h2:eP n.op n.i n.e n.g=0) (ha:cS n.op=true→a.ok) (hb:cF n.op=true→b.ok):(vu n a b).ok:=by
 by_cases hY:cF n.op=true;rw [iS hY];exact ⟨h1,hY,h2,ha (dI hY),hb hY⟩;have hY':cF n.op=false:=by simpa using hY
 by_cases hX:cS n.op=true;rw [ko hX hY'];exact ⟨h1,hX,hY',h2,ha hX⟩;have hX':cS n.op=false:=by simpa using hX
 rw [gq hX'];exact ⟨h1,hX',h2⟩
theorem aK.tree {f:List NV} (hf:aK f):∀(i:Nat),i<f.length→(aa f i).ok:=by
 intro i
 induction i using Nat.strongRecOn with
 |_ i ih=>
  intro hi;have h:=hf i hi;rw [l8 hi (fun hu=>by have:=h.x hu;omega) (fun hu=>by have:=h.y hu;omega)];exact Gz h.op h.iD (fun hu=>ih _ (by have:=h.x hu;omega) (by have:=h.x hu;omega)) (fun hu=>ih _ (by have:=h.y hu;omega) (by have:=h.y hu;omega))
theorem sN {p:Tr→Prop} (hp:∀t,p t→∀c∈kids t,p c) (t:Tr):∀{ts:List Tr},p t→(∀u∈ts,p u)→∀u∈visit t ts,p u:=by
 induction t with
 |leaf op i e g=>
  intro ts ht h u hu;rw [visit] at hu;split at hu;exact h u hu;rcases List.mem_append.1 hu with hu|hu;exact h u hu;rw [List.mem_singleton.1 hu];exact ht
 |un op i e g a iha=>
  intro ts ht h u hu;rw [visit] at hu;split at hu;exact h u hu;rcases List.mem_append.1 hu with hu|hu;exact iha (hp _ ht a (by simp [kids])) h u hu;rw [List.mem_singleton.1 hu];exact ht
 |bin op i e g a b iha ihb=>
  intro ts ht h u hu;rw [visit] at hu;split at hu;exact h u hu;rcases List.mem_append.1 hu with hu|hu;exact ihb (hp _ ht b (by simp [kids])) (iha (hp _ ht a (by simp [kids])) h) u hu;rw [List.mem_singleton.1 hu];exact ht
theorem Ao {t:Tr} (h:t.ok):∀u∈eN t,u.ok:=sN (fun _ ht _ hc=>ht.vJ hc) t h (fun u hu=>by cases hu)
theorem rB {ts:List Tr} {c:Tr} {k:Nat} (h:c∈ts.take k):ts.idxOf c<k:=by
 have h1:=List.idxOf_lt_length_iff.2 h;rw [←ke (List.take_prefix k ts) h] at h1;rw [List.length_take] at h1;omega
theorem wN {ts:List Tr} (hc:mI ts) (ho:∀u∈ts,u.ok):aK (ao ts):=fun i hi=>by
 rw [gL] at hi;have hg:(ao ts)[i]'(by rw [gL];exact hi)=aG ts ts[i]:=by simp [ao]
 rw [hg];have h:=ho _ (List.getElem_mem hi);have hk:=hc i hi;cases ht:ts[i] with
 |leaf op j e g=>
  rw [ht] at h;have hY:cF op=false:=by
   cases e:cF op with
   |false=>rfl
   |true=>exact absurd ((dI e).symm.trans h.2.1) (by decide)
  exact ⟨h.1,fun hu=>absurd ((h.2.1).symm.trans hu) (by decide),fun _=>rfl,fun hu=>absurd ((hY).symm.trans hu) (by decide),fun _=>rfl,h.2.2⟩
 |un op j e g a=>
  rw [ht] at h hk;have:=rB (hk a (by simp [kids]));exact ⟨h.1,fun _=>⟨by simp [aG],by simp only [aG];omega⟩,fun hu=>absurd ((h.2.1).symm.trans hu) (by decide),fun hu=>absurd ((h.2.2.1).symm.trans hu) (by decide),fun _=>rfl,h.2.2.2.1⟩
 |bin op j e g a b=>
  rw [ht] at h hk;have h1:=rB (hk a (by simp [kids]));have h2:=rB (hk b (by simp [kids]));exact ⟨h.1,fun _=>⟨by simp [aG],by simp only [aG];omega⟩,fun hu=>absurd ((dI h.2.1).symm.trans hu) (by decide),fun _=>⟨by simp [aG],by simp only [aG];omega⟩,fun hu=>absurd ((h.2.1).symm.trans hu) (by decide),h.2.2.1⟩
theorem nN {t:Tr} (h:t.ok):aK (cg t):=wN (iP t).lL (Ao h)
theorem jP (t:Tr):0<(cg t).length:=by
 rw [fW];obtain ⟨l,hl⟩:=o9 t;rw [hl];simp
theorem r9 {t:Tr} (h:t.ok) (hl:(cg t).length≤200):z8 (cg t):=⟨jP t,hl,fun i hi=>eY.2 (nN h i hi)⟩
def cU (d:Nat) (n:NV):NV:={n with x:=if cS n.op=true then n.x+d else n.x,y:=if cF n.op=true then n.y+d else n.y}
def aZ (o g:List NV):List NV:=o++g.map (cU o.length)
theorem mr {o g:List NV}:(aZ o g).length=o.length+g.length:=by simp [aZ]
theorem Av {d:Nat} {n:NV} {a:Int} (h:CL n a):CL (cU d n) (a+d):=by
 refine ⟨h.op,fun hu=>?_,fun hu=>?_,fun hu=>?_,fun hu=>?_,h.iD⟩;have hu':cS n.op=true:=hu;have:=h.x hu';simp only [cU,if_pos hu'];omega;have hu':cS n.op=false:=hu;have:=h.x0 hu';simp only [cU];rw [if_neg (by rw [hu'];simp)];exact this;have hu':cF n.op=true:=hu;have:=h.y hu';simp only [cU,if_pos hu'];omega;have hu':cF n.op=false:=hu;have:=h.y0 hu';simp only [cU];rw [if_neg (by rw [hu'];simp)];exact this
theorem yL {o g:List NV} (ho:aK o) (hg:aK g):aK (aZ o g):=fun i hi=>by
 by_cases h:i<o.length;have:(aZ o g)[i]=o[i]:=by simp [aZ,List.getElem_append_left h]
 rw [this];exact ho i h;rw [mr] at hi;have hj:i - o.length<g.length:=by omega
 have:(aZ o g)[i]=cU o.length g[i - o.length]:=by simp [aZ,List.getElem_append_right (Nat.le_of_not_lt h)]
 rw [this];have:=Av (d:=o.length) (hg _ hj);rw [show ((i - o.length:Nat):Int)+o.length=i from by omega] at this;exact this
theorem xL {o:List NV} {n:NV} (ho:aK o) (hn:CL n o.length):aK (o++[n]):=fun i hi=>by
 by_cases h:i<o.length;rw [List.getElem_append_left h];exact ho i h;have:i=o.length:=by simp at hi;omega
 subst this;simp;exact hn
theorem uV.Jj {f:List NV} {n:NV} (h:uV (f++[n])):uV f:=fun i hi=>by
 have:=h i (by simp;omega);rwa [List.getElem_append_left hi] at this
theorem y6 {o g:List NV} (hg:uV g):trees (aZ o g)=trees o++trees g:=by
 induction g using gV with
 |h0=>simp [aZ,trees,CC]
 |h1 g m ih=>
  have h:=ih hg.Jj;have hm:=hg g.length (by simp);simp only [List.getElem_concat_length] at hm;have hcat:aZ o (g++[m])=aZ o g++[cU o.length m]:=by simp [aZ]
  rw [hcat,fS,fS,h,←List.append_assoc]
  congr 2
  have hget:∀v:Int,0≤v→(trees o++trees g).getD (v+o.length).toNat lN=(trees g).getD v.toNat lN:=fun v hv=>by
   rw [List.getD_eq_getElem?_getD,List.getElem?_append_right (by rw [dc];omega),dc,List.getD_eq_getElem?_getD]
   congr 2;omega
  by_cases hY:cF m.op=true;have hX:=dI hY;have e1:(cU o.length m).x=m.x+o.length:=by simp [cU,hX]
  have e2:(cU o.length m).y=m.y+o.length:=by simp [cU,hY]
  rw [iS (n:=cU o.length m) hY,iS hY,e1,e2,hget _ (hm.1 hX).1,hget _ (hm.2 hY).1];rfl;have hY':cF m.op=false:=by simpa using hY
  by_cases hX:cS m.op=true;have e1:(cU o.length m).x=m.x+o.length:=by simp [cU,hX]
  rw [ko (n:=cU o.length m) hX hY',ko hX hY',e1,hget _ (hm.1 hX).1];rfl;have hX':cS m.op=false:=by simpa using hX
  rw [gq (n:=cU o.length m) hX',gq hX'];rfl
def ah (f:List NV):List NV:=if aN f≠0 then [] else cg (aS f)
def zm:List (List NV)→List NV→List NV
 |[],o=>o
 |g::gs,o=>zm gs (aZ o (ah g))
theorem mR:∀{gs:List (List NV)} {o g:List NV},zm (gs++[g]) o=aZ (zm gs o) (ah g)
 |[],_,_=>rfl
 |h::gs,o,g=>by rw [List.cons_append,zm,mR,zm]
def outs (gs:List (List NV)):List NV:=zm gs []
def fw (n:NV) (gs:List (List NV)):Nat→NV
 |0=>n
 |k+1=>if k=0 then {fw n gs k with x:=((outs (gs.take (k+1))).length:Int) - 1} else {fw n gs k with y:=((outs (gs.take (k+1))).length:Int) - 1}
def aU (n:NV) (gs:List (List NV)):List NV:=
 if ∃g∈gs,aN g≠0 then [] else if eg (fw n gs gs.length) (outs gs).length≠0 then []
 else if 200<(cg (aa (outs gs++[fw n gs gs.length]) (outs gs).length)).length then [] else cg (aa (outs gs++[fw n gs gs.length]) (outs gs).length)
theorem de {f:List NV}:aS f=aa f (f.length - 1):=rfl
theorem ec {f:List NV}:bZ f ((f.length:Int) - 1)=ah f:=by
 unfold bZ ah;by_cases h:aN f=0;have hp:=(aB.1 h).pos;rw [if_neg (by simp [h];omega),if_neg (by simp [h]),de]
 congr 2;omega
 rw [if_pos (.inl h),if_pos h]
theorem dG {f:List NV} (h:aN f=0):ah f=cg (aS f):=if_neg (by simp [h])
theorem z8.top {f:List NV} (h:z8 f):(aS f).ok:=by
 rw [de];exact h.nodes.tree _ (by have:=h.pos;omega)
theorem pC {f:List NV} (h:aN f=0):(ah f).length≤f.length:=by
 have hok:=aB.1 h;rw [dG h,de];have:=mW hok.ord (i:=f.length - 1) (by have:=hok.pos;omega);have:=hok.pos;omega
theorem gz {f:List NV} (h:aN f=0):z8 (ah f):=by
 have hok:=aB.1 h;have hl:=pC h;have:=hok.len;rw [dG h] at hl⊢;exact r9 hok.top (by omega)
theorem DC:∀{gs:List (List NV)},(∀g∈gs,aN g=0)→aK (outs gs):=by
 intro gs
 induction gs using gV with
 |h0=>intro _ i hi;exact absurd hi (Nat.not_lt_zero _)
 |h1 gs g ih=>
  intro h;unfold outs;rw [mR];exact yL (ih (fun g' hg'=>h g' (List.mem_append_left _ hg'))) (gz (h g (by simp))).nodes
theorem AN {gs:List (List NV)} (h:∀g∈gs,aN g=0):(outs gs).length≤200*gs.length:=by
 induction gs using gV with
 |h0=>exact Nat.zero_le _
 |h1 gs g ih=>
  unfold outs;rw [mR,mr];have h1:=ih (fun g' hg'=>h g' (List.mem_append_left _ hg'));have h2:=(gz (h g (by simp))).len;unfold outs at h1;simp;omega
theorem zl {gs:List (List NV)} {k:Nat} (hk:k<gs.length):outs (gs.take (k+1))=aZ (outs (gs.take k)) (ah gs[k]):=by
 rw [List.take_succ_eq_append_getElem hk];exact mR
structure FV where
  a:Option Addr
  c:Nat
  f:List NV
def FV.v (x:FV):Value:=.slice x.a x.f.length x.c
def sI (w:World) (a:Option Addr) (gs:List FV):Prop:=Sl w a (gs.map FV.v)
theorem sI.au {w0 w:World} {a:Option Addr} {gs:List FV} (h:sI w0 a gs) {S:List Nat} (e:Ex S w0 w) (hS:∀b o,a=some ⟨b,o,none⟩→b∉S:=by simp):sI w a gs:=Sl.ex h e hS
theorem sI.at {w:World} {a:Option Addr} {gs:List FV} (h:sI w a gs) (k:Nat) (hk:k<gs.length):w.cell? (ny a k)=some gs[k].v:=by
 rw [Sl.cell h k (by simpa using hk)];simp [List.getD_eq_getElem?_getD,hk]
theorem DH {n:NV} {gs:List (List NV)} {k:Nat} (h:k≠0):fw n gs (k+1)={fw n gs k with y:=((outs (gs.take (k+1))).length:Int) - 1}:=by rw [fw,if_neg h]
theorem k0 {o c:List NV} {m:Nat} (hm:m<c.length):aZ o (c.take (m+1))=aZ o (c.take m)++[cU o.length c[m]]:=by
 unfold aZ;rw [List.take_succ_eq_append_getElem hm,List.map_append,List.append_assoc];rfl
theorem kZ {o c:List NV}:aZ o (c.take 0)=o:=by simp [aZ]
def gA (e:TypeId) (w w':World) (v:Value) (ns:List NV):Prop:=av e w w' v ns∧(ns=[]→v=.slice none 0 0)
theorem gA.jX {t:TypeId} {w w':World}:gA t w w' (.slice none 0 0) []:=⟨av.jX,fun _=>rfl⟩
end Go.Proofs.Wit
