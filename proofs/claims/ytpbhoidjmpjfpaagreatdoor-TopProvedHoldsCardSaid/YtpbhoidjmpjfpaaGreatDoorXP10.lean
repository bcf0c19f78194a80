/- Laws of walks, each under its own conditions. -/
import Derived.Test.YtpbhoidjmpjfpaaGreatDoorXP08
set_option maxRecDepth 100000
set_option maxHeartbeats 40000000
namespace Go.Proofs.Wit
open Go Go.RowKit
section
variable{gs:List (List NV)}{f g o:List NV}{n:NV}{k:Nat}
def Tr.ok:Tr->Prop
 |.leaf op i e g=>(1<=op/\op<=21)/\ji op=false/\kG op i e g=0
 |.un op i e g a=>(1<=op/\op<=21)/\ji op=true/\iM op=false/\kG op i e g=0/\a.ok
 |.bin op i e g a b=>(1<=op/\op<=21)/\iM op=true/\kG op i e g=0/\a.ok/\b.ok
theorem Tr.ok.wf:∀{t:Tr},t.ok->t.wf
 |.leaf _ _ _ _,h=>h.2.1
 |.un _ _ _ _ _,h=>⟨h.2.1,h.2.2.1,h.2.2.2.2.wf⟩
 |.bin _ _ _ _ _ _,h=>⟨h.2.1,h.2.2.2.1.wf,h.2.2.2.2.wf⟩
theorem Tr.ok.Am{t c:Tr}(h:t.ok)(hc:c∈kids t):c.ok:=by
 cases t with
 |leaf=>cases hc
 |un op i e g a=>rw[dn.1 hc];exact h.2.2.2.2
 |bin op i e g a b=>
  simp only[kids,eH,dO,eX]at hc;rcases hc with rfl|rfl;exact h.2.2.2.1;exact h.2.2.2.2
theorem Ry {a b:Tr}(h1:1<=n.op/\n.op<=21)(h2:kG n.op n.i n.e n.g=0)(ha:ji n.op=true->a.ok)(hb:iM n.op=true->b.ok):(BY n a b).ok:=by
 by_cases hY:iM n.op=true;rw[oq hY];exact⟨h1,hY,h2,ha (jL hY),hb hY⟩;have hY':iM n.op=false:=by simpa using hY
 by_cases hX:ji n.op=true;rw[qu hX hY'];exact⟨h1,hX,hY',h2,ha hX⟩;have hX':ji n.op=false:=by simpa using hX
 rw[mC hX'];exact⟨h1,hX',h2⟩
theorem fT.tree (hf:fT f):∀(i:Nat),i<f.length->(fe f i).ok:=by
 intro i
 induction i using Nat.strongRecOn with
 |_ i ih=>
  intro hi;have h:=hf i hi;rw[pQ hi (λhu=>by have:=h.x hu;omega) (λhu=>by have:=h.y hu;omega)];exact Ry h.op h.rJ (λhu=>ih _ (by have:=h.x hu;omega) (by have:=h.x hu;omega)) (λhu=>ih _ (by have:=h.y hu;omega) (by have:=h.y hu;omega))
theorem th{p:Tr->Prop}(hp:∀t,p t->∀c∈kids t,p c)(t:Tr):∀{ts:List Tr},p t->(∀u∈ts,p u)->∀u∈visit t ts,p u:=by
 induction t with
 |leaf op i e g=>
  intro ts ht h u hu;rw[visit]at hu;split at hu;exact h u hu;rcases ed.1 hu with hu|hu;exact h u hu;rw[dn.1 hu];exact ht
 |un op i e g a iha=>
  intro ts ht h u hu;rw[visit]at hu;split at hu;exact h u hu;rcases ed.1 hu with hu|hu;exact iha (hp _ ht a (by simp[kids])) h u hu;rw[dn.1 hu];exact ht
 |bin op i e g a b iha ihb=>
  intro ts ht h u hu;rw[visit]at hu;split at hu;exact h u hu;rcases ed.1 hu with hu|hu;exact ihb (hp _ ht b (by simp[kids])) (iha (hp _ ht a (by simp[kids])) h) u hu;rw[dn.1 hu];exact ht
theorem J2{t:Tr}(h:t.ok):∀u∈iu t,u.ok:=th (λ_ ht _ hc=>ht.Am hc) t h (λu hu=>by cases hu)
theorem zm{ts:List Tr}{c:Tr} (h:c∈ts.take k):ts.idxOf c<k:=by
 have h1:=bL.2 h;rw[<-rE (List.take_prefix k ts) h]at h1;rw[dN]at h1;omega
theorem y8{ts:List Tr}(hc:oN ts)(ho:∀u∈ts,u.ok):fT (fH ts):=λi hi=>by
 rw[ku]at hi;have hg:(fH ts)[i]'(by rw[ku];exact hi)=gA ts ts[i]:=by simp[fH]
 rw[hg];have h:=ho _ (dL hi);have hk:=hc i hi;cases ht:ts[i]with
 |leaf op j e g=>
  rw[ht]at h;have hY:iM op=false:=by
   cases e:iM op with
   |false=>rfl
   |true=>exact absurd ((jL e).symm.trans h.2.1) aI
  exact⟨h.1,λhu=>absurd ((h.2.1).symm.trans hu) aI,λ_=>rfl,λhu=>absurd ((hY).symm.trans hu) aI,λ_=>rfl,h.2.2⟩
 |un op j e g a=>
  rw[ht]at h hk;have:=zm (hk a (by simp[kids]));exact⟨h.1,λ_=>⟨by simp[gA],by simp only[gA];omega⟩,λhu=>absurd ((h.2.1).symm.trans hu) aI,λhu=>absurd ((h.2.2.1).symm.trans hu) aI,λ_=>rfl,h.2.2.2.1⟩
 |bin op j e g a b=>
  rw[ht]at h hk;have h1:=zm (hk a (by simp[kids]));have h2:=zm (hk b (by simp[kids]));exact⟨h.1,λ_=>⟨by simp[gA],by simp only[gA];omega⟩,λhu=>absurd ((jL h.2.1).symm.trans hu) aI,λ_=>⟨by simp[gA],by simp only[gA];omega⟩,λhu=>absurd ((h.2.1).symm.trans hu) aI,h.2.2.1⟩
theorem rM{t:Tr}(h:t.ok):fT (iA t):=y8 (kp t).sR (J2 h)
theorem pz(t:Tr):0<(iA t).length:=by
 rw[ly];obtain⟨l,hl⟩:=qJ t;rw[hl];simp
theorem zP{t:Tr}(h:t.ok)(hl:(iA t).length<=200):JH (iA t):=⟨pz t,hl,λi hi=>lT.2 (rM h i hi)⟩
def jQ(d:Nat)(n:NV):NV:={n with x:=if ji n.op=true then n.x+d else n.x,y:=if iM n.op=true then n.y+d else n.y}
def kf(o g:List NV):List NV:=o++g.map (jQ o.length)
theorem zK :(kf o g).length=o.length+g.length:=by simp[kf]
theorem J9{d:Nat} {a:Int}(h:Nl n a):Nl (jQ d n) (a+d):=by
 refine⟨h.op,λhu=>?_,λhu=>?_,λhu=>?_,λhu=>?_,h.rJ⟩;have hu':ji n.op=true:=hu;have:=h.x hu';simp only[jQ,if_pos hu'];omega;have hu':ji n.op=false:=hu;have:=h.x0 hu';simp only[jQ];rw[if_neg (by rw[hu'];simp)];exact this;have hu':iM n.op=true:=hu;have:=h.y hu';simp only[jQ,if_pos hu'];omega;have hu':iM n.op=false:=hu;have:=h.y0 hu';simp only[jQ];rw[if_neg (by rw[hu'];simp)];exact this
theorem HL (ho:fT o)(hg:fT g):fT (kf o g):=λi hi=>by
 by_cases h:i<o.length;have:(kf o g)[i]=o[i]:=by simp[kf,bK h]
 rw[this];exact ho i h;rw[zK]at hi;have hj:i - o.length<g.length:=aH;have:(kf o g)[i]=jQ o.length g[i - o.length]:=by simp[kf,bC (Nat.le_of_not_lt h)]
 rw[this];have:=J9 (d:=o.length) (hg _ hj);rw[show((i - o.length:Nat):Int)+o.length=i from aH]at this;exact this
theorem Gx  (ho:fT o)(hn:Nl n o.length):fT (o++[n]):=λi hi=>by
 by_cases h:i<o.length;rw[bK h];exact ho i h;have:i=o.length:=by simp at hi;omega
 subst this;simp;exact hn
theorem CJ.UO  (h:CJ (f++[n])):CJ f:=λi hi=>by
 have:=h i aN;rwa[bK hi]at this
theorem Im (hg:CJ g):trees (kf o g)=trees o++trees g:=by
 induction g using mB with
 |h0=>simp[kf,trees,M9]
 |h1 g m ih=>
  have h:=ih hg.UO;have hm:=hg g.length aL;simp only[List.getElem_concat_length]at hm;have hcat:kf o (g++[m])=kf o g++[jQ o.length m]:=by simp[kf]
  rw[hcat,lL,lL,h,<-dA]
  congr 2
  have hget:∀v:Int,0<=v->(trees o++trees g).getD (v+o.length).toNat tV=(trees g).getD v.toNat tV:=λv hv=>by
   rw[aY,aZ (by rw[gL];omega),gL,aY]
   congr 2;omega
  by_cases hY:iM m.op=true;have hX:=jL hY;have e1:(jQ o.length m).x=m.x+o.length:=by simp[jQ,hX]
  have e2:(jQ o.length m).y=m.y+o.length:=by simp[jQ,hY]
  rw[oq (n:=jQ o.length m) hY,oq hY,e1,e2,hget _ (hm.1 hX).1,hget _ (hm.2 hY).1];rfl;have hY':iM m.op=false:=by simpa using hY
  by_cases hX:ji m.op=true;have e1:(jQ o.length m).x=m.x+o.length:=by simp[jQ,hX]
  rw[qu (n:=jQ o.length m) hX hY',qu hX hY',e1,hget _ (hm.1 hX).1];rfl;have hX':ji m.op=false:=by simpa using hX
  rw[mC (n:=jQ o.length m) hX',mC hX'];rfl
def fw(f:List NV):List NV:=if gp f≠0 then []else iA (fF f)
def IK:List (List NV)->List NV->List NV
 |[],o=>o
 |g::gs,o=>IK gs (kf o (fw g))
theorem tE:∀{gs:List (List NV)} {o g:List NV},IK (gs++[g]) o=kf (IK gs o) (fw g)
 |[],_,_=>rfl
 |h::gs,o,g=>by rw[List.cons_append,IK,tE,IK]
def outs(gs:List (List NV)):List NV:=IK gs []
def lq(n:NV)(gs:List (List NV)):Nat->NV
 |0=>n
 |k+1=>if k=0 then {lq n gs k with x:=((outs (gs.take (k+1))).length:Int) - 1}else {lq n gs k with y:=((outs (gs.take (k+1))).length:Int) - 1}
def gh(n:NV)(gs:List (List NV)):List NV:=
 if ∃g∈gs,gp g≠0 then []else if mi (lq n gs gs.length) (outs gs).length≠0 then []
 else if 200<(iA (fe (outs gs++[lq n gs gs.length]) (outs gs).length)).length then []else iA (fe (outs gs++[lq n gs gs.length]) (outs gs).length)
theorem je :fF f=fe f (f.length - 1):=rfl
theorem lM :lN f ((f.length:Int) - 1)=fw f:=by
 unfold lN fw;by_cases h:gp f=0;have hp:=(fA.1 h).pos;rw[if_neg (by simp[h];omega),if_neg (by simp[h]),je]
 congr 2;omega
 rw[if_pos (.inl h),if_pos h]
theorem jm (h:gp f=0):fw f=iA (fF f):=if_neg (by simp[h])
theorem JH.top (h:JH f):(fF f).ok:=by
 rw[je];exact h.nodes.tree _ (by have:=h.pos;omega)
theorem wH (h:gp f=0):(fw f).length<=f.length:=by
 have hok:=fA.1 h;rw[jm h,je];have:=wM hok.ord (i:=f.length - 1) (by have:=hok.pos;omega);have:=hok.pos;omega
theorem ox (h:gp f=0):JH (fw f):=by
 have hok:=fA.1 h;have hl:=wH h;have:=hok.len;rw[jm h]at hl⊢;exact zP hok.top aH
theorem Oh:∀{gs:List (List NV)},(∀g∈gs,gp g=0)->fT (outs gs):=by
 intro gs
 induction gs using mB with
 |h0=>intro _ i hi;exact absurd hi (ew _)
 |h1 gs g ih=>
  intro h;unfold outs;rw[tE];exact HL (ih (λg' hg'=>h g' (cK _ hg'))) (ox (h g aL)).nodes
theorem Kw (h:∀g∈gs,gp g=0):(outs gs).length<=200*gs.length:=by
 induction gs using mB with
 |h0=>exact aG
 |h1 gs g ih=>
  unfold outs;rw[tE,zK];have h1:=ih (λg' hg'=>h g' (cK _ hg'));have h2:=(ox (h g aL)).len;unfold outs at h1;simp;omega
theorem IJ  (hk:k<gs.length):outs (gs.take (k+1))=kf (outs (gs.take k)) (fw gs[k]):=by
 rw[aU hk];exact tE
structure FV where
  a:ae
  c:Nat
  f:List NV
def FV.v(x:FV):aC:=.slice x.a x.f.length x.c
def AG(w:aB)(a:ae)(gs:List FV):Prop:=Sl w a (gs.map FV.v)
theorem AG.fD{w0 w:aB}{a:ae}{gs:List FV}(h:AG w0 a gs){S:aq}(e:Ex S w0 w)(hS:∀b o,a=some ⟨b,o,none⟩->b∉S:=by simp):AG w a gs:=Sl.ex h e hS
theorem AG.at{w:aB}{a:ae}{gs:List FV}(h:AG w a gs)(k:Nat)(hk:k<gs.length):w.cell? (tS a k)=some gs[k].v:=by
 rw[Sl.cell h k (by simpa using hk)];simp[hk]
theorem Oo   (h:k≠0):lq n gs (k+1)={lq n gs k with y:=((outs (gs.take (k+1))).length:Int) - 1}:=by rw[lq,if_neg h]
theorem zJ{c:List NV}{m:Nat}(hm:m<c.length):kf o (c.take (m+1))=kf o (c.take m)++[jQ o.length c[m]]:=by
 unfold kf;rw[aU hm,ec,dA];rfl
theorem zI{c:List NV}:kf o (c.take 0)=o:=by simp[kf]
def mL(e:ax)(w w':aB)(v:aC)(ns:List NV):Prop:=fQ e w w' v ns/\(ns=[]->v=.slice none 0 0)
theorem mL.vj{t:ax}{w w':aB}:mL t w w' (.slice none 0 0) []:=⟨fQ.vj,λ_=>rfl⟩
end
end Go.Proofs.Wit
