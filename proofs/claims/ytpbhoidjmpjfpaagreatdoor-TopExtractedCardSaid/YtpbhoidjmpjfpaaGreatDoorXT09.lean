/- Laws of walks, each under its own conditions. -/
import Derived.Test.YtpbhoidjmpjfpaaGreatDoorXT07
set_option maxRecDepth 100000
set_option maxHeartbeats 40000000
namespace Go.Proofs.Wit
open Go Go.RowKit
section
variable{gs:List (List NV)}{f g o:List NV}{n:NV}{k:Nat}
def Tr.ok:Tr->Prop
 |.leaf op i e g=>(1<=op/\op<=21)/\iX op=false/\jH op i e g=0
 |.un op i e g a=>(1<=op/\op<=21)/\iX op=true/\ij op=false/\jH op i e g=0/\a.ok
 |.bin op i e g a b=>(1<=op/\op<=21)/\ij op=true/\jH op i e g=0/\a.ok/\b.ok
theorem Tr.ok.wf:∀{t:Tr},t.ok->t.wf
 |.leaf _ _ _ _,h=>h.2.1
 |.un _ _ _ _ _,h=>⟨h.2.1,h.2.2.1,h.2.2.2.2.wf⟩
 |.bin _ _ _ _ _ _,h=>⟨h.2.1,h.2.2.2.1.wf,h.2.2.2.2.wf⟩
theorem Tr.ok.wE{t c:Tr}(h:t.ok)(hc:c∈kids t):c.ok:=by
 cases t with
 |leaf=>cases hc
 |un op i e g a=>rw[cS.1 hc];exact h.2.2.2.2
 |bin op i e g a b=>
  simp only[kids,dS,dv,ep]at hc;rcases hc with rfl|rfl;exact h.2.2.2.1;exact h.2.2.2.2
theorem Ks {a b:Tr}(h1:1<=n.op/\n.op<=21)(h2:jH n.op n.i n.e n.g=0)(ha:iX n.op=true->a.ok)(hb:ij n.op=true->b.ok):(zj n a b).ok:=by
 by_cases hY:ij n.op=true;rw[mj hY];exact⟨h1,hY,h2,ha (jz hY),hb hY⟩;have hY':ij n.op=false:=by simpa using hY
 by_cases hX:iX n.op=true;rw[nY hX hY'];exact⟨h1,hX,hY',h2,ha hX⟩;have hX':iX n.op=false:=by simpa using hX
 rw[lj hX'];exact⟨h1,hX',h2⟩
theorem fC.tree (hf:fC f):∀(i:Nat),i<f.length->(eA f i).ok:=by
 intro i
 induction i using Nat.strongRecOn with
 |_ i ih=>
  intro hi;have h:=hf i hi;rw[pD hi (λhu=>by have:=h.x hu;omega) (λhu=>by have:=h.y hu;omega)];exact Ks h.op h.pq (λhu=>ih _ (by have:=h.x hu;omega) (by have:=h.x hu;omega)) (λhu=>ih _ (by have:=h.y hu;omega) (by have:=h.y hu;omega))
theorem p8{p:Tr->Prop}(hp:∀t,p t->∀c∈kids t,p c)(t:Tr):∀{ts:List Tr},p t->(∀u∈ts,p u)->∀u∈visit t ts,p u:=by
 induction t with
 |leaf op i e g=>
  intro ts ht h u hu;rw[visit]at hu;split at hu;exact h u hu;rcases dG.1 hu with hu|hu;exact h u hu;rw[cS.1 hu];exact ht
 |un op i e g a iha=>
  intro ts ht h u hu;rw[visit]at hu;split at hu;exact h u hu;rcases dG.1 hu with hu|hu;exact iha (hp _ ht a (by simp[kids])) h u hu;rw[cS.1 hu];exact ht
 |bin op i e g a b iha ihb=>
  intro ts ht h u hu;rw[visit]at hu;split at hu;exact h u hu;rcases dG.1 hu with hu|hu;exact ihb (hp _ ht b (by simp[kids])) (iha (hp _ ht a (by simp[kids])) h) u hu;rw[cS.1 hu];exact ht
theorem D8{t:Tr}(h:t.ok):∀u∈gk t,u.ok:=p8 (λ_ ht _ hc=>ht.wE hc) t h (λu hu=>by cases hu)
theorem vO{ts:List Tr}{c:Tr} (h:c∈ts.take k):ts.idxOf c<k:=by
 have h1:=bK.2 h;rw[<-oW (List.take_prefix k ts) h]at h1;rw[du]at h1;omega
theorem vD{ts:List Tr}(hc:mK ts)(ho:∀u∈ts,u.ok):fC (eJ ts):=λi hi=>by
 rw[jC]at hi;have hg:(eJ ts)[i]'(by rw[jC];exact hi)=fM ts ts[i]:=by simp[eJ]
 rw[hg];have h:=ho _ (dq hi);have hk:=hc i hi;cases ht:ts[i]with
 |leaf op j e g=>
  rw[ht]at h;have hY:ij op=false:=by
   cases e:ij op with
   |false=>rfl
   |true=>exact absurd ((jz e).symm.trans h.2.1) aI
  exact⟨h.1,λhu=>absurd ((h.2.1).symm.trans hu) aI,λ_=>rfl,λhu=>absurd ((hY).symm.trans hu) aI,λ_=>rfl,h.2.2⟩
 |un op j e g a=>
  rw[ht]at h hk;have:=vO (hk a (by simp[kids]));exact⟨h.1,λ_=>⟨by simp[fM],by simp only[fM];omega⟩,λhu=>absurd ((h.2.1).symm.trans hu) aI,λhu=>absurd ((h.2.2.1).symm.trans hu) aI,λ_=>rfl,h.2.2.2.1⟩
 |bin op j e g a b=>
  rw[ht]at h hk;have h1:=vO (hk a (by simp[kids]));have h2:=vO (hk b (by simp[kids]));exact⟨h.1,λ_=>⟨by simp[fM],by simp only[fM];omega⟩,λhu=>absurd ((jz h.2.1).symm.trans hu) aI,λ_=>⟨by simp[fM],by simp only[fM];omega⟩,λhu=>absurd ((h.2.1).symm.trans hu) aI,h.2.2.1⟩
theorem rk{t:Tr}(h:t.ok):fC (gv t):=vD (jA t).pP (D8 h)
theorem nm(t:Tr):0<(gv t).length:=by
 rw[ke];obtain⟨l,hl⟩:=ov t;rw[hl];simp
theorem we{t:Tr}(h:t.ok)(hl:(gv t).length<=200):DO (gv t):=⟨nm t,hl,λi hi=>lx.2 (rk h i hi)⟩
def iY(d:Nat)(n:NV):NV:={n with x:=if iX n.op=true then n.x+d else n.x,y:=if ij n.op=true then n.y+d else n.y}
def jt(o g:List NV):List NV:=o++g.map (iY o.length)
theorem wa :(jt o g).length=o.length+g.length:=by simp[jt]
theorem Ee{d:Nat} {a:Int}(h:GF n a):GF (iY d n) (a+d):=by
 refine⟨h.op,λhu=>?_,λhu=>?_,λhu=>?_,λhu=>?_,h.pq⟩;have hu':iX n.op=true:=hu;have:=h.x hu';simp only[iY,if_pos hu'];omega;have hu':iX n.op=false:=hu;have:=h.x0 hu';simp only[iY];rw[if_neg (by rw[hu'];simp)];exact this;have hu':ij n.op=true:=hu;have:=h.y hu';simp only[iY,if_pos hu'];omega;have hu':ij n.op=false:=hu;have:=h.y0 hu';simp only[iY];rw[if_neg (by rw[hu'];simp)];exact this
theorem Co (ho:fC o)(hg:fC g):fC (jt o g):=λi hi=>by
 by_cases h:i<o.length;have:(jt o g)[i]=o[i]:=by simp[jt,bJ h]
 rw[this];exact ho i h;rw[wa]at hi;have hj:i - o.length<g.length:=aH;have:(jt o g)[i]=iY o.length g[i - o.length]:=by simp[jt,bB (Nat.le_of_not_lt h)]
 rw[this];have:=Ee (d:=o.length) (hg _ hj);rw[show((i - o.length:Nat):Int)+o.length=i from aH]at this;exact this
theorem Bu  (ho:fC o)(hn:GF n o.length):fC (o++[n]):=λi hi=>by
 by_cases h:i<o.length;rw[bJ h];exact ho i h;have:i=o.length:=by simp at hi;omega
 subst this;simp;exact hn
theorem yM.NC  (h:yM (f++[n])):yM f:=λi hi=>by
 have:=h i aN;rwa[bJ hi]at this
theorem CI (hg:yM g):trees (jt o g)=trees o++trees g:=by
 induction g using lH with
 |h0=>simp[jt,trees,Gt]
 |h1 g m ih=>
  have h:=ih hg.NC;have hm:=hg g.length aL;simp only[List.getElem_concat_length]at hm;have hcat:jt o (g++[m])=jt o g++[iY o.length m]:=by simp[jt]
  rw[hcat,kA,kA,h,<-c9]
  congr 2
  have hget:∀v:Int,0<=v->(trees o++trees g).getD (v+o.length).toNat qJ=(trees g).getD v.toNat qJ:=λv hv=>by
   rw[aY,aZ (by rw[fW];omega),fW,aY]
   congr 2;omega
  by_cases hY:ij m.op=true;have hX:=jz hY;have e1:(iY o.length m).x=m.x+o.length:=by simp[iY,hX]
  have e2:(iY o.length m).y=m.y+o.length:=by simp[iY,hY]
  rw[mj (n:=iY o.length m) hY,mj hY,e1,e2,hget _ (hm.1 hX).1,hget _ (hm.2 hY).1];rfl;have hY':ij m.op=false:=by simpa using hY
  by_cases hX:iX m.op=true;have e1:(iY o.length m).x=m.x+o.length:=by simp[iY,hX]
  rw[nY (n:=iY o.length m) hX hY',nY hX hY',e1,hget _ (hm.1 hX).1];rfl;have hX':iX m.op=false:=by simpa using hX
  rw[lj (n:=iY o.length m) hX',lj hX'];rfl
def eE(f:List NV):List NV:=if fK f≠0 then []else gv (eP f)
def CX:List (List NV)->List NV->List NV
 |[],o=>o
 |g::gs,o=>CX gs (jt o (eE g))
theorem qv:∀{gs:List (List NV)} {o g:List NV},CX (gs++[g]) o=jt (CX gs o) (eE g)
 |[],_,_=>rfl
 |h::gs,o,g=>by rw[List.cons_append,CX,qv,CX]
def outs(gs:List (List NV)):List NV:=CX gs []
def j7(n:NV)(gs:List (List NV)):Nat->NV
 |0=>n
 |k+1=>if k=0 then {j7 n gs k with x:=((outs (gs.take (k+1))).length:Int) - 1}else {j7 n gs k with y:=((outs (gs.take (k+1))).length:Int) - 1}
def fB(n:NV)(gs:List (List NV)):List NV:=
 if ∃g∈gs,fK g≠0 then []else if kO (j7 n gs gs.length) (outs gs).length≠0 then []
 else if 200<(gv (eA (outs gs++[j7 n gs gs.length]) (outs gs).length)).length then []else gv (eA (outs gs++[j7 n gs gs.length]) (outs gs).length)
theorem iF :eP f=eA f (f.length - 1):=rfl
theorem lG :kB f ((f.length:Int) - 1)=eE f:=by
 unfold kB eE;by_cases h:fK f=0;have hp:=(eO.1 h).pos;rw[if_neg (by simp[h];omega),if_neg (by simp[h]),iF]
 congr 2;omega
 rw[if_pos (.inl h),if_pos h]
theorem jG (h:fK f=0):eE f=gv (eP f):=if_neg (by simp[h])
theorem DO.top (h:DO f):(eP f).ok:=by
 rw[iF];exact h.nodes.tree _ (by have:=h.pos;omega)
theorem tK (h:fK f=0):(eE f).length<=f.length:=by
 have hok:=eO.1 h;rw[jG h,iF];have:=tP hok.ord (i:=f.length - 1) (by have:=hok.pos;omega);have:=hok.pos;omega
theorem mx (h:fK f=0):DO (eE f):=by
 have hok:=eO.1 h;have hl:=tK h;have:=hok.len;rw[jG h]at hl⊢;exact we hok.top aH
theorem Hu:∀{gs:List (List NV)},(∀g∈gs,fK g=0)->fC (outs gs):=by
 intro gs
 induction gs using lH with
 |h0=>intro _ i hi;exact absurd hi (dK _)
 |h1 gs g ih=>
  intro h;unfold outs;rw[qv];exact Co (ih (λg' hg'=>h g' (cx _ hg'))) (mx (h g aL)).nodes
theorem Ep (h:∀g∈gs,fK g=0):(outs gs).length<=200*gs.length:=by
 induction gs using lH with
 |h0=>exact aG
 |h1 gs g ih=>
  unfold outs;rw[qv,wa];have h1:=ih (λg' hg'=>h g' (cx _ hg'));have h2:=(mx (h g aL)).len;unfold outs at h1;simp;omega
theorem CW  (hk:k<gs.length):outs (gs.take (k+1))=jt (outs (gs.take k)) (eE gs[k]):=by
 rw[aU hk];exact qv
structure FV where
  a:ae
  c:Nat
  f:List NV
def FV.v(x:FV):aC:=.slice x.a x.f.length x.c
def wL(w:aB)(a:ae)(gs:List FV):Prop:=Sl w a (gs.map FV.v)
theorem wL.eQ{w0 w:aB}{a:ae}{gs:List FV}(h:wL w0 a gs){S:aq}(e:Ex S w0 w)(hS:∀b o,a=some ⟨b,o,none⟩->b∉S:=by simp):wL w a gs:=Sl.ex h e hS
theorem wL.at{w:aB}{a:ae}{gs:List FV}(h:wL w a gs)(k:Nat)(hk:k<gs.length):w.cell? (qT a k)=some gs[k].v:=by
 rw[Sl.cell h k (by simpa using hk)];simp[hk]
theorem Hz   (h:k≠0):j7 n gs (k+1)={j7 n gs k with y:=((outs (gs.take (k+1))).length:Int) - 1}:=by rw[j7,if_neg h]
theorem v9{c:List NV}{m:Nat}(hm:m<c.length):jt o (c.take (m+1))=jt o (c.take m)++[iY o.length c[m]]:=by
 unfold jt;rw[aU hm,dF,c9];rfl
theorem v8{c:List NV}:jt o (c.take 0)=o:=by simp[jt]
def lq(e:ax)(w w':aB)(v:aC)(ns:List NV):Prop:=eV e w w' v ns/\(ns=[]->v=.slice none 0 0)
theorem lq.tC{t:ax}{w w':aB}:lq t w w' (.slice none 0 0) []:=⟨eV.tC,λ_=>rfl⟩
end
end Go.Proofs.Wit
