/- Laws of walks, each under its own conditions. -/
import Derived.Test.YtaamcaiglooemaaGreatDoorXP07
set_option maxRecDepth 100000
set_option maxHeartbeats 40000000
namespace Go.Proofs.Wit
open Go Go.RowKit
section
variable{gs:List (List NV)}{f g o:List NV}{n:NV}{k:Nat}
def Tr.ok:Tr->Prop
 |.leaf op i e g=>(1<=op/\op<=21)/\jd op=false/\kN op i e g=0
 |.un op i e g a=>(1<=op/\op<=21)/\jd op=true/\iH op=false/\kN op i e g=0/\a.ok
 |.bin op i e g a b=>(1<=op/\op<=21)/\iH op=true/\kN op i e g=0/\a.ok/\b.ok
theorem Tr.ok.wf:∀{t:Tr},t.ok->t.wf
 |.leaf _ _ _ _,h=>h.2.1
 |.un _ _ _ _ _,h=>⟨h.2.1,h.2.2.1,h.2.2.2.2.wf⟩
 |.bin _ _ _ _ _ _,h=>⟨h.2.1,h.2.2.2.1.wf,h.2.2.2.2.wf⟩
theorem Tr.ok.Au{t c:Tr}(h:t.ok)(hc:c∈kids t):c.ok:=by
 cases t with
 |leaf=>cases hc
 |un op i e g a=>rw[de.1 hc];exact h.2.2.2.2
 |bin op i e g a b=>
  simp only[kids,ew,dE,eM]at hc;rcases hc with rfl|rfl;exact h.2.2.2.1;exact h.2.2.2.2
theorem LI {a b:Tr}(h1:1<=n.op/\n.op<=21)(h2:kN n.op n.i n.e n.g=0)(ha:jd n.op=true->a.ok)(hb:iH n.op=true->b.ok):(Ae n a b).ok:=by
 by_cases hY:iH n.op=true;rw[nP hY];exact⟨h1,hY,h2,ha (jQ hY),hb hY⟩;have hY':iH n.op=false:=by simpa using hY
 by_cases hX:jd n.op=true;rw[pH hX hY'];exact⟨h1,hX,hY',h2,ha hX⟩;have hX':jd n.op=false:=by simpa using hX
 rw[mi hX'];exact⟨h1,hX',h2⟩
theorem fT.tree (hf:fT f):∀(i:Nat),i<f.length->(eP f i).ok:=by
 intro i
 induction i using Nat.strongRecOn with
 |_ i ih=>
  intro hi;have h:=hf i hi;rw[rm hi (λhu=>by have:=h.x hu;omega) (λhu=>by have:=h.y hu;omega)];exact LI h.op h.kl (λhu=>ih _ (by have:=h.x hu;omega) (by have:=h.x hu;omega)) (λhu=>ih _ (by have:=h.y hu;omega) (by have:=h.y hu;omega))
theorem xI{p:Tr->Prop}(hp:∀t,p t->∀c∈kids t,p c)(t:Tr):∀{ts:List Tr},p t->(∀u∈ts,p u)->∀u∈visit t ts,p u:=by
 induction t with
 |leaf op i e g=>
  intro ts ht h u hu;rw[visit]at hu;split at hu;exact h u hu;rcases dP.1 hu with hu|hu;exact h u hu;rw[de.1 hu];exact ht
 |un op i e g a iha=>
  intro ts ht h u hu;rw[visit]at hu;split at hu;exact h u hu;rcases dP.1 hu with hu|hu;exact iha (hp _ ht a (by simp[kids])) h u hu;rw[de.1 hu];exact ht
 |bin op i e g a b iha ihb=>
  intro ts ht h u hu;rw[visit]at hu;split at hu;exact h u hu;rcases dP.1 hu with hu|hu;exact ihb (hp _ ht b (by simp[kids])) (iha (hp _ ht a (by simp[kids])) h) u hu;rw[de.1 hu];exact ht
theorem ET{t:Tr}(h:t.ok):∀u∈kK t,u.ok:=xI (λ_ ht _ hc=>ht.Au hc) t h (λu hu=>by cases hu)
theorem wT{ts:List Tr}{c:Tr} (h:c∈ts.take k):ts.idxOf c<k:=by
 have h1:=bJ.2 h;rw[<-pw (List.take_prefix k ts) h]at h1;rw[dD]at h1;omega
theorem BA{ts:List Tr}(hc:rR ts)(ho:∀u∈ts,u.ok):fT (ff ts):=λi hi=>by
 rw[mK]at hi;have hg:(ff ts)[i]'(by rw[mK];exact hi)=fM ts ts[i]:=by simp[ff]
 rw[hg];have h:=ho _ (dB hi);have hk:=hc i hi;cases ht:ts[i]with
 |leaf op j e g=>
  rw[ht]at h;have hY:iH op=false:=by
   cases e:iH op with
   |false=>rfl
   |true=>exact absurd ((jQ e).symm.trans h.2.1) aI
  exact⟨h.1,λhu=>absurd ((h.2.1).symm.trans hu) aI,λ_=>rfl,λhu=>absurd ((hY).symm.trans hu) aI,λ_=>rfl,h.2.2⟩
 |un op j e g a=>
  rw[ht]at h hk;have:=wT (hk a (by simp[kids]));exact⟨h.1,λ_=>⟨by simp[fM],by simp only[fM];omega⟩,λhu=>absurd ((h.2.1).symm.trans hu) aI,λhu=>absurd ((h.2.2.1).symm.trans hu) aI,λ_=>rfl,h.2.2.2.1⟩
 |bin op j e g a b=>
  rw[ht]at h hk;have h1:=wT (hk a (by simp[kids]));have h2:=wT (hk b (by simp[kids]));exact⟨h.1,λ_=>⟨by simp[fM],by simp only[fM];omega⟩,λhu=>absurd ((jQ h.2.1).symm.trans hu) aI,λ_=>⟨by simp[fM],by simp only[fM];omega⟩,λhu=>absurd ((h.2.1).symm.trans hu) aI,h.2.2.1⟩
theorem th{t:Tr}(h:t.ok):fT (iD t):=BA (nK t).qU (ET h)
theorem o7(t:Tr):0<(iD t).length:=by
 rw[lT];obtain⟨l,hl⟩:=uG t;rw[hl];simp
theorem xh{t:Tr}(h:t.ok)(hl:(iD t).length<=200):EE (iD t):=⟨o7 t,hl,λi hi=>ld.2 (th h i hi)⟩
def jf(d:Nat)(n:NV):NV:={n with x:=if jd n.op=true then n.x+d else n.x,y:=if iH n.op=true then n.y+d else n.y}
def gI(o g:List NV):List NV:=o++g.map (jf o.length)
theorem rF :(gI o g).length=o.length+g.length:=by simp[gI]
theorem E1{d:Nat} {a:Int}(h:HN n a):HN (jf d n) (a+d):=by
 refine⟨h.op,λhu=>?_,λhu=>?_,λhu=>?_,λhu=>?_,h.kl⟩;have hu':jd n.op=true:=hu;have:=h.x hu';simp only[jf,if_pos hu'];omega;have hu':jd n.op=false:=hu;have:=h.x0 hu';simp only[jf];rw[if_neg (by rw[hu'];simp)];exact this;have hu':iH n.op=true:=hu;have:=h.y hu';simp only[jf,if_pos hu'];omega;have hu':iH n.op=false:=hu;have:=h.y0 hu';simp only[jf];rw[if_neg (by rw[hu'];simp)];exact this
theorem Dl (ho:fT o)(hg:fT g):fT (gI o g):=λi hi=>by
 by_cases h:i<o.length;have:(gI o g)[i]=o[i]:=by simp[gI,bH h]
 rw[this];exact ho i h;rw[rF]at hi;have hj:i - o.length<g.length:=aH;have:(gI o g)[i]=jf o.length g[i - o.length]:=by simp[gI,List.getElem_append_right (Nat.le_of_not_lt h)]
 rw[this];have:=E1 (d:=o.length) (hg _ hj);rw[show((i - o.length:Nat):Int)+o.length=i from aH]at this;exact this
theorem Cv  (ho:fT o)(hn:HN n o.length):fT (o++[n]):=λi hi=>by
 by_cases h:i<o.length;rw[bH h];exact ho i h;have:i=o.length:=by simp at hi;omega
 subst this;simp;exact hn
theorem zv.On  (h:zv (f++[n])):zv f:=λi hi=>by
 have:=h i aN;rwa[bH hi]at this
theorem DI (hg:zv g):trees (gI o g)=trees o++trees g:=by
 induction g using mU with
 |h0=>simp[gI,trees,HF]
 |h1 g m ih=>
  have h:=ih hg.On;have hm:=hg g.length aL;simp only[List.getElem_concat_length]at hm;have hcat:gI o (g++[m])=gI o g++[jf o.length m]:=by simp[gI]
  rw[hcat,lN,lN,h,<-dk]
  congr 2
  have hget:∀v:Int,0<=v->(trees o++trees g).getD (v+o.length).toNat qV=(trees g).getD v.toNat qV:=λv hv=>by
   rw[aX,aY (by rw[js];omega),js,aX]
   congr 2;omega
  by_cases hY:iH m.op=true;have hX:=jQ hY;have e1:(jf o.length m).x=m.x+o.length:=by simp[jf,hX]
  have e2:(jf o.length m).y=m.y+o.length:=by simp[jf,hY]
  rw[nP (n:=jf o.length m) hY,nP hY,e1,e2,hget _ (hm.1 hX).1,hget _ (hm.2 hY).1];rfl;have hY':iH m.op=false:=by simpa using hY
  by_cases hX:jd m.op=true;have e1:(jf o.length m).x=m.x+o.length:=by simp[jf,hX]
  rw[pH (n:=jf o.length m) hX hY',pH hX hY',e1,hget _ (hm.1 hX).1];rfl;have hX':jd m.op=false:=by simpa using hX
  rw[mi (n:=jf o.length m) hX',mi hX'];rfl
def eT(f:List NV):List NV:=if fX f≠0 then []else iD (gA f)
def DZ:List (List NV)->List NV->List NV
 |[],o=>o
 |g::gs,o=>DZ gs (gI o (eT g))
theorem rX:∀{gs:List (List NV)} {o g:List NV},DZ (gs++[g]) o=gI (DZ gs o) (eT g)
 |[],_,_=>rfl
 |h::gs,o,g=>by rw[dz,DZ,rX,DZ]
def outs(gs:List (List NV)):List NV:=DZ gs []
def lz(n:NV)(gs:List (List NV)):Nat->NV
 |0=>n
 |k+1=>if k=0 then {lz n gs k with x:=((outs (gs.take (k+1))).length:Int) - 1}else {lz n gs k with y:=((outs (gs.take (k+1))).length:Int) - 1}
def gv(n:NV)(gs:List (List NV)):List NV:=
 if ∃g∈gs,fX g≠0 then []else if ko (lz n gs gs.length) (outs gs).length≠0 then []
 else if 200<(iD (eP (outs gs++[lz n gs gs.length]) (outs gs).length)).length then []else iD (eP (outs gs++[lz n gs gs.length]) (outs gs).length)
theorem jt :gA f=eP f (f.length - 1):=rfl
theorem jR :iz f ((f.length:Int) - 1)=eT f:=by
 unfold iz eT;by_cases h:fX f=0;have hp:=(fA.1 h).pos;rw[if_neg (by simp[h];omega),if_neg (by simp[h]),jt]
 congr 2;omega
 rw[if_pos (.inl h),if_pos h]
theorem jN (h:fX f=0):eT f=iD (gA f):=if_neg (by simp[h])
theorem EE.top (h:EE f):(gA f).ok:=by
 rw[jt];exact h.nodes.tree _ (by have:=h.pos;omega)
theorem uX (h:fX f=0):(eT f).length<=f.length:=by
 have hok:=fA.1 h;rw[jN h,jt];have:=sf hok.ord (i:=f.length - 1) (by have:=hok.pos;omega);have:=hok.pos;omega
theorem mo (h:fX f=0):EE (eT f):=by
 have hok:=fA.1 h;have hl:=uX h;have:=hok.len;rw[jN h]at hl⊢;exact xh hok.top aH
theorem IN:∀{gs:List (List NV)},(∀g∈gs,fX g=0)->fT (outs gs):=by
 intro gs
 induction gs using mU with
 |h0=>intro _ i hi;exact absurd hi (dV _)
 |h1 gs g ih=>
  intro h;unfold outs;rw[rX];exact Dl (ih (λg' hg'=>h g' (cD _ hg'))) (mo (h g aL)).nodes
theorem Fy (h:∀g∈gs,fX g=0):(outs gs).length<=200*gs.length:=by
 induction gs using mU with
 |h0=>exact aG
 |h1 gs g ih=>
  unfold outs;rw[rX,rF];have h1:=ih (λg' hg'=>h g' (cD _ hg'));have h2:=(mo (h g aL)).len;unfold outs at h1;simp;omega
theorem DY  (hk:k<gs.length):outs (gs.take (k+1))=gI (outs (gs.take k)) (eT gs[k]):=by
 rw[aT hk];exact rX
structure FV where
  a:ae
  c:Nat
  f:List NV
def FV.v(x:FV):aC:=.slice x.a x.f.length x.c
def su(w:aB)(a:ae)(gs:List FV):Prop:=Sl w a (gs.map FV.v)
theorem su.eY{w0 w:aB}{a:ae}{gs:List FV}(h:su w0 a gs){S:aq}(e:Ex S w0 w)(hS:∀b o,a=some ⟨b,o,none⟩->b∉S:=by simp):su w a gs:=Sl.ex h e hS
theorem su.at{w:aB}{a:ae}{gs:List FV}(h:su w a gs)(k:Nat)(hk:k<gs.length):w.cell? (sK a k)=some gs[k].v:=by
 rw[Sl.cell h k (by simpa using hk)];simp[aX,hk]
theorem IW   (h:k≠0):lz n gs (k+1)={lz n gs k with y:=((outs (gs.take (k+1))).length:Int) - 1}:=by rw[lz,if_neg h]
theorem qt{c:List NV}{m:Nat}(hm:m<c.length):gI o (c.take (m+1))=gI o (c.take m)++[jf o.length c[m]]:=by
 unfold gI;rw[aT hm,dO,dk];rfl
theorem qs{c:List NV}:gI o (c.take 0)=o:=by simp[gI]
def mu(e:ax)(w w':aB)(v:aC)(ns:List NV):Prop:=fi e w w' v ns/\(ns=[]->v=.slice none 0 0)
theorem mu.oU{t:ax}{w w':aB}:mu t w w' (.slice none 0 0) []:=⟨fi.oU,λ_=>rfl⟩
end
end Go.Proofs.Wit
