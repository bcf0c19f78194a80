/- Laws of walks, each under its own conditions. -/
import Derived.Test.YtpbhoidjmpjfpaaGreatDoorXP02
import Derived.MapKept
set_option maxRecDepth 100000
set_option maxHeartbeats 40000000
namespace Go.Proofs.Wit
structure NV where
  op:Int
  i:Int
  e:Int
  g:Int
  x:Int
  y:Int
deriving DecidableEq
def NV.cells(n:NV):ai:=[gu n.op,gu n.i,gu n.e,gu n.g,gu n.x,gu n.y]
def ji(op:Int):Bool:=decide (4<=op) && decide (op<=21)
def iM(op:Int):Bool:=decide (5<=op) && decide (op<=8)||op==13||op==14||op==16||op==19||op==21
def ui(op:Int):Bool:=op==9||op==10||op==14||op==15
def rZ(op:Int):Bool:=decide (11<=op) && decide (op<=13)
theorem jL{op:Int}(h:iM op=true):ji op=true:=by
 simp only[iM,ji,dV,dG,dE,eU]at h⊢;omega
inductive Tr where
  |leaf (op i e g:Int)
  |un (op i e g:Int) (a:Tr)
  |bin (op i e g:Int) (a b:Tr)
deriving DecidableEq
def Tr.op:Tr->Int
 |.leaf op _ _ _=>op
 |.un op _ _ _ _=>op
 |.bin op _ _ _ _ _=>op
def kids:Tr->List Tr
 |.leaf ..=>[]
 |.un _ _ _ _ a=>[a]
 |.bin _ _ _ _ a b=>[a,b]
def Tr.wf:Tr->Prop
 |.leaf op _ _ _=>ji op=false
 |.un op _ _ _ a=>ji op=true/\iM op=false/\a.wf
 |.bin op _ _ _ a b=>iM op=true/\a.wf/\b.wf
def tV:Tr:=.leaf 0 0 0 0
def BY(n:NV)(a b:Tr):Tr:=if iM n.op=true then .bin n.op n.i n.e n.g a b else if ji n.op=true then .un n.op n.i n.e n.g a else .leaf n.op n.i n.e n.g
theorem mC{n:NV}{a b:Tr}(h:ji n.op=false):BY n a b=.leaf n.op n.i n.e n.g:=by
 unfold BY;rw[if_neg (by intro h2;rw[jL h2]at h;cases h),if_neg (by rw[h];simp)]
theorem qu{n:NV}{a b:Tr}(h:ji n.op=true)(h2:iM n.op=false):BY n a b=.un n.op n.i n.e n.g a:=by
 unfold BY;rw[if_neg (by rw[h2];simp),if_pos h]
theorem oq{n:NV}{a b:Tr}(h:iM n.op=true):BY n a b=.bin n.op n.i n.e n.g a b:=by
 unfold BY;rw[if_pos h]
theorem Rx{n:NV}{a b:Tr}(ha:a.wf)(hb:b.wf):(BY n a b).wf:=by
 unfold BY;split;rename_i h;exact⟨h,ha,hb⟩;rename_i h;split;rename_i h2;exact⟨h2,by simpa using h,ha⟩;rename_i h2;show ji n.op=false;simpa using h2
theorem JW:tV.wf:=by show ji 0=false;decide
def M9(acc:List Tr):List NV->List Tr
 |[]=>acc
 |n::ns=>M9 (acc++[BY n (acc.getD n.x.toNat tV) (acc.getD n.y.toNat tV)]) ns
def trees(f:List NV):List Tr:=M9 [] f
theorem CX:∀{ns:List NV} {acc:List Tr} {n:NV},M9 acc (ns++[n])=M9 acc ns++[BY n ((M9 acc ns).getD n.x.toNat tV) ((M9 acc ns).getD n.y.toNat tV)]
 |[],_,_=>rfl
 |m::ns,acc,n=>by rw[List.cons_append,M9,CX,M9]
theorem lL{f:List NV}{n:NV}:trees (f++[n])=trees f++[BY n ((trees f).getD n.x.toNat tV) ((trees f).getD n.y.toNat tV)]:=CX
theorem mB{α:Type}{p:List α->Prop}(h0:p [])(h1:∀l a,p l->p (l++[a]))(l:List α):p l:=by
 have:∀n (l:List α),l.length=n->p l:=by
  intro n
  induction n with
  |zero=>intro l h;rw[aV h];exact h0
  |succ n C=>
   intro l h;have w:l≠[]:=by rintro rfl;simp at h
   rw[<-List.dropLast_concat_getLast w];exact h1 _ _ (C _ (by simp[h]))
 exact this _ l rfl
theorem gL(f:List NV):(trees f).length=f.length:=by
 induction f using mB with
 |h0=>rfl
 |h1 f n h=>rw[lL];simp[h]
theorem yE(f:List NV)(k:Nat):(trees f).take k=trees (f.take k):=by
 induction f using mB with
 |h0=>simp[trees,M9]
 |h1 f n h=>
  by_cases hk:k<=f.length;rw[lL,List.take_append_of_le_length (by rw[gL];exact hk),List.take_append_of_le_length hk,h];rw[bZ (by rw[gL];simp;omega),bZ aN]
theorem Il{f:List NV}{k:Nat}(hk:k<f.length):(trees f)[k]'(by rw[gL];exact hk)=BY f[k] (((trees f).take k).getD f[k].x.toNat tV) (((trees f).take k).getD f[k].y.toNat tV):=by
 have h1:f.take (k+1)=f.take k++[f[k]]:=aU hk;have h2:=yE f (k+1);rw[h1,lL,<-yE]at h2;have h:((trees f).take (k+1))[k]?=some (BY f[k] (((trees f).take k).getD f[k].x.toNat tV) (((trees f).take k).getD f[k].y.toNat tV)):=by
  rw[h2,aZ (by rw[dN,gL];omega),dN,gL,Nat.min_eq_left aH,eO];rfl
 rw[List.getElem?_take,if_pos aH,bJ (by rw[gL];exact hk)]at h;exact eA h
theorem yD(f:List NV):∀t∈trees f,t.wf:=by
 induction f using mB with
 |h0=>intro t h;cases h
 |h1 f n p=>
  have hd:∀k,((trees f).getD k tV).wf:=λk=>by
   by_cases hk:k<(trees f).length;rw[show(trees f).getD k tV=(trees f)[k]from by simp[hk]];exact p _ (dL hk);rw[show(trees f).getD k tV=tV from by simp[cz (Nat.le_of_not_lt hk)]];exact JW
  intro t h;rw[lL]at h;rcases ed.1 h with h|h;exact p t h;rw[dn.1 h];exact Rx (hd _) (hd _)
def visit:Tr->List Tr->List Tr
 |.leaf op i e g,ts=>if Tr.leaf op i e g∈ts then ts else ts++[.leaf op i e g]
 |.un op i e g a,ts=>if Tr.un op i e g a∈ts then ts else visit a ts++[.un op i e g a]
 |.bin op i e g a b,ts=>if Tr.bin op i e g a b∈ts then ts else visit b (visit a ts)++[.bin op i e g a b]
def oN(ts:List Tr):Prop:=∀(k:Nat) (hk:k<ts.length),∀c∈kids ts[k],c∈ts.take k
theorem oN.nil:oN []:=λ_k hk=>absurd hk (ew _)
theorem oN.snoc{ts:List Tr}{t:Tr}(h:oN ts)(w:∀c∈kids t,c∈ts):oN (ts++[t]):=λk hk c hc=>by
 rw[di,cC]at hk;by_cases p:k<ts.length;rw[bK p]at hc;rw[List.take_append_of_le_length aH];exact h k p c hc;obtain rfl:k=ts.length:=aH;rw[bC (eR _)]at hc;simp only[eO,List.getElem_cons_zero]at hc;rw[List.take_left'];exact w c hc;rfl
theorem oN.mem{ts:List Tr}(h:oN ts){t:Tr}(p:t∈ts):∀c∈kids t,c∈ts:=λc hc=>by
 obtain⟨k,hk,rfl⟩:=cN.1 p;exact cQ (h k hk c hc)
def size:Tr->Nat
 |.leaf ..=>1
 |.un _ _ _ _ a=>size a+1
 |.bin _ _ _ _ a b=>size a+size b+1
theorem oU(t:Tr):∀{ts:List Tr} {u:Tr},u∈visit t ts->u∈ts\/size u<=size t:=by
 induction t with
 |leaf op i e g=>
  intro ts u h;rw[visit]at h;split at h;exact .inl h;rcases ed.1 h with h|h;exact .inl h;rw[dn.1 h];exact .inr (eR _)
 |un op i e g a p=>
  intro ts u h;rw[visit]at h;split at h;exact .inl h;rcases ed.1 h with h|h;rcases p h with h|h;exact .inl h;exact .inr (by simp only[size];omega);rw[dn.1 h];exact .inr (eR _)
 |bin op i e g a b p w=>
  intro ts u h;rw[visit]at h;split at h;exact .inl h;rcases ed.1 h with h|h;rcases w h with h|h;rcases p h with h|h;exact .inl h;exact .inr (by simp only[size];omega);exact .inr (by simp only[size];omega);rw[dn.1 h];exact .inr (eR _)
structure Wj (t:Tr) (ts us:List Tr):Prop where
  sR:oN us
  nd:us.Nodup
  pre:ts<+:us
  mem:t∈us
theorem ph{ts:List Tr}{t:Tr}(h:ts.Nodup)(p:t∉ts):(ts++[t]).Nodup:=by
 rw[dC];exact⟨h,by simp,λa ha b hb=>by rw[dn.1 hb];rintro rfl;exact p ha⟩
theorem lK(t:Tr):∀{ts:List Tr},oN ts->ts.Nodup->Wj t ts (visit t ts):=by
 induction t with
 |leaf op i e g=>
  intro ts hc C;rw[visit];split;rename_i h;exact⟨hc,C,dQ _,h⟩;rename_i h;exact⟨hc.snoc (λc hc=>by cases hc),ph C h,dq _ _,by simp⟩
 |un op i e g a D=>
  intro ts hc C;rw[visit];split;rename_i h;exact⟨hc,C,dQ _,h⟩;rename_i h;obtain⟨h1,h2,J,F⟩:=D hc C;have p:Tr.un op i e g a∉visit a ts:=λhm=>by
   rcases oU a hm with w|w;exact h w;simp only[size]at w;omega
  exact⟨h1.snoc (λc hc=>by rw[dn.1 hc];exact F),ph h2 p,J.trans (dq _ _),by simp⟩
 |bin op i e g a b D E=>
  intro ts hc C;rw[visit];split;rename_i h;exact⟨hc,C,dQ _,h⟩;rename_i h;obtain⟨h1,h2,J,F⟩:=D hc C;obtain⟨O,N,K,M⟩:=E h1 h2;have p:Tr.bin op i e g a b∉visit b (visit a ts):=λhm=>by
   rcases oU b hm with w|w;rcases oU a w with w|w;exact h w;simp only[size]at w;omega;simp only[size]at w;omega
  refine⟨O.snoc (λc hc=>?_),ph N p,(J.trans K).trans (dq _ _),by simp⟩;simp only[kids,eH,dO,eX]at hc;rcases hc with rfl|rfl;exact K.subset F;exact M
def gA(ts:List Tr):Tr->NV
 |.leaf op i e g=>⟨op,i,e,g,0,0⟩
 |.un op i e g a=>⟨op,i,e,g,(ts.idxOf a:Int),0⟩
 |.bin op i e g a b=>⟨op,i,e,g,(ts.idxOf a:Int),(ts.idxOf b:Int)⟩
def fH(ts:List Tr):List NV:=ts.map (gA ts)
theorem ku{ts:List Tr}:(fH ts).length=ts.length:=by simp[fH]
theorem rE{ts us:List Tr}(h:ts<+:us){t:Tr}(p:t∈ts):us.idxOf t=ts.idxOf t:=by
 obtain⟨vs,rfl⟩:=h;rw[List.idxOf_append,if_pos p]
theorem y9{ts us:List Tr}(h:ts<+:us){t:Tr}(p:∀c∈kids t,c∈ts):gA us t=gA ts t:=by
 cases t with
 |leaf=>rfl
 |un op i e g a=>simp only[gA];rw[rE h (p a (by simp[kids]))]
 |bin op i e g a b=>simp only[gA];rw[rE h (p a (by simp[kids])),rE h (p b (by simp[kids]))]
theorem oQ{ts:List Tr}(hc:oN ts){t:Tr}(h:∀c∈kids t,c∈ts):fH (ts++[t])=fH ts++[gA ts t]:=by
 unfold fH;rw[ec,List.map_singleton,y9 (dq _ _) h]
 congr 1
 exact c6 (λu hu=>y9 (dq _ _) (hc.mem hu))
theorem B5{ts:List Tr}{a b:Tr}(ha:a∈ts)(hb:b∈ts)(h:ts.idxOf a=ts.idxOf b):a=b:=by
 have h1:=List.getElem_idxOf (bL.2 ha);have h2:=List.getElem_idxOf (bL.2 hb);rw[<-h1,<-h2]
 congr 1
theorem za{ts:List Tr}{t u:Tr}(w:t.wf)(hu:u.wf)(h1:∀c∈kids t,c∈ts)(h2:∀c∈kids u,c∈ts)(h:gA ts t=gA ts u):t=u:=by
 cases t with
 |leaf op i e g=>
  cases u with
  |leaf p i' D C=>simp only[gA,NV.mk.injEq]at h;obtain⟨rfl,rfl,rfl,rfl,_⟩:=h;rfl
  |un p i' D C E=>simp only[gA,NV.mk.injEq]at h;obtain⟨rfl,_⟩:=h;simp only[Tr.wf]at w hu;rw[w]at hu;cases hu.1
  |bin p i' D C E b'=>simp only[gA,NV.mk.injEq]at h;obtain⟨rfl,_⟩:=h;simp only[Tr.wf]at w hu;rw[jL hu.1]at w;cases w
 |un op i e g a=>
  cases u with
  |leaf p i' D C=>simp only[gA,NV.mk.injEq]at h;obtain⟨rfl,_⟩:=h;simp only[Tr.wf]at w hu;rw[w.1]at hu;cases hu
  |un p i' D C E=>
   simp only[gA,NV.mk.injEq]at h;obtain⟨rfl,rfl,rfl,rfl,hx,_⟩:=h;rw[B5 (h1 a (by simp[kids])) (h2 E (by simp[kids])) aH]
  |bin p i' D C E b'=>simp only[gA,NV.mk.injEq]at h;obtain⟨rfl,_⟩:=h;simp only[Tr.wf]at w hu;rw[hu.1]at w;cases w.2.1
 |bin op i e g a b=>
  cases u with
  |leaf p i' D C=>simp only[gA,NV.mk.injEq]at h;obtain⟨rfl,_⟩:=h;simp only[Tr.wf]at w hu;rw[jL w.1]at hu;cases hu
  |un p i' D C E=>simp only[gA,NV.mk.injEq]at h;obtain⟨rfl,_⟩:=h;simp only[Tr.wf]at w hu;rw[w.1]at hu;cases hu.2.1
  |bin p i' D C E b'=>
   simp only[gA,NV.mk.injEq]at h;obtain⟨rfl,rfl,rfl,rfl,hx,hy⟩:=h;rw[B5 (h1 a (by simp[kids])) (h2 E (by simp[kids])) aH,B5 (h1 b (by simp[kids])) (h2 b' (by simp[kids])) aH]
theorem GJ{ts:List Tr}(hc:oN ts)(D:ts.Nodup)(hw:∀u∈ts,u.wf){t:Tr}(C:t∈ts):
  (fH ts)[ts.idxOf t]?=some (gA ts t)/\∀k,k<ts.idxOf t->(fH ts)[k]?≠some (gA ts t):=by
 have w:=bL.2 C;refine⟨by rw[fH,dB,bJ w,List.getElem_idxOf w];rfl,λk hk h=>?_⟩;have p:k<ts.length:=aH;rw[fH,dB,bJ p,ez,dD]at h;have h1:=za (hw _ (dL p)) (hw t C) (hc.mem (dL p)) (hc.mem C) h;have h2:ts.idxOf t=k:=by rw[<-h1];exact D.idxOf_getElem k p
 omega
theorem GK{ts:List Tr}(hc:oN ts)(hw:∀u∈ts,u.wf){t:Tr}(p:t.wf)(hk:∀c∈kids t,c∈ts)(w:t∉ts):∀k:Nat,(fH ts)[k]?≠some (gA ts t):=λk h=>by
 rw[fH,dB]at h;obtain⟨u,hu,he⟩:=Option.map_eq_some_iff.1 h;have hm:=cP hu;rw[za (hw u hm) p (hc.mem hm) hk he]at hm;exact w hm
theorem JS(t:Tr)(w:t.wf):∀{ts:List Tr},(∀u∈ts,u.wf)->∀u∈visit t ts,u.wf:=by
 induction t with
 |leaf op i e g=>
  intro ts h u hu;rw[visit]at hu;split at hu;exact h u hu;rcases ed.1 hu with hu|hu;exact h u hu;rw[dn.1 hu];exact w
 |un op i e g a p=>
  intro ts h u hu;rw[visit]at hu;split at hu;exact h u hu;rcases ed.1 hu with hu|hu;exact p w.2.2 h u hu;rw[dn.1 hu];exact w
 |bin op i e g a b p C=>
  intro ts h u hu;rw[visit]at hu;split at hu;exact h u hu;rcases ed.1 hu with hu|hu;exact C w.2.2 (p w.2.1 h) u hu;rw[dn.1 hu];exact w
theorem tU{ts:List Tr}(hc:oN ts)(hw:∀u∈ts,u.wf):trees (fH ts)=ts:=by
 induction ts using mB with
 |h0=>rfl
 |h1 ts t D=>
  have hk:∀c∈kids t,c∈ts:=λc h=>by
   have:=hc ts.length aL c (by simpa using h);rwa[List.take_left' rfl]at this
  have C:oN ts:=λk hk c h=>by
   have:=hc k aN c (by rw[bK hk];exact h);rwa[List.take_append_of_le_length aH]at this
  rw[oQ C hk,lL,D C (λu hu=>hw u (cK _ hu))]
  congr 2
  have p:=hw t aL;have hg:∀c∈ts,ts.getD ((ts.idxOf c:Int)).toNat tV=c:=λc h=>by
   have w:=bL.2 h;rw[dy,aY,bJ w,List.getElem_idxOf w];rfl
  cases t with
  |leaf op i e g=>exact(mC (n:=⟨op,i,e,g,0,0⟩) p)
  |un op i e g a=>
   refine(qu (n:=⟨op,i,e,g,(ts.idxOf a:Int),0⟩) p.1 p.2.1).trans ?_;dsimp only[gA];rw[hg a (hk a (by simp[kids]))]
  |bin op i e g a b=>
   refine(oq (n:=⟨op,i,e,g,(ts.idxOf a:Int),(ts.idxOf b:Int)⟩) p.1).trans ?_;dsimp only[gA];rw[hg a (hk a (by simp[kids])),hg b (hk b (by simp[kids]))]
theorem mX(t:Tr):∀{ts us:List Tr},oN us->t∈us->ts⊆us->visit t ts⊆us:=by
 induction t with
 |leaf op i e g=>
  intro ts us hc h hs;rw[visit];split;exact hs;exact List.append_subset.2 ⟨hs,by simpa using h⟩
 |un op i e g a p=>
  intro ts us hc h hs;rw[visit];split;exact hs;exact List.append_subset.2 ⟨p hc (hc.mem h a (by simp[kids])) hs,by simpa using h⟩
 |bin op i e g a b p w=>
  intro ts us hc h hs;rw[visit];split;exact hs;exact List.append_subset.2 ⟨w hc (hc.mem h b (by simp[kids])) (p hc (hc.mem h a (by simp[kids])) hs),by simpa using h⟩
def iu(t:Tr):List Tr:=visit t []
def iA(t:Tr):List NV:=fH (iu t)
theorem kp(t:Tr):Wj t [] (iu t):=lK t oN.nil eE
theorem NI{t:Tr}(h:t.wf):∀u∈iu t,u.wf:=JS t h (λu hu=>by cases hu)
theorem o8{t:Tr}(h:t.wf):trees (iA t)=iu t:=tU (kp t).sR (NI h)
theorem ly{t:Tr}:(iA t).length=(iu t).length:=ku
theorem qJ(t:Tr):∃l,iu t=l++[t]:=by
 cases t with
 |leaf op i e g=>exact⟨[],by simp[iu,visit]⟩
 |un op i e g a=>exact⟨visit a [],by simp[iu,visit]⟩
 |bin op i e g a b=>exact⟨visit b (visit a []),by simp[iu,visit]⟩
def fF(f:List NV):Tr:=(trees f).getD (f.length - 1) tV
theorem oV{t:Tr}(h:t.wf):fF (iA t)=t:=by
 unfold fF;rw[o8 h,ly];obtain⟨l,p⟩:=qJ t;rw[p];simp
section
variable{f:List NV}{i:Nat}
def VD:NV:=⟨0,0,0,0,0,0⟩
def Dr(used:Bool)(v at_:Int):Bool:=used && decide (0<=v) && decide (v<at_)||!used && v==0
def iO(op:Int):Bool:=op==3||ui op||op==17
def kG(op i e g:Int):Int:=
 if (!iO op && i !=0||op !=17 && e !=0||!rZ op && g !=0)=true then 3
 else if (op==3 && !(decide (0<=i) && decide (i<8))||ui op && !(decide (0<=i) && decide (i<4))||op==17 && !(decide (0<=i) && decide (i<8) && decide (0<=e) && decide (e<8))||rZ op && !(decide (1<=g) && decide (g<16)))=true then 2 else 0
def mi(n:NV)(at_:Int):Int:=
 if ¬(1<=n.op/\n.op<=21)then 10
 else if ¬(Dr (ji n.op) n.x at_=true/\Dr (iM n.op) n.y at_=true)then 3 else kG n.op n.i n.e n.g
def lX(e:Nat->Int):Nat->Int
 |0=>0
 |n+1=>if lX e n≠0 then lX e n else e n
theorem pZ{e:Nat->Int}:∀{n:Nat},lX e n=0↔∀i,i<n->e i=0
 |0=>by simp[lX]
 |n+1=>by
  rw[lX];constructor;intro h i hi;split at h;rename_i h2;exact absurd h h2;rename_i h2;rcases bR.1 hi with hi|rfl;exact pZ.1 (dx.1 h2) i hi;exact h;intro h;have h1:lX e n=0:=pZ.2 (λi hi=>h i (Nat.lt_succ_of_lt hi));rw[if_neg (by simp[h1])];exact h n (dS n)
theorem D4{e:Nat->Int}{n:Nat}(h:lX e n≠0):∀m,n<=m->lX e m=lX e n:=λm hm=>by
 obtain⟨k,rfl⟩:∃k,m=n+k:=⟨m - n,aH⟩;clear hm
 induction k with
 |zero=>rfl
 |succ k p=>rw[<-Nat.add_assoc,lX,if_pos (by rw[p];exact h),p]
theorem FK{e:Nat->Int}{n m:Nat}(h:lX e n=0)(he:e n≠0)(hm:n<m):lX e m=e n:=by
 have h1:lX e (n+1)=e n:=by rw[lX,if_neg (by simp[h])]
 rw[D4 (n:=n+1) (by rw[h1];exact he) m hm,h1]
def I9(f:List NV)(i:Nat):Int:=mi (f.getD i VD) i
def gp(f:List NV):Int:=if f.length=0 then 3 else if 200<f.length then 8 else lX (I9 f) f.length
structure JH (f:List NV):Prop where
  pos:0<f.length
  len:f.length<=200
  node:∀(i:Nat) (hi:i<f.length),mi f[i] i=0
theorem fA :gp f=0↔JH f:=by
 unfold gp;have hg:∀(i:Nat) (hi:i<f.length),I9 f i=mi f[i] i:=λi hi=>by simp[I9,hi]
 constructor;intro h;split at h;cases h;rename_i h1;split at h;cases h;rename_i h2;exact⟨aH,aH,λi hi=>by rw[<-hg i hi];exact pZ.1 h i hi⟩;rintro ⟨h1,h2,p⟩;rw[if_neg aH,if_neg aH];exact pZ.2 (λi hi=>by rw[hg i hi];exact p i hi)
structure Nl (n:NV) (at_:Int):Prop where
  op:1<=n.op/\n.op<=21
  x:ji n.op=true->0<=n.x/\n.x<at_
  x0:ji n.op=false->n.x=0
  y:iM n.op=true->0<=n.y/\n.y<at_
  y0:iM n.op=false->n.y=0
  rJ:kG n.op n.i n.e n.g=0
theorem vh{h:Bool}{v at_:Int}:Dr h v at_=true↔(h=true->0<=v/\v<at_)/\(h=false->v=0):=by
 cases h<;>simp[Dr]
theorem lT{n:NV}{at_:Int}:mi n at_=0↔Nl n at_:=by
 unfold mi;constructor;intro h;split at h;cases h;rename_i h1;split at h;cases h;rename_i h2;obtain⟨F,E⟩:=dx.1 h2;obtain⟨D,C⟩:=vh.1 F;obtain⟨w,p⟩:=vh.1 E;exact⟨dx.1 h1,D,C,w,p,h⟩;rintro ⟨h1,D,C,w,p,h⟩;rw[if_neg (by simp[h1]),if_neg (by simp[vh.2 ⟨D,C⟩,vh.2 ⟨w,p⟩])];exact h
theorem JH.at (h:JH f)(i:Nat)(hi:i<f.length):Nl f[i] i:=lT.1 (h.node i hi)
def fe(f:List NV)(i:Nat):Tr:=(trees f).getD i tV
theorem kl  (hi:i<f.length):fe f i=(trees f)[i]'(by rw[gL];exact hi):=by
 simp[fe,show i<(trees f).length from by rw[gL];exact hi]
theorem pQ  (hi:i<f.length)(hx:ji f[i].op=true->f[i].x.toNat<i)(hy:iM f[i].op=true->f[i].y.toNat<i):
  fe f i=BY f[i] (fe f f[i].x.toNat) (fe f f[i].y.toNat):=by
 rw[kl hi,Il hi];have h:∀k,k<i->((trees f).take i).getD k tV=fe f k:=λk hk=>by
  unfold fe;simp[hk]
 by_cases h1:iM f[i].op=true;rw[oq h1,oq h1,h _ (hx (jL h1)),h _ (hy h1)];by_cases h2:ji f[i].op=true;rw[qu h2 (by simpa using h1),qu h2 (by simpa using h1),h _ (hx h2)];rw[mC (by simpa using h2),mC (by simpa using h2)]
theorem wb(f:List NV)(i:Nat):(fe f i).wf:=by
 unfold fe;by_cases hi:i<(trees f).length;rw[show(trees f).getD i tV=(trees f)[i]from by simp[hi]];exact yD f _ (dL hi);rw[show(trees f).getD i tV=tV from by simp[cz (Nat.le_of_not_lt hi)]];exact JW
def CJ(f:List NV):Prop:=∀(i:Nat) (hi:i<f.length),(ji f[i].op=true->0<=f[i].x/\f[i].x<i)/\(iM f[i].op=true->0<=f[i].y/\f[i].y<i)
theorem JH.ord (h:JH f):CJ f:=λi hi=>⟨(h.at i hi).x,(h.at i hi).y⟩
theorem CJ.sR (h:CJ f):oN (trees f):=λk hk c hc=>by
 rw[gL]at hk;obtain⟨hx,hy⟩:=h k hk;have h1:=pQ hk (λhu=>by have:=hx hu;omega) (λhu=>by have:=hy hu;omega);rw[<-kl hk,h1]at hc;have p:∀j,j<k->fe f j∈(trees f).take k:=λj hj=>by
  rw[kl (by omega:j<f.length)];rw[List.mem_take_iff_getElem];exact⟨j,by rw[gL];omega,rfl⟩
 by_cases h2:iM f[k].op=true;rw[oq h2]at hc;simp only[kids,eH,dO,eX]at hc;rcases hc with rfl|rfl;exact p _ (by have:=hx (jL h2);omega);exact p _ (by have:=hy h2;omega);by_cases w:ji f[k].op=true;rw[qu w (by simpa using h2)]at hc;rw[dn.1 hc];exact p _ (by have:=hx w;omega);rw[mC (by simpa using w)]at hc;cases hc
theorem wM (h:CJ f) (hi:i<f.length):(iA (fe f i)).length<=i+1:=by
 have p:oN ((trees f).take (i+1)):=λk hk c hc=>by
  rw[dN]at hk;rw[List.getElem_take]at hc;have:=h.sR k aH c hc;rw[List.take_take,Nat.min_eq_left aH];exact this
 have hm:fe f i∈(trees f).take (i+1):=by
  rw[kl hi,List.mem_take_iff_getElem];exact⟨i,by rw[gL];omega,rfl⟩
 have hs:=mX (fe f i) (ts:=[]) p hm (List.nil_subset _);have C:=(kp (fe f i)).nd;rw[ly];have w:=C.length_le_of_subset hs;rw[dN]at w;omega
end
section
variable{a e g i op:Int}{n:NV}
theorem KG  (h:¬(1<=n.op/\n.op<=21)):mi n a=10:=if_pos h
theorem Ot  (h:1<=n.op/\n.op<=21)(hb:Dr (ji n.op) n.x a=false):mi n a=3:=by
 rw[mi,if_neg (by simp[h]),if_pos (by rw[hb];simp)]
theorem Oq  (h:1<=n.op/\n.op<=21)(hb:Dr (iM n.op) n.y a=false):mi n a=3:=by
 rw[mi,if_neg (by simp[h]),if_pos (by rw[hb];simp)]
theorem rz  (h:1<=n.op/\n.op<=21)(hx:Dr (ji n.op) n.x a=true)(hy:Dr (iM n.op) n.y a=true):mi n a=kG n.op n.i n.e n.g:=by
 rw[mi,if_neg (by simp[h]),if_neg (by rw[hx,hy];simp)]
theorem R4 (h:(!iO op && i !=0||op !=17 && e !=0||!rZ op && g !=0)=true):kG op i e g=3:=if_pos h
theorem zt (h:(!iO op && i !=0||op !=17 && e !=0||!rZ op && g !=0)=false)(h2:(op==3 && !(decide (0<=i) && decide (i<8))||ui op && !(decide (0<=i) && decide (i<4))||op==17 && !(decide (0<=i) && decide (i<8) && decide (0<=e) && decide (e<8))||rZ op && !(decide (1<=g) && decide (g<16)))=true):kG op i e g=2:=by
 rw[kG,if_neg (by rw[h];simp),if_pos h2]
theorem R5 (h:(!iO op && i !=0||op !=17 && e !=0||!rZ op && g !=0)=false)(h2:(op==3 && !(decide (0<=i) && decide (i<8))||ui op && !(decide (0<=i) && decide (i<4))||op==17 && !(decide (0<=i) && decide (i<8) && decide (0<=e) && decide (e<8))||rZ op && !(decide (1<=g) && decide (g<16)))=false):kG op i e g=0:=by
 rw[kG,if_neg (by rw[h];simp),if_neg (by rw[h2];simp)]
end
end Go.Proofs.Wit
namespace Go.Proofs.Wit
open Go Go.RowKit
def reach(ops:aj):Nat->aq->aq
 |0,acc=>acc
 |j+1,acc=>reach ops j (cond (acc.any λz=>(iX ops z).contains j) (j::acc) acc)
def below(ops:aj)(x:Nat):aq:=reach ops x [x]
def forced(ops:aj):aq->aq->Bool
 |listed,[]=>(fL ops listed).isEmpty
 |listed,x::rest=>(fL ops listed==[x]) && forced ops (x::listed) rest
def BD(ops:aj)(_l:Fl)(m:Nat):Bool:=
 Nat.ble m ops.size &&
 (List.range ops.size).all (λi=>(iX ops i).all (λj=>Nat.blt j i)) &&
 (List.range m).all (λi=>match ops[i]? with
  |none=>false
  |some o=>mq o.op && match o.dst with
   |none=>false
   |some d=>(List.range ops.size).all (λj=>Nat.beq j i||!(ik ops j==some d)) &&
    (nL ops o).all (λs=>(List.range ops.size).all (λj=>!(ik ops j==some s)||(iX ops i).contains j||(Nat.ble m j && (below ops j).contains i)))) &&
 (List.range' m (ops.size - m)).all (λi=>match ops[i]? with
  |none=>false
  |some o=>(nL ops o).all (λs=>(List.range m).all (λj=>!(ik ops j==some s)||(iX ops i).contains j)))
section
variable{P:av}{r:ah}{f:ay}{R:aC->aB->Prop}{w0:aB}{S:aq}{Y:List (Nat×Obj)}{n:Nat}{k:al}{l:Fl}{h:Hl}{ops:aj}
def jq(P:av)(w0:aB)(S:aq)(n:Nat)(h:Hl)(ops:aj)(i:Nat)(l:Fl)(d:Nat)(K:aC->Hl->Prop):Prop:=
 ∃o,ops[i]?=some o/\o.dst=some d/\lH o.op=false/\mq o.op=true/\Nat.blt d n=true/\
  ((fE ops l o.guard=true/\∀(t:af) (w:aB) (Ds:aq) (Y':List (Nat×Obj)),pJ n t l->St w0 S w h Y'->
   (∃v w' h',(execOp (Act.eval ⟨t,Ds.map mark⟩) o).run P w=.ok (.value v) w'/\St w0 S w' h' Y'/\K v h')\/
   (∃gf args,∃Rc:aC->aB->Prop,(execOp (Act.eval ⟨t,Ds.map mark⟩) o).run P w=.ok (.enter gf args) w/\(Calls P gf args w λe w'=>∃v,e=.returned v/\Rc v w')/\∀v w',Rc v w'->∃h',St w0 S w' h' Y'/\K v h'))\/
  (tW ops l o.guard=true/\K undef h))
theorem jq.v{i d:Nat}{v:aC}{K:aC->Hl->Prop}(hv:fh P w0 S n h ops i l d v)(hsel:∀o,ops[i]?=some o->mq o.op=true)(hk:K v h):jq P w0 S n h ops i l d K:=by
 obtain⟨o,ho,hw,hdst,hnd,hd,hr⟩:=hv;exact⟨o,ho,hdst,hnd,hsel o ho,hd,.inl ⟨hw,λt w Ds Y' hF hS=>.inl (by
  obtain⟨nx,h1,rfl⟩:=hr t w Ds Y' hF hS;exact⟨v,w,h,h1,hS,hk⟩)⟩⟩
section
variable{i d:Nat}{ty:ax}{pos:aA}{aft:ak}{g:Option (Nat×Bool)}{K:aC->Hl->Prop}
theorem jq.ML{e:ax}{z:aC}(ho:ops[i]?=some ⟨some d,.alloc e,ty,pos,aft,g⟩)(hw:fE ops l g=true)(hd:Nat.blt d n=true)(hz:∀w,(zeroValue e).run P w=.ok z w)
  (hk:∀b,K (aQ b) ((some b,.cells z.cells e)::h)):jq P w0 S n h ops i l d K:=
 ⟨_,ho,rfl,rfl,rfl,hd,.inl ⟨hw,λt w Ds Y' hF hS=>.inl ⟨aQ w.heap.size,w.alloc (.cells z.cells e),_,by
  simp[execOp,Instr.alloc,hz,newVar,newRow],hS.alloc rfl,hk _⟩⟩⟩
theorem jq.bx{e:ax}{x:au}{v:aC}(ho:ops[i]?=some ⟨some d,.box e x,ty,pos,aft,g⟩)(hw:fE ops l g=true)(hx:fW l x=some v)(hd:Nat.blt d n=true)
  (hk:∀b,K (aQ b) ((some b,.cells v.cells e)::h)):jq P w0 S n h ops i l d K:=
 ⟨_,ho,rfl,rfl,rfl,hd,.inl ⟨hw,λt w Ds Y' hF hS=>.inl ⟨aQ w.heap.size,w.alloc (.cells v.cells e),_,by
  simp[execOp,Instr.box,hF.fW hx,newVar,newRow],hS.alloc rfl,hk _⟩⟩⟩
theorem jq.An{t e:ax}{len:Nat}{az:Array (Nat×au)}{ps:List (Nat×aC)}{z:aC}{size:Nat}{c:ai}(ho:ops[i]?=some ⟨some d,.buildSlice t len az,ty,pos,aft,g⟩)(hw:fE ops l g=true)(hx:qm l az.toList=some ps)(hd:Nat.blt d n=true)
  (hu:P.underlying t=some (.slice e))(hs:∀w,(sizeOf e).run P w=.ok size w)(hz:∀w,(zeroValue e).run P w=.ok z w)(hm:Nat.ble (len*size) 16777216=true)
  (hf:uf (λi=>some (i*size,size)) ((List.range (len*size)).map λi=>z.cells.toList.getD (i%z.cells.toList.length) default) ps=some c)
  (hk:∀b,K (.slice (aR b) len len) ((some b,.cells (c++[]).toArray e)::h)):jq P w0 S n h ops i l d K:=
 ⟨_,ho,rfl,rfl,rfl,hd,.inl ⟨hw,λ_ w Ds _ hF hS=>.inl ⟨.slice (aR w.heap.size) len len,w.alloc (.cells (c++[]).toArray e),_,
  HO hF hx hu hs hz hm hf Ds w,hS.alloc rfl,hk _⟩⟩⟩
theorem jq.gG{t e:ax}{len:Nat}{az:Array (Nat×au)}{ps:List (Nat×aC)}{z:aC}{size:Nat}{c:ai}(hu:P.underlying t=some (.slice e))(hs:∀w,(sizeOf e).run P w=.ok size w)(hz:∀w,(zeroValue e).run P w=.ok z w)(hk:∀b,K (.slice (aR b) len len) ((some b,.cells (c++[]).toArray e)::h))(ho:ops[i]?=some ⟨some d,.buildSlice t len az,ty,pos,aft,g⟩:=by exact rfl)(hw:fE ops l g=true:=by exact rfl)(hx:qm l az.toList=some ps:=by exact rfl)(hd:Nat.blt d n=true:=by exact rfl)(hm:Nat.ble (len*size) 16777216=true:=by exact rfl)(hf:uf (λi=>some (i*size,size)) ((List.range (len*size)).map λi=>z.cells.toList.getD (i%z.cells.toList.length) default) ps=some c:=by exact rfl):jq P w0 S n h ops i l d K:=jq.An (ho:=ho) (hw:=hw) (hx:=hx) (hd:=hd) (hu:=hu) (hs:=hs) (hz:=hz) (hm:=hm) (hf:=hf) (hk:=hk)
theorem jq.vM{az:aa}{ts:ab}{cal:au}{gf:ay}{fs cs vs:ai}(Rc:aB->aC->aB->Prop)(ho:ops[i]?=some ⟨some d,.call ⟨.value cal,az,ts⟩,ty,pos,aft,g⟩)(hw:fE ops l g=true)
  (hc:fW l cal=some (.func (.func gf) fs.toArray cs.toArray))(hx:iW l az.toList=some vs)(hd:Nat.blt d n=true)(hcf:∀args w,(callFunc gf args).run P w=.ok (.enter gf args) w)
  (hcall:∀w Y',St w0 S w h Y'->Cn P gf (fs++vs++cs) w (Rc w))
  (hk:∀v w w' Y',St w0 S w h Y'->Ex [] w w'->Rc w v w'->∃h',St w0 S w' h' Y'/\K v h'):jq P w0 S n h ops i l d K:=
 ⟨_,ho,rfl,rfl,rfl,hd,.inl ⟨hw,λt w Ds Y' hF hS=>.inr ⟨gf,(fs++vs++cs).toArray,λu w'=>Ex [] w w'/\Rc w u w',by
  have e1:=lR (P:=P) (ty:=ty) (ts:=ts) (Ds:=Ds) (w:=w) hF hc hx;simp only[execOp,Sem.run_bind,e1,Result.andThen_ok,invoke,hcf];simp,hcall w Y' hS,λu w' ⟨he,hu⟩=>hk u w w' Y' hS he hu⟩⟩⟩
end
theorem jq.call{i d:Nat}{ty:ax}{pos:aA}{aft:ak}{g:Option (Nat×Bool)}{K:aC->Hl->Prop}{az:aa}{ts:ab}{cal:au}{gf:ay}{vs:ai}(Rc:aB->aC->aB->Prop)(ho:ops[i]?=some ⟨some d,.call ⟨.value cal,az,ts⟩,ty,pos,aft,g⟩)(hw:fE ops l g=true)
  (hc:fW l cal=some (.func (.func gf) #[] #[]))(hx:iW l az.toList=some vs)(hd:Nat.blt d n=true)(hcf:∀args w,(callFunc gf args).run P w=.ok (.enter gf args) w)
  (hcall:∀w Y',St w0 S w h Y'->Cn P gf vs w (Rc w))
  (hk:∀v w w' Y',St w0 S w h Y'->Ex [] w w'->Rc w v w'->∃h',St w0 S w' h' Y'/\K v h'):jq P w0 S n h ops i l d K:=
 .vM (fs:=[]) (cs:=[]) Rc ho hw hc hx hd hcf (λw Y' hS=>by rw[eh,dW];exact hcall w Y' hS) hk
def Ew(ops:aj)(m:Nat):aq->Bool
 |[]=>true
 |x::_=>(List.range m).all (λi=>(below ops x).contains i && !(Nat.beq i x))
def Tl(P:av)(r:ah)(f:ay)(R:aC->aB->Prop)(w0:aB)(S:aq)(Y:List (Nat×Obj))(n:Nat)(k:al)(ops:aj)(m:Nat)(hb:Hl):Nat->aq->Fl->Hl->Prop
 |0,_,_,_=>False
 |q+1,TL,l,h=>
  (∃rest,forced ops (TL++List.range m) rest=true/\Ew ops m rest=true/\ff P r f R w0 S Y n (.inRegion ops rest::k) l h)\/
  (fL ops (TL++List.range m)≠[]/\∀i∈fL ops (TL++List.range m),∃d,jq P w0 S n h ops i l d (λv h'=>hb.Sublist h'/\Tl P r f R w0 S Y n k ops m hb q (i::TL) ((d,v)::l) h'))
def lg(P:av)(w0:aB)(S:aq)(n:Nat)(ops:aj)(h:Hl)(F:Fl->Prop)(i m:Nat)(l:Fl):Prop:=
 ∀t,pJ n t l->Tb P w0 S n h ops (λt'=>∃l',pJ n t' l'/\F l') i m t
theorem lg.nil{F:Fl->Prop}{i:Nat}(hg:F l):lg P w0 S n ops h F i 0 l:=λ_ hF=>⟨l,hF,hg⟩
theorem lg.v{F:Fl->Prop}{i m d:Nat}{v:aC}(hv:fh P w0 S n h ops i l d v)(hg:lg P w0 S n ops h F (i+1) m ((d,v)::l)):lg P w0 S n ops h F i (m+1) l:=by
 intro t hF;obtain⟨o,ho,hw,hdst,hnd,hd,hr⟩:=hv
 exact⟨d,v,⟨o,ho,hdst,by simpa[eT]using hd,hnd,.inl ⟨km hF hw,λw Ds Y' hS=>by
  obtain⟨nx,h1,rfl⟩:=hr t w Ds Y' hF hS;exact .inl h1⟩⟩,hg _ (hF.put v hd)⟩
theorem A3{x:Nat}{listed:aq}(hc:∀j∈listed,∀e∈iX ops j,e∈listed)(hx:∀e∈iX ops x,e∈listed):∀{j:Nat} {acc:aq},(∀z∈acc,z=x\/z∈listed)->∀y∈reach ops j acc,y=x\/y∈listed
 |0,_,ha,y,hy=>ha y hy
 |j+1,acc,ha,y,hy=>by
  rw[reach]at hy;refine A3 hc hx (acc:=cond (acc.any λz=>(iX ops z).contains j) (j::acc) acc) (λz hz=>?_) y hy;cases hb:acc.any λz=>(iX ops z).contains j with
  |false=>rw[hb]at hz;exact ha z hz
  |true=>
   rw[hb]at hz;rcases eH.1 hz with rfl|hz;obtain⟨u,hu,hd⟩:=dJ.1 hb;have hd:=cx.1 hd;rcases ha u hu with rfl|h;exact .inr (hx _ hd);exact .inr (hc u h _ hd);exact ha z hz
theorem A4{x:Nat}{listed:aq}(hc:∀j∈listed,∀e∈iX ops j,e∈listed)(hx:∀e∈iX ops x,e∈listed):∀y∈below ops x,y=x\/y∈listed:=
 A3 hc hx (λ_ hz=>.inl (dn.1 hz))
theorem iv{listed:aq}{i:Nat}:i∈fL ops listed↔i<ops.size/\i∉listed/\∀e∈iX ops i,e∈listed:=by
 simp[fL]
structure Bs (ops:aj) (m:Nat):Prop where
  size:m<=ops.size
  lt:∀i,i<ops.size->∀j∈iX ops i,j<i
  Nb:∀i,i<m->∀o,ops[i]?=some o->mq o.op=true
  inj:∀i j d,i<m->j<ops.size->ik ops i=some d->ik ops j=some d->i=j
  S6:∀i,i<m->∀o,ops[i]?=some o->∀s∈nL ops o,∀j,j<ops.size->ik ops j=some s->j∈iX ops i\/(m<=j/\i∈below ops j)
  VP:∀i,m<=i->∀o,ops[i]?=some o->∀s∈nL ops o,∀j,j<m->ik ops j=some s->j∈iX ops i
theorem uR{m:Nat}(hc:BD ops l m=true):Bs ops m:=by
 simp only[BD,dG,dI,eD,List.mem_range'_1,eT,Nat.ble_eq]at hc;obtain⟨⟨⟨hsz,hlt⟩,hr⟩,ht⟩:=hc;have hat:∀i,i<m->∃o d,ops[i]?=some o/\o.dst=some d/\mq o.op=true/\(∀j,j<ops.size->j=i\/ik ops j≠some d)/\(∀s∈nL ops o,∀j,j<ops.size->(ik ops j≠some s\/j∈iX ops i)\/(m<=j/\i∈below ops j)):=by
  intro i hi;have:=hr i hi;cases ho:ops[i]? with
  |none=>simp[ho]at this
  |some o=>
   cases hd:o.dst with
   |none=>simp[ho,hd]at this
   |some d=>
    simp only[ho,hd,dG,dI,eD,dV,Nat.beq_eq,dw,c9,cx,Nat.ble_eq]at this;exact⟨o,d,rfl,hd,this.1,this.2.1,this.2.2⟩
 refine⟨hsz,hlt,λi hi o ho=>?_,λi j d hi hj h1 h2=>?_,λi hi o ho s hs j hj hd=>?_,λi hi o ho s hs j hj hd=>?_⟩;obtain⟨o',d,h1,_,h3,_⟩:=hat i hi;rw[ho]at h1;cases h1;exact h3;obtain⟨o,d',e1,e2,_,e5,_⟩:=hat i hi;have:d'=d:=by simp[ik,e1,e2]at h1;exact h1
 subst this;rcases e5 j hj with e|e;exact e.symm;exact absurd h2 e;obtain⟨o',d,e1,_,_,_,e6⟩:=hat i hi;rw[ho]at e1;cases e1;rcases e6 s hs j hj with(e|e)|e;exact absurd hd e;exact .inl e;exact .inr e;have hiN:=(aX.1 ho).1;have:=ht i ⟨hi,aH⟩;simp only[ho,dI,dV,dw,c9,cx,eD]at this;rcases this s hs j hj with e|e;exact absurd hd e;exact e
theorem u9{a b:aq}(h:∀j,j∈a↔j∈b):fL ops a=fL ops b:=by
 have:∀j,a.contains j=b.contains j:=λj=>by rw[dU];simp[h j]
 unfold fL;simp only[this]
theorem Bh:∀{rest listed:aq} {fuel τ:Nat} {arr:Array Bool},forced ops listed rest=true->arr.size=ops.size->(∀j,arr.getD j false=listed.contains j)->rest.length<=fuel->
  Region.linearise.go .any ops fuel τ arr []=rest
 |[],listed,fuel,τ,arr,hf,hs,h,_=>by
  have h0:fL ops listed=[]:=by simpa[forced]using hf
  cases fuel with
  |zero=>rfl
  |succ fuel=>
   simp only[Region.linearise.go];change (match (Region.ready .any ops arr)[_%(Region.ready .any ops arr).length]? with
    |some i=>_
    |none=>[].reverse)=[];rw[pb hs h,h0];rfl
 |x::rest,listed,0,τ,arr,hf,hs,h,hl=>by simp at hl
 |x::rest,listed,fuel+1,τ,arr,hf,hs,h,hl=>by
  simp only[forced,dG,eU]at hf;simp only[Region.linearise.go];change (match (Region.ready .any ops arr)[_%(Region.ready .any ops arr).length]? with
   |some i=>Region.linearise.go .any ops fuel (τ / (Region.ready .any ops arr).length) (arr.setIfInBounds i true) [i]
   |none=>[].reverse)=_;rw[pb hs h,hf.1];simp only[cC,Nat.mod_one,List.getElem?_cons_zero];rw[linearise_go_acc,bX,cH];have hx:x∈fL ops listed:=by rw[hf.1];simp
  have hxl:=(iv.1 hx).1;rw[Bh (listed:=x::listed) hf.2 (by simpa using hs) (λj=>?_) (by simpa using hl)];rw[gD aH,h j,List.contains_cons];split;rename_i e;subst e;simp;rename_i e;rw[eB (Ne.symm e)];rfl
theorem zr:∀{rest listed:aq},forced ops listed rest=true->rest.length<=(List.range ops.size).countP (λj=>!listed.contains j)
 |[],_,_=>aG
 |x::rest,listed,hf=>by
  simp only[forced,dG,eU]at hf;have hx:x∈fL ops listed:=by rw[hf.1];simp
  obtain⟨h1,h2,_⟩:=iv.1 hx;have ih:=zr hf.2;have:=tK (l:=List.range ops.size) (p:=λj=>!(x::listed).contains j) (q:=λj=>!listed.contains j) (λy _ hy=>by simp at hy⊢;exact hy.2) ⟨x,by simpa using h1,by simpa using h2,by simp⟩;simp only[dM];omega
theorem r9.Xb{i d:Nat}{v:aC}{t:af}{rest:aq}{w:aB}{Ds:aq}{hb:Hl}(ho:r9 P w0 S n hb ops i t d v)(hs:hb.Sublist h)(hS:St w0 S w h (uy Ds++Y))
  (hk:∀w',St w0 S w' h (uy Ds++Y)->ki P r f R (.inRegion ops rest::k) (t.setIfInBounds d v) (Ds.map mark) w'):ki P r f R (.inRegion ops (i::rest)::k) t (Ds.map mark) w:=by
 obtain⟨o,h1,h2,h3,h4,h5⟩:=ho;rcases h5 with⟨a,b⟩|⟨a,rfl⟩;rcases b w Ds _ (hS.js hs)with hb|⟨gf,args,hb,hcall⟩;refine ki.op h1 a (jc h4) hb (.inl rfl) ?_;rw[h2];exact hk w hS;refine ki.call h1 a (jc h4) hb hcall (λu w2 hu=>?_);obtain⟨he,rfl⟩:=hu;rw[h2];exact hk w2 (hS.later he);refine om h1 a ?_;rw[h2];exact hk w hS
theorem rh{o:Oper}{t t':af}(hs:t'.size=t.size)(he:∀s∈nL ops o,t'.getD s undef=t.getD s undef):Region.wanted o (yielded ops t')=Region.wanted o (yielded ops t):=by
 unfold Region.wanted;cases hg:o.guard with
 |none=>rfl
 |some p=>
  obtain⟨j,want⟩:=p;have:yielded ops t' j=yielded ops t j:=by
   unfold yielded;cases hd:(ops[j]?).bind (·.dst)with
   |none=>rfl
   |some dj=>
    simp only[Option.bind_some];rw[pV hs (he dj (by simp[nL,hg,ik,hd]))]
  simp only[this]
theorem jq.go{i d:Nat}{K:aC->Hl->Prop}{T t:af}{rest:aq}{w:aB}{Ds:aq}(hm:jq P w0 S n h ops i l d K)(hF:pJ n T l)(hs:t.size=T.size)
  (he:∀o,ops[i]?=some o->∀s∈nL ops o,t.getD s undef=T.getD s undef)(hS:St w0 S w h (uy Ds++Y))
  (hk:∀v w' h',K v h'->St w0 S w' h' (uy Ds++Y)->ki P r f R (.inRegion ops rest::k) (t.setIfInBounds d v) (Ds.map mark) w'):ki P r f R (.inRegion ops (i::rest)::k) t (Ds.map mark) w:=by
 obtain⟨o,ho,hdst,hnd,hsel,hd,hr⟩:=hm;have hw:=rh (ops:=ops) (o:=o) hs (he o ho);rcases hr with⟨hwant,hr⟩|⟨hskip,hK⟩;have hexec:execOp (Act.eval ⟨t,Ds.map mark⟩) o=execOp (Act.eval ⟨T,Ds.map mark⟩) o:=execOp_congr (ρ':=Act.eval ⟨T,Ds.map mark⟩) o (λcs bb e=>by rw[e]at hsel;cases hsel) (λx hx=>by
  cases x with
  |tmp s=>exact he o ho s (by
    simp only[nL,ed];exact .inr (dk.2 ⟨.tmp s,by simpa using hx,rfl⟩))
  |const v=>rfl
  |global g=>rfl
  |func g=>rfl);rcases hr T w Ds _ hF hS with⟨v,w',h',h1,h2,h3⟩|⟨gf,args,Rc,h1,h2,h3⟩;refine ki.op ho (hw.trans (km hF hwant)) (jc hnd) (by rw[hexec];exact h1) (.inl rfl) ?_;rw[hdst];exact hk v w' h' h3 h2;refine ki.call ho (hw.trans (km hF hwant)) (jc hnd) (by rw[hexec];exact h1) h2 (λu w2 hu=>?_);obtain⟨h',h4,h5⟩:=h3 u w2 hu;rw[hdst];exact hk u w2 h' h5 h4;refine om ho (hw.trans (uX hF hskip)) ?_;rw[hdst];exact hk undef w h hK hS
theorem AL{m:Nat}(hf:Bs ops m){D:Nat->Nat}{V:Nat->aC}{t0:af}{hB:Hl}(ht0:t0.size=n)
  (hout:∀j,j<m->r9 P w0 S n hB ops j (CW D V t0 j) (D j) (V j)):
  ∀(fuel τ:Nat) (arr:Array Bool) (TL:aq) (q:Nat) (l:Fl) (h:Hl) (t T:af),arr.size=ops.size->(∀j,arr.getD j false=true->∀e∈iX ops j,arr.getD e false=true)->
   (∀j,m<=j->(arr.getD j false=true↔j∈TL))->(∀j∈TL,m<=j)->pJ n T l->Tl P r f R w0 S Y n k ops m hB q TL l h->hB.Sublist h->t.size=n->
   (∀j,j<m->T.getD (D j) undef=V j)->(∀s,(∀j,j<m->arr.getD j false=false->D j≠s)->t.getD s undef=T.getD s undef)->(∀s,(∀j,j<m->D j≠s)->(∀j,m<=j->j<ops.size->ik ops j=some s->arr.getD j false=false)->T.getD s undef=t0.getD s undef)->
   (List.range ops.size).countP (λj=>!arr.getD j false)<=fuel->∀w Ds,St w0 S w h (uy Ds++Y)->ki P r f R (.inRegion ops (Region.linearise.go .any ops fuel τ arr [])::k) t (Ds.map mark) w:=by
 have hDst:∀j,j<m->ik ops j=some (D j):=λj hj=>by
  obtain⟨o,h1,h2,_⟩:=hout j hj;simp[ik,h1,h2]
 have hDlt:∀j,j<m->D j<t0.size:=λj hj=>by
  obtain⟨o,_,_,h3,_⟩:=hout j hj;omega
 have hmN:=hf.size;have hDinj:∀i j,i<m->j<m->D i=D j->i=j:=λi j hi hj e=>hf.inj i j (D i) hi aH (hDst i hi) (by rw[hDst j hj,e]);have hsw:∀{fuel τ:Nat} {arr:Array Bool} {TL rest:aq} {l:Fl} {h:Hl} {t T:af},arr.size=ops.size->(∀j,m<=j->(arr.getD j false=true↔j∈TL))->(∀j∈TL,m<=j)->pJ n T l->t.size=n->
   (∀s,(∀j,j<m->arr.getD j false=false->D j≠s)->t.getD s undef=T.getD s undef)->(∀j,j<m->arr.getD j false=true)->forced ops (TL++List.range m) rest=true->
   ff P r f R w0 S Y n (.inRegion ops rest::k) l h->(List.range ops.size).countP (λj=>!arr.getD j false)<=fuel->∀w Ds,St w0 S w h (uy Ds++Y)->ki P r f R (.inRegion ops (Region.linearise.go .any ops fuel τ arr [])::k) t (Ds.map mark) w:=by
  intro fuel τ arr TL rest l h t T hls hTL hTm hF hts hb hall hfo hg hc w Ds hS;have hcont:∀j,arr.getD j false=(TL++List.range m).contains j:=λj=>by
   rw[dU,cx,ed,eD];rcases eN j m with hj|hj;exact⟨λ_=>.inr hj,λ_=>hall j hj⟩;exact⟨λx=>.inl ((hTL j hj).1 x),λx=>(hTL j hj).2 (by rcases x with x|x;exact x;omega)⟩
  have hlen:=zr hfo;have e1:(λj=>!(TL++List.range m).contains j)=λj=>!arr.getD j false:=by funext j;rw[hcont]
  rw[e1]at hlen;rw[Bh hfo hls hcont aH];have ht:t=T:=Array.ext_getElem? (λs=>pV (by rw[hts,hF.1]) (hb s (λj hj hu=>by rw[hall j hj]at hu;cases hu)));rw[ht];exact hg T w Ds hF hS
 intro fuel
 induction fuel with
 |zero=>
  intro τ arr TL q l h t T hls hcl hTL hTm hF htl hsub hts ha hb hcb hc w Ds hS;have hl:∀j,j<ops.size->arr.getD j false=true:=λj hj=>by
   have:=List.countP_eq_zero.1 (Nat.le_zero.1 hc) j (by simpa using hj);simpa using this
  cases q with
  |zero=>exact htl.elim
  |succ q=>
   rcases htl with⟨rest,h1,_,h3⟩|⟨hne,_⟩;exact hsw hls hTL hTm hF hts hb (λj hj=>hl j aH) h1 h3 hc w Ds hS;exfalso;apply hne;rw[List.eq_nil_iff_forall_not_mem];intro j hj;obtain⟨a1,a2,_⟩:=iv.1 hj;apply a2;rw[ed,eD];rcases eN j m with hj|hj;exact .inr hj;exact .inl ((hTL j hj).1 (hl j a1))
 |succ fuel ih=>
  intro τ arr TL q l h t T hls hcl hTL hTm hF htl hsub hts ha hb hcb hc w Ds hS;have hready:(∃j,j<ops.size/\arr.getD j false=false)->Region.ready .any ops arr≠[]:=by
   rintro ⟨j,hj,hu⟩;have key:∀q,q<ops.size->arr.getD q false=false->Region.ready .any ops arr≠[]:=by
    intro q
    induction q using Nat.strongRecOn with
    |_ q ihq=>
     intro hq hqu;by_cases hb:∃e∈iX ops q,arr.getD e false=false;obtain⟨e,he,heu⟩:=hb;have hlt:=hf.lt q hq e he;exact ihq e hlt aH heu;obtain⟨o,ho⟩:∃o,ops[q]?=some o:=⟨ops[q],bh hq⟩;have:q∈Region.ready .any ops arr:=by
      rw[mem_ready];refine⟨by rw[vz aH];exact hqu,o,ho,λe he hbd=>?_⟩;cases hx:arr.getD e.on false with
      |true=>rfl
      |false=>exact absurd ⟨e.on,(vr ho).2 ⟨e,he,hbd,rfl⟩,hx⟩ hb
     exact List.ne_nil_of_mem this
   exact key j hj hu
  have hrT:∀i,m<=i->i<ops.size->arr.getD i false=false->(∀e∈iX ops i,arr.getD e false=true)->i∈fL ops (TL++List.range m):=λi him hiN hu hd=>by
   rw[iv];refine⟨hiN,λhx=>?_,λe he=>?_⟩;rw[ed,eD]at hx;rcases hx with hx|hx;rw[(hTL i him).2 hx]at hu;cases hu;omega;rw[ed,eD];rcases eN e m with hj|hj;exact .inr hj;exact .inl ((hTL e hj).1 (hd e he))
  by_cases hdone:∃rest,forced ops (TL++List.range m) rest=true/\ff P r f R w0 S Y n (.inRegion ops rest::k) l h/\∀j,j<m->arr.getD j false=true;obtain⟨rest,h1,h2,h3⟩:=hdone;exact hsw hls hTL hTm hF hts hb h3 h1 h2 hc w Ds hS;simp only[Region.linearise.go];change ki P r f R (.inRegion ops (match (Region.ready .any ops arr)[τ%(Region.ready .any ops arr).length]? with
   |some i=>Region.linearise.go .any ops fuel (τ / (Region.ready .any ops arr).length) (arr.setIfInBounds i true) [i]
   |none=>[].reverse)::k) t (Ds.map mark) w;cases hi:(Region.ready .any ops arr)[τ%(Region.ready .any ops arr).length]? with
  |none=>
   exfalso;have hnil:Region.ready .any ops arr=[]:=by
    cases hr:Region.ready .any ops arr with
    |nil=>rfl
    |cons x xs=>
     rw[hr]at hi;have hlt:τ%(x::xs).length<(x::xs).length:=Nat.mod_lt _ aL;rw[bJ hlt]at hi;cases hi
   have hl:∀j,j<ops.size->arr.getD j false=true:=λj hj=>by
    cases hx:arr.getD j false with
    |true=>rfl
    |false=>exact absurd hnil (hready ⟨j,hj,hx⟩)
   cases q with
   |zero=>exact htl.elim
   |succ q=>
    rcases htl with⟨rest,h1,_,h3⟩|⟨hne,_⟩;exact hdone ⟨rest,h1,h3,λj hj=>hl j aH⟩;apply hne;rw[List.eq_nil_iff_forall_not_mem];intro j hj;obtain⟨a1,a2,_⟩:=iv.1 hj;apply a2;rw[ed,eD];rcases eN j m with hj|hj;exact .inr hj;exact .inl ((hTL j hj).1 (hl j a1))
  |some i=>
   have hmem:=cP hi;rw[mem_ready]at hmem;obtain⟨hu,o,ho,hdep⟩:=hmem;have hiN:i<ops.size:=(aX.1 ho).1;rw[vz aH]at hu;simp only[];rw[linearise_go_acc,bX,cH];have hdl:∀e∈iX ops i,arr.getD e false=true:=λe he=>by
    obtain⟨e',he',hb,rfl⟩:=(vr ho).1 he;exact hdep e' he' hb
   have hcl':∀j,(arr.setIfInBounds i true).getD j false=true->∀e∈iX ops j,(arr.setIfInBounds i true).getD e false=true:=by
    intro j hj e he;rw[gD aH]at hj⊢;split;rfl;split at hj;rename_i hij;subst hij;exact hdl e he;exact hcl j hj e he
   have hcnt:=count_set (listed:=arr) hls hiN hu;by_cases him:i<m;have hgo:=hout i him;have hDi:D i<t.size:=by rw[hts,<-ht0];exact hDlt i him
   have heq:r9 P w0 S n hB ops i t (D i) (V i):=by
    refine hgo.congr (hf.Nb i him) (by rw[hts,so,ht0]) (λo' ho' s hs=>?_);obtain⟨g1,g2⟩:=tq hDlt hDinj i aH;by_cases hx:∃j,j<m/\D j=s;obtain⟨j,hj,rfl⟩:=hx;have hjd:=(hf.S6 i him o' ho' (D j) hs j aH (hDst j hj)).resolve_right (λx=>aH);rw[g1 j (hf.lt i hiN j hjd),hb (D j) (λj' hj' hu' e=>by
     have:=hDinj j' j hj' hj e;subst this;rw[hdl j' hjd]at hu';cases hu'),ha j hj];rw[hb s (λj hj _ e=>hx ⟨j,hj,e⟩),g2 s (λj hj e=>hx ⟨j,aH,e⟩)];refine hcb s (λj hj e=>hx ⟨j,hj,e⟩) (λj hmj hj hd=>?_);rcases hf.S6 i him o' ho' s hs j hj hd with hjd|⟨_,hjb⟩;have hjl:=hf.lt i hiN j hjd;omega;cases hja:arr.getD j false with
    |false=>rfl
    |true=>
     exfalso;have:=A4 (ops:=ops) (listed:=(List.range ops.size).filter (λj=>arr.getD j false)) (x:=j) (λj hj e he=>by
      rw[eg,eD]at hj⊢;have hlt:=hf.lt j hj.1 e he;exact⟨aH,hcl j hj.2 e he⟩) (λe he=>by
      rw[eg,eD];have hlt:=hf.lt j hj e he;exact⟨aH,hcl j hja e he⟩) i hjb;rcases this with h|h;omega;rw[(eg.1 h).2]at hu;cases hu
   refine heq.Xb hsub hS (λw hS=>?_);refine ih _ _ TL q l h _ T (by simpa using hls) hcl' (λj hj=>?_) hTm hF htl hsub (by simpa using hts) ha (λs hs=>?_) (λs hs1 hs2=>hcb s hs1 (λj hj hjN hd=>by
    have:=hs2 j hj hjN hd;rwa[gD aH,if_neg aH]at this)) aH w Ds hS;rw[gD aH,if_neg aH];exact hTL j hj;rw[kM hDi];split;rename_i e;subst e;exact(ha i him).symm;rename_i e;refine hb s (λj hj hu'=>?_);by_cases e2:i=j;subst e2;exact e;exact hs j hj (by rw[gD aH,if_neg e2];exact hu')
   -- of the tail
   have him':m<=i:=aH;have hir:=hrT i him' hiN hu hdl;cases q with
   |zero=>exact htl.elim
   |succ q=>
    rcases htl with⟨rest,h1,hbel,h3⟩|⟨_,hop⟩;exfalso;cases rest with
    |nil=>
     have h0:fL ops (TL++List.range m)=[]:=by simpa[forced]using h1
     rw[h0]at hir;cases hir
    |cons x rest=>
     have hx:fL ops (TL++List.range m)=[x]:=by
      simp only[forced,dG,eU]at h1;exact h1.1
     rw[hx]at hir;obtain rfl:=dn.1 hir;refine hdone ⟨i::rest,h1,h3,λj hj=>?_⟩;have hmem:j∈below ops i/\j≠i:=by
      have:=dI.1 hbel j (by simpa using hj);rw[dG,cx,dw]at this;exact⟨this.1,λe=>by rw[e,Nat.beq_refl]at this;cases this.2⟩
     have:=A4 (ops:=ops) (listed:=(List.range ops.size).filter (λj=>arr.getD j false)) (x:=i) (λj hj e he=>by
      rw[eg,eD]at hj⊢;have hlt:=hf.lt j hj.1 e he;exact⟨aH,hcl j hj.2 e he⟩) (λe he=>by
      rw[eg,eD];have hlt:=hf.lt i hiN e he;exact⟨aH,hdl e he⟩) j hmem.1;exact(eg.1 (this.resolve_left hmem.2)).2
    obtain⟨d,hmop⟩:=hop i hir;have hdi:ik ops i=some d:=by
     obtain⟨o',e1,e2,_⟩:=hmop;simp[ik,e1,e2]
    have hdn:d<n:=by
     obtain⟨o',_,_,_,_,hd,_⟩:=hmop;simpa[eT]using hd
    refine hmop.go hF (by rw[hts,hF.1]) (λo' ho' s hs=>?_) hS (λv w' h' hK hS'=>?_);refine hb s (λj hj hu' e=>?_);subst e;have hjd:=hf.VP i him' o' ho' (D j) hs j hj (hDst j hj);rw[hdl j hjd]at hu';cases hu';obtain⟨hsub',htl'⟩:=hK;refine ih _ _ (i::TL) q ((d,v)::l) h' _ (T.setIfInBounds d v) (by simpa using hls) hcl' (λj hj=>?_) (λj hj=>?_) (hF.put v (by simpa[eT]using hdn)) htl' hsub' (by simpa using hts) (λj hj=>?_) (λs hs=>?_) (λs hs1 hs2=>?_) aH w' Ds hS';rw[gD aH,eH];split;rename_i e;subst e;simp;rename_i e;rw[hTL j hj];exact⟨.inr,λx=>x.resolve_left (Ne.symm e)⟩;rcases eH.1 hj with rfl|hj;exact him';exact hTm j hj;rw[kM (by rw[hF.1];exact hdn)];split;rename_i e;have:=hf.inj j i d hj hiN (by rw[hDst j hj,e]) hdi;omega;exact ha j hj;rw[kM (by rw[hts];exact hdn),kM (by rw[hF.1];exact hdn)];split;rfl;refine hb s (λj hj hu'=>hs j hj ?_);rw[gD aH,if_neg aH];exact hu';rw[kM (by rw[hF.1];exact hdn)];split;rename_i e;have:=hs2 i him' hiN (by rw[hdi,e]);rw[gD aH,if_pos rfl]at this;cases this;refine hcb s hs1 (λj hj hjN hd=>?_);have:=hs2 j hj hjN hd;rw[gD aH]at this;split at this;cases this;exact this
theorem ff.Qp{id:Nat}(m q:Nat)(hmix:P.follows .mixedOrders=true)(hc:BD ops l m=true)(hg:lg P w0 S n ops h (λl'=>Tl P r f R w0 S Y n k ops m h q [] l' h) 0 m l):ff P r f R w0 S Y n (.code (.region id ops true)::k) l h:=by
 intro t w Ds hF hS;have hf:=uR hc;refine .nW (λτ=>?_);obtain⟨D,V,hout,l',hF',htl⟩:=(hg t hF).seq;simp only[eP]at hout;simp only[Region.schedule,hmix,eJ,eY,Region.linearise];have hDst:∀j,j<m->ik ops j=some (D j):=λj hj=>by
  obtain⟨o,h1,h2,_⟩:=hout j hj;simp[ik,h1,h2]
 have hDlt:∀j,j<m->D j<t.size:=λj hj=>by
  obtain⟨o,_,_,h3,_⟩:=hout j hj;rw[hF.1];exact h3
 have hmN:=hf.size;have hDinj:∀i j,i<m->j<m->D i=D j->i=j:=λi j hi hj e=>hf.inj i j (D i) hi aH (hDst i hi) (by rw[hDst j hj,e]);obtain⟨g1,g2⟩:=tq hDlt hDinj m (eR _);have harr:∀j,(Array.replicate ops.size false).getD j false=false:=λj=>by
  simp[bH];split<;>simp
 refine AL hf hF.1 hout ops.size τ _ [] q l' h t _ aL (λj hj=>?_) (λj _=>?_) aL hF' htl aD hF.1 g1 (λs hs=>?_) (λs hs _=>?_) ?_ _ Ds hS.drew;rw[harr]at hj;cases hj;rw[harr];simp;rw[g2 s (λj hj=>hs j hj (harr j))];exact g2 s (λj hj e=>hs j hj e);exact eM (cy) aL
theorem Tl.sw{m q:Nat}{hb:Hl}{TL:aq}(rest:aq)(h1:forced ops (TL++List.range m) rest=true)(h2:Ew ops m rest=true)
  (hg:ff P r f R w0 S Y n (.inRegion ops rest::k) l h):Tl P r f R w0 S Y n k ops m hb (q+1) TL l h:=.inl ⟨rest,h1,h2,hg⟩
theorem Tl.one{m q i d:Nat}{hb:Hl}{TL:aq}(h1:fL ops (TL++List.range m)=[i])(hm:jq P w0 S n h ops i l d (λv h'=>hb.Sublist h'/\Tl P r f R w0 S Y n k ops m hb q (i::TL) ((d,v)::l) h')):Tl P r f R w0 S Y n k ops m hb (q+1) TL l h:=
 .inr ⟨by rw[h1];simp,λj hj=>by rw[h1]at hj;obtain rfl:=dn.1 hj;exact⟨d,hm⟩⟩
theorem Tl.two{m q i d i2 d2:Nat}{hb:Hl}{TL:aq}(h1:fL ops (TL++List.range m)=[i,i2])(hm:jq P w0 S n h ops i l d (λv h'=>hb.Sublist h'/\Tl P r f R w0 S Y n k ops m hb q (i::TL) ((d,v)::l) h'))
  (hm2:jq P w0 S n h ops i2 l d2 (λv h'=>hb.Sublist h'/\Tl P r f R w0 S Y n k ops m hb q (i2::TL) ((d2,v)::l) h')):Tl P r f R w0 S Y n k ops m hb (q+1) TL l h:=
 .inr ⟨by rw[h1];simp,λj hj=>by
  rw[h1]at hj;rcases eH.1 hj with rfl|hj;exact⟨d,hm⟩;obtain rfl:=dn.1 hj;exact⟨d2,hm2⟩⟩
end
theorem ff.TA{P:av}{r:ah}{f:ay}{R:aC->aB->Prop}{w0:aB}{S:aq}{Y:List (Nat×Obj)}{n:Nat}{k:al}{l l':Fl}{h h':Hl}(hg:ff P r f R w0 S Y n k l' h')(hl:nN l' l)(hh:∀w Y',St w0 S w h Y'->St w0 S w h' Y'):ff P r f R w0 S Y n k l h:=
 λt w Ds hF hS=>hg t w Ds (hF.sub hl) (hh w _ hS)
theorem ig{P:av}{r:ah}{f:ay}{R:aC->aB->Prop}{w0:aB}{S:aq}{Y:List (Nat×Obj)}{n:Nat}{k:al}{l:Fl}{h:Hl}{ops:aj}{id:Nat}{dr:Bool}{α:Type}(restc:aq)(lf:α->Fl)(hf:α->Hl)
  (hK:∀a,ff P r f R w0 S Y n (.inRegion ops restc::k) (lf a) (hf a))
  (hg:(∀a l h,nN (lf a) l->(∀w Y',St w0 S w h Y'->St w0 S w (hf a) Y')->ff P r f R w0 S Y n (.inRegion ops restc::k) l h)->ff P r f R w0 S Y n (.code (.region id ops dr)::k) l h):ff P r f R w0 S Y n (.code (.region id ops dr)::k) l h:=
 hg (λa _ _ hl hh=>(hK a).TA hl hh)
section
variable{P:av}{r:ah}{f:ay}{R:aC->aB->Prop}{w0:aB}{S:aq}{Y:List (Nat×Obj)}{n:Nat}{k:al}{l:Fl}{h:Hl}{ops:aj}
end
section
variable{P:av}{r:ah}{f:ay}{R:aC->aB->Prop}{w0:aB}{S:aq}{Y:List (Nat×Obj)}{n:Nat}{k:al}{l:Fl}{h:Hl}{ops:aj}
structure SL (ops:aj) (c:Nat):Prop where
  size:c<ops.size
  lt:∀i,i<ops.size->∀j∈iX ops i,j<i
  Nb:∀i,i<=c->∀o,ops[i]?=some o->mq o.op=true
  inj:∀i j d,i<=c->j<=c->ik ops i=some d->ik ops j=some d->i=j
  S6:∀i,i<=c->∀o,ops[i]?=some o->∀s∈nL ops o,∀j,j<=c->ik ops j=some s->j∈iX ops i
  late:∀i,c<i->i<ops.size->(∀j,j<=c->j∈iX ops i)\/∃j∈iX ops i,c<j
  VM:forced ops (List.range (c+1)) (List.range' (c+1) (ops.size - (c+1)))=true
theorem ff.sP{id:Nat}(m q:Nat)(hb:Hl)(hsub:hb.Sublist h)(hmix:P.follows .mixedOrders=true)(hc:BD ops l m=true)(hg:lg P w0 S n ops hb (λl'=>Tl P r f R w0 S Y n k ops m hb q [] l' h) 0 m l):ff P r f R w0 S Y n (.code (.region id ops true)::k) l h:=by
 intro t w Ds hF hS;have hf:=uR hc;refine .nW (λτ=>?_);obtain⟨D,V,hout,l',hF',htl⟩:=(hg t hF).seq;simp only[eP]at hout;simp only[Region.schedule,hmix,eJ,eY,Region.linearise];have hDst:∀j,j<m->ik ops j=some (D j):=λj hj=>by
  obtain⟨o,h1,h2,_⟩:=hout j hj;simp[ik,h1,h2]
 have hDlt:∀j,j<m->D j<t.size:=λj hj=>by
  obtain⟨o,_,_,h3,_⟩:=hout j hj;rw[hF.1];exact h3
 have hmN:=hf.size;have hDinj:∀i j,i<m->j<m->D i=D j->i=j:=λi j hi hj e=>hf.inj i j (D i) hi aH (hDst i hi) (by rw[hDst j hj,e]);obtain⟨g1,g2⟩:=tq hDlt hDinj m (eR _);have harr:∀j,(Array.replicate ops.size false).getD j false=false:=λj=>by
  simp[bH];split<;>simp
 refine AL hf hF.1 hout ops.size τ _ [] q l' h t _ aL (λj hj=>?_) (λj _=>?_) aL hF' htl hsub hF.1 g1 (λs hs=>?_) (λs hs _=>?_) ?_ _ Ds hS.drew;rw[harr]at hj;cases hj;rw[harr];simp;rw[g2 s (λj hj=>hs j hj (harr j))];exact g2 s (λj hj e=>hs j hj e);exact eM (cy) aL
theorem jq.app{i d:Nat}{ty:ax}{pos:aA}{aft:ak}{g:Option (Nat×Bool)}{K:aC->Hl->Prop}{t e:ax}{x y:au}{inf:TypeInfo}{z:aC}{q:ah}{xs sp:ai}{nx cap:Nat}{bn m c:Nat}{news spn:ai}{en:ax}{frn:Nat×Nat}(size:Nat)
  (ho:ops[i]?=some ⟨some d,.call ⟨.builtin .append,#[x,y],#[t,t]⟩,ty,pos,aft,g⟩)(hw:fE ops l g=true)(hx:fW l x=some (gx q nx cap))(hy:fW l y=some (.slice (aR bn) m c))(hd:Nat.blt d n=true)
  (hu:P.underlying t=some (.slice e))(hi:P.info? e=some inf)(hz:inf.zero=some z)(hsz:inf.size=size)(hz1:z.cells.size=size)
  (hq:q=none->nx=0/\cap=0)(j:Nat)(hj:h[j]?=some (q,.cells (xs++sp).toArray e (0,0)))(jn:Nat)(hjn:h[jn]?=some (some bn,.cells (news++spn).toArray en frn))
  (hnx:xs.length=nx*size)(fB:(xs++sp).length=cap*size)(hl:news.length=m*size)(hm0:0<m)(h1:∀u∈news,u.oneCell'=true)(hmx:nx+m<=maxLen)(hbytes:(nx+m)*inf.bytes<=140737488355328)
  (hk:∀b' sp' cap',(xs++news++sp').length=cap'*size->K (gx (some b') (nx+m) cap') (h.set j (some b',.cells (xs++news++sp').toArray e (0,0)))):jq P w0 S n h ops i l d K:=
 ⟨_,ho,rfl,rfl,rfl,hd,.inl ⟨hw,λt' w Ds Y' hF hS=>.inl (by
  have hbn:=hS.get hjn;have hnews:∀j u,news[j]?=some u->w.cell? ((⟨bn,0,none⟩:Addr).add j)=some u:=by
   intro j u hv;have hjl:=(bB.1 hv).1;have e1:(⟨bn,0,none⟩:Addr).add j=⟨bn,j,none⟩:=by unfold Addr.add;split;(rename_i h0;rw[h0]);simp
   rw[e1];rw[bJ hjl]at hv;cases hv;simp[World.cell?,hbn,List.getElem?_append,hjl]
  obtain⟨b',sp',cap',w',hrun,hlen,hS'⟩:=yu hu hi hz hsz hz1 hS hnx fB hq hj (c:=c) hl hm0 hnews h1 hmx hbytes ty;refine⟨_,w',_,?_,hS',hk b' sp' cap' hlen⟩;have e1:(#[x,y]:aa).map (Act.eval ⟨t',Ds.map mark⟩)=#[gx q nx cap,.slice (aR bn) m c]:=by simp[hF.fW hx,hF.fW hy]
  simp only[execOp,resolve,e1,Sem.run_bind,Sem.run_pure,Result.andThen_ok,invoke,builtin,hrun])⟩⟩
end
def iR(h:Hl):aq:=h.filterMap (·.1)
theorem np{h:Hl}{b:Nat}:b∈iR h↔∃o,(some b,o)∈h:=by
 simp only[iR,dk];constructor;rintro ⟨⟨q,o⟩,h1,h2⟩;dsimp only at h2;subst h2;exact⟨o,h1⟩;rintro ⟨o,h1⟩;exact⟨_,h1,rfl⟩
structure mg (w:aB) (h:Hl):Prop where
  own:∀p∈h,∀b,p.1=some b->w.heap[b]?=some p.2/\ub p.2=false
  apart:h.Pairwise uH
theorem St.has{w0 w:aB}{S:aq}{h:Hl}{Y:List (Nat×Obj)}(s:St w0 S w h Y):mg w h:=⟨λp hp b hb=>⟨(s.own p hp b hb).1,(s.own p hp b hb).2.1⟩,s.apart⟩
theorem mg.st{w:aB}{h:Hl}(g:mg w h):St w (iR h) w h []:=
 ⟨Ex.refl _ _,λp hp b hb=>⟨(g.own p hp b hb).1,(g.own p hp b hb).2,.inr (np.2 ⟨p.2,by rw[<-hb];exact hp⟩)⟩,g.apart,(λp hp=>by cases hp),eE⟩
theorem mg.sub{w:aB}{h h':Hl}(g:mg w h)(hs:h'.Sublist h):mg w h':=⟨λp hp=>g.own p (hs.subset hp),g.apart.sublist hs⟩
theorem St.frame{w0 w w':aB}{S:aq}{h h' hF:Hl}{Y:List (Nat×Obj)}(s:St w0 S w (h++hF) Y)(g:St w (iR h) w' h' []):St w0 S w' (h'++hF) Y:=by
 have hown:∀b∈iR h,w0.heap.size<=b\/b∈S:=λb hb=>by
  obtain⟨o,ho⟩:=np.1 hb;exact(s.own _ (cK _ ho) b rfl).2.2
 have hap:=cR.1 s.apart;have hkeep:∀b o,w.heap[b]?=some o->b∉iR h->w'.heap[b]?=some o:=λb o ho hb=>by
  rw[g.ext.block b (aX.1 ho).1 hb];exact ho
 have hsz:=g.ext.size;have hsz0:=s.ext.size;refine⟨s.ext.trans g.ext (λx hx=>(hown x hx).symm),λp hp b hb=>?_,cR.2 ⟨g.apart,hap.2.1,λp hp q hq b hb hqb=>?_⟩,λp hp=>?_,s.CP⟩;rcases ed.1 hp with hp|hp;obtain⟨h1,h2,h3⟩:=g.own p hp b hb;refine⟨h1,h2,?_⟩;rcases h3 with h3|h3;exact .inl aH;exact hown b h3;obtain⟨h1,h2,h3⟩:=s.own p (cD _ hp) b hb;refine⟨hkeep b _ h1 (λhm=>?_),h2,h3⟩;obtain⟨o,ho⟩:=np.1 hm;exact hap.2.2 _ ho p hp b rfl hb;obtain⟨h1,h2,h3⟩:=g.own p hp b hb;obtain⟨k1,k2,k3⟩:=s.own q (cD _ hq) b hqb;rcases h3 with h3|h3;have:=(aX.1 k1).1;omega;obtain⟨o,ho⟩:=np.1 h3;exact hap.2.2 _ ho q hq b rfl hqb;obtain⟨h1,h2,h3⟩:=s.sys p hp;refine⟨h1,hkeep p.1 _ h2 (λhm=>?_),h3⟩;obtain⟨o,ho⟩:=np.1 hm;obtain⟨k1,k2,_⟩:=s.own _ (cK _ ho) p.1 rfl;rw[h2]at k1;cases k1;dsimp only at k2;rw[h3]at k2;cases k2
def wX(P:av)(gf:ay)(args:ai)(w:aB)(h:Hl)(Rc:aC->Hl->Prop):Prop:=
 Calls P gf args.toArray w λe w'=>∃v h',e=.returned v/\Rc v h'/\St w (iR h) w' h' []
section
variable{P:av}{r:ah}{f:ay}{R:aC->aB->Prop}{w0:aB}{S:aq}{Y:List (Nat×Obj)}{n:Nat}{k:al}{l:Fl}{h:Hl}{ops:aj}{i d:Nat}{rest:aq}{ty:ax}{pos:aA}{aft:ak}{g:Option (Nat×Bool)}
theorem wX.of{gf:ay}{fn:Func}{c:Code}{args:ai}{w:aB}{Rc:aC->Hl->Prop}(hh:mg w h)(hf:P.funcs[gf]?=some fn)(hb:fn.body=some c)(hn:Nat.ble args.length fn.ntmps=true)
  (hgo:ff P none gf (λv w'=>∃h',Rc v h'/\St w (iR h) w' h' []) w (iR h) [] fn.ntmps [.code c] (Ar 0 args) h):wX P gf args w h Rc:=by
 unfold wX;refine Calls.mono (Eg hf hb hn h hh.st hgo) ?_;rintro e w' ⟨v,rfl,h',h1,h2⟩;exact⟨v,h',rfl,h1,h2⟩
theorem ff.nQ{hF:Hl}{az:aa}{ts:ab}{cal:au}{gf:ay}{fs cs vs:ai}(Rc:aB->aC->Hl->Prop)(ho:ops[i]?=some ⟨some d,.call ⟨.value cal,az,ts⟩,ty,pos,aft,g⟩)(hw:fE ops l g=true)
  (hc:fW l cal=some (.func (.func gf) fs.toArray cs.toArray))(hx:iW l az.toList=some vs)(hd:Nat.blt d n=true)(hcf:∀args w,(callFunc gf args).run P w=.ok (.enter gf args) w)
  (hcall:∀w Y',St w0 S w (h++hF) Y'->wX P gf (fs++vs++cs) w h (Rc w))
  (hk:∀w v h',Rc w v h'->ff P r f R w0 S Y n (.inRegion ops rest::k) ((d,v)::l) (h'++hF)):ff P r f R w0 S Y n (.inRegion ops (i::rest)::k) l (h++hF):=
 .HN ho hw hc hx hd hcf (λw Y' hS=>⟨λv w'=>∃h',Rc w v h'/\St w (iR h) w' h' [],by
  have:=hcall w Y' hS;unfold wX at this;simp only[List.append_toArray];exact Calls.mono this (λe w' ⟨v,h',e1,e2,e3⟩=>⟨v,e1,h',e2,e3⟩),λv w' ⟨h',h1,h2⟩=>⟨h'++hF,hS.frame h2,hk w v h' h1⟩⟩)
end
section
variable{κ ν:Type}
def vH(ek:κ->aC)(ev:ν->aC):List (κ×ν)->Nat->List MapEntry
 |[],_=>[]
 |p::L,i=>⟨ek p.1,ev p.2,i⟩::vH ek ev L (i+1)
abbrev nZ(ek:κ->aC)(ev:ν->aC)(L:List (κ×ν)):Obj:=.map (vH ek ev L 0).toArray L.length
def iJ(q:κ->κ->Bool):List (κ×ν)->κ->Option ν
 |[],_=>none
 |p::L,k=>if q k p.1=true then some p.2 else iJ q L k
variable{ek:κ->aC}{ev:ν->aC}{q:κ->κ->Bool}
theorem xj:∀{L:List (κ×ν)} {k:κ} {v:ν} {i:Nat},vH ek ev (L++[(k,v)]) i=vH ek ev L i++[⟨ek k,ev v,i+L.length⟩]
 |[],k,v,i=>rfl
 |p::L,k,v,i=>by rw[List.cons_append,vH,xj,vH,List.cons_append,dM,Nat.add_assoc,Nat.add_comm 1]
def found(q:κ->κ->Bool)(ev:ν->aC):List (κ×ν)->κ->Nat->Option (Nat×aC)
 |[],_,_=>none
 |p::L,k,i=>if q k p.1=true then some (i,ev p.2)else found q ev L k (i+1)
theorem uD:∀{L:List (κ×ν)} {k:κ} {i:Nat},(found q ev L k i).map (·.2)=(iJ q L k).map ev
 |[],_,_=>rfl
 |p::L,k,i=>by
  rw[found,iJ];split;rfl;exact uD
theorem zw{kd:TypeDesc}(hs:∀a b:κ,Instr.sameNow kd (ek a) (ek b)=some (q a b)):∀{L:List (κ×ν)} {k:κ} {i j:Nat},Instr.findNow kd (ek k) (vH ek ev L j) i=some (found q ev L k i)
 |[],_,_,_=>rfl
 |p::L,k,i,j=>by
  rw[vH,Instr.findNow,hs,found];cases q k p.1 with
  |true=>rfl
  |false=>exact zw hs
theorem zx{P:av}{kt:ax}{w:aB}(hs:∀a b:κ,(Op.equal kt (ek a) (ek b)).run P w=.ok (q a b) w):∀{L:List (κ×ν)} {k:κ} {i j:Nat},(Instr.findAsking kt (ek k) (vH ek ev L j) i).run P w=.ok (found q ev L k i) w
 |[],_,_,_=>rfl
 |p::L,k,i,j=>by
  rw[vH,Instr.findAsking,found];simp only[Sem.run_bind,hs,Result.andThen_ok];cases q k p.1 with
  |true=>rfl
  |false=>exact zx hs
structure nG (P:av) (kt:ax) (ek:κ->aC) (q:κ->κ->Bool):Prop where
  qA:∀(e:Bool) (a:κ) (w:aB),(Instr.checkKey e 10000 kt (ek a)).run P w=.ok () w
  find:∀{ν:Type} (ev:ν->aC) (L:List (κ×ν)) (k:κ) (w:aB),(Instr.findKey kt (ek k) (vH ek ev L 0)).run P w=.ok (found q ev L k 0) w
theorem nG.now{P:av}{kt:ax}{kd:TypeDesc}(hu:P.underlying kt=some kd)(hc:∀(e:Bool) (a:κ) (w:aB),(Instr.checkKey e 10000 kt (ek a)).run P w=.ok () w)(hs:∀a b:κ,Instr.sameNow kd (ek a) (ek b)=some (q a b)):nG P kt ek q:=
 ⟨hc,λev L k w=>by
  simp only[Instr.findKey,Sem.run_bind,run_underlying hu,Result.andThen_ok,zw hs];rfl⟩
theorem nG.int{P:av}{kt:ax}{kd:aw}(hu:P.underlying kt=some (.int kd)):nG P kt (Value.int kd) (λa b=>a==b):=
 .now hu (λe a w=>Go.MapKept.run_checkKey hu (by simp[Go.MapKept.IsKey]) e 9999) (λa b=>by simp[Instr.sameNow])
theorem V5{P:av}{t et:ax}{n s:Nat}{z:aC}{ps:List (Nat×aC)}{c:ai}(hu:P.underlying t=some (.array n et))(hs:∀w,(sizeOf et).run P w=.ok s w)(hz:∀w,(zeroValue t).run P w=.ok z w)
  (hf:uf (λi=>some (i*s,s)) z.cells.toList ps=some c):Vq P t ps (.agg c.toArray):=by
 intro w;have h1:=fill_eq hf;rw[Array.toArray_toList]at h1;simp only[Instr.build,Sem.run_bind,hz,Result.andThen_ok,run_underlying hu,hs];rw[h1];rfl
theorem qO{P:av}{et:ax}(ha:∀w,(isAgg et).run P w=.ok false w){cs:af}{j:Nat}{v:aC}(hv:cs[j]?=some v)(w:aB):(part et cs j).run P w=.ok v w:=by
 simp only[part,Sem.run_bind,ha,Result.andThen_ok,hv];rfl
theorem L7{P:av}{t:ax}{kd:aw}(dd:Nat){p q:Int}(hu:P.underlying t=some (.int kd))(w:aB):(Op.equalIn (dd+1) t (.int kd p) (.int kd q)).run P w=.ok (p==q) w:=by
 simp only[Op.equalIn,Sem.run_bind,run_underlying hu,Result.andThen_ok];simp
end
section
variable{P:av}{r:ah}{f:ay}{R:aC->aB->Prop}{w0:aB}{S:aq}{Y:List (Nat×Obj)}{n:Nat}{k:al}{l:Fl}{h:Hl}
variable{ops:aj}{i d:Nat}{rest:aq}{ty:ax}{pos:aA}{aft:ak}{g:Option (Nat×Bool)}
variable{κ ν:Type}{ek:κ->aC}{ev:ν->aC}{q:κ->κ->Bool}
theorem qZ(ek:κ->aC)(ev:ν->aC){t:ax}(ho:ops[i]?=some ⟨some d,.makeMap t none,ty,pos,aft,g⟩)(hw:fE ops l g=true)(hd:Nat.blt d n=true)
  (hk:∀b,ff P r f R w0 S Y n (.inRegion ops rest::k) ((d,.map (some b))::l) ((some b,nZ ek ev [])::h)):ff P r f R w0 S Y n (.inRegion ops (i::rest)::k) l h:=
 .mem ho hw rfl rfl hd (λt' w Ds _ hF hS=>⟨.map (some w.heap.size),w.alloc (.map #[] 0),_,by
  simp[execOp,Instr.makeMap],hS.alloc rfl,hk _⟩)
theorem sY{t kt el:ax}(hK:nG P kt ek q){z:aC}{x ix:au}{b:Nat}{a:κ}{L:List (κ×ν)}(ho:ops[i]?=some ⟨some d,.lookup t x ix true,ty,pos,aft,g⟩)(hw:fE ops l g=true)
  (hx:fW l x=some (.map (some b)))(hy:fW l ix=some (ek a))(hd:Nat.blt d n=true)(hu:P.underlying t=some (.map kt el))(hz:∀w,(zeroValue el).run P w=.ok z w)(j:Nat)(hj:h[j]?=some (some b,nZ ek ev L)):
  fh P w0 S n h ops i l d (.tuple #[((iJ q L a).map ev).getD z,.bool (iJ q L a).isSome]):=
 .of ho hw rfl rfl hd (λt' w Ds _ hF hS=>⟨.value (.tuple #[((iJ q L a).map ev).getD z,.bool (iJ q L a).isSome]),by
  have hg:(getObj b).run P w=.ok (nZ ek ev L) w:=by simp[getObj,Sem.run,hS.get hj]
  have hf:=hK.find ev L a w;have e1:(found q ev L a 0).map (·.2)=(iJ q L a).map ev:=uD;simp only[execOp,hF.fW hx,hF.fW hy,Sem.run_bind,Instr.lookup,run_underlying hu,Result.andThen_ok,hg,hK.qA,Sem.run_pure,hf];cases hfo:found q ev L a 0 with
  |none=>
   rw[hfo]at e1;cases ha:iJ q L a with
   |none=>simp[hz]
   |some v=>rw[ha]at e1;cases e1
  |some y=>
   rw[hfo]at e1;cases ha:iJ q L a with
   |none=>rw[ha]at e1;cases e1
   |some v=>rw[ha]at e1;simp at e1⊢;exact e1,rfl⟩)
theorem zq:∀{L:List (κ×ν)} {a:κ} {i:Nat},iJ q L a=none->found q ev L a i=none
 |[],_,_,_=>rfl
 |p::L,a,i,h=>by
  rw[iJ]at h;rw[found];split at h;cases h;rename_i hq;rw[if_neg hq];exact zq h
theorem Fq{t kt el:ax}(hK:nG P kt ek q){b:Nat}{a:κ}{v:ν}{L:List (κ×ν)}{w:aB}(hu:P.underlying t=some (.map kt el))(hb:w.heap[b]?=some (nZ ek ev L))(ha:iJ q L a=none):
  (Instr.mapUpdate t (.map (some b)) (ek a) (ev v)).run P w=.ok () {w with heap:=w.heap.setIfInBounds b (nZ ek ev (L++[(a,v)]))}:=by
 have hg:(getObj b).run P w=.ok (nZ ek ev L) w:=by simp[getObj,Sem.run,hb]
 have hf:=hK.find ev L a w;rw[zq ha]at hf;simp only[Instr.mapUpdate,Sem.run_bind,run_underlying hu,Result.andThen_ok,hg,hK.qA,hf];have e1:((vH ek ev L 0).toArray.push ⟨ek a,ev v,L.length⟩)=(vH ek ev (L++[(a,v)]) 0).toArray:=by rw[xj];simp
 rw[e1];simp[setObj,Sem.run,hb,nZ]
theorem ff.uz{t kt el:ax}(hK:nG P kt ek q){m x y:au}{b:Nat}{a:κ}{v:ν}{L:List (κ×ν)}{o:Oper}(ho:ops[i]?=some o)(hop:o.op=.mapUpdate t m x y\/o.op=.insert t m x y)(hdst:o.dst=none)(hw:fE ops l o.guard=true)
  (hm:fW l m=some (.map (some b)))(hx:fW l x=some (ek a))(hy:fW l y=some (ev v))(hu:P.underlying t=some (.map kt el))(j:Nat)(hj:h[j]?=some (some b,nZ ek ev L))(ha:iJ q L a=none)
  (hk:ff P r f R w0 S Y n (.inRegion ops rest::k) l (h.set j (some b,nZ ek ev (L++[(a,v)])))):ff P r f R w0 S Y n (.inRegion ops (i::rest)::k) l h:=
 .V0 ho hw hdst (by rcases hop with e|e<;>rw[e]<;>rfl) (λt' w Ds _ hF hS=>by
  have hb:=hS.get hj;refine⟨{w with heap:=w.heap.setIfInBounds b (nZ ek ev (L++[(a,v)]))},_,?_,hS.xw hj (o':=nZ ek ev (L++[(a,v)])) rfl rfl rfl rfl aL ?_ ?_,hk⟩;have hrun:=Fq hK (v:=v) hu hb ha;unfold execOp;rcases hop with e|e<;>rw[e]<;>simp only[hF.fW hm,hF.fW hx,hF.fW hy,Sem.run_bind,hrun]<;>rfl
  have hlt:=hS.lt hj;simp[hlt];intro q _ hq;simp[Ne.symm hq])
end
section
variable{fs:Array Field}
def NV.v(n:NV):aC:=.agg #[gu n.op,gu n.i,gu n.e,gu n.g,gu n.x,gu n.y]
structure FA (w:aB) (a:ae) (f:List NV):Prop where
  at_:Sl w a (f.flatMap NV.cells)
theorem FA.fD{w0 w:aB}{a:ae}{f:List NV}(h:FA w0 a f){S:aq}(e:Ex S w0 w)(hS:∀b o,a=some ⟨b,o,none⟩->b∉S:=by simp):FA w a f:=⟨Sl.ex h.at_ e hS⟩
abbrev jR(e:ax)(ns:List NV)(sp:ai):Obj:=.cells (ns.flatMap NV.cells++sp).toArray e (0,0)
theorem vC{ns:List NV}:(ns.flatMap NV.cells).length=ns.length*6:=qS (enc:=NV.cells) (sz:=6) (λ_=>rfl)
theorem fZ{w0 w:aB}{S:aq}{h:Hl}{Y:List (Nat×Obj)}(s:St w0 S w h Y)(j:Nat){q:ah}{ns:List NV}{e:ax}{sp:ai}(hj:h[j]?=some (q,jR e ns sp))(hq:q=none->ns.length=0):FA w (q.map aP) ns:=by
 cases q with
 |none=>rw[aV (hq rfl)];exact⟨Sl.nil _ _⟩
 |some b=>exact⟨Sl.jd (s.get hj)⟩
def fQ(e:ax)(w w':aB)(v:aC)(ns:List NV):Prop:=
 ∃q cap sp,v=gx q ns.length cap/\(q=none->ns.length=0/\cap=0)/\(ns.flatMap NV.cells++sp).length=cap*6/\∀b,q=some b->w.heap.size<=b/\w'.heap[b]?=some (jR e ns sp)
theorem fR{t:ax}{w0 w w':aB}{S:aq}{h:Hl}{Y:List (Nat×Obj)}(s:St w0 S w h Y)(e:Ex [] w w'){v:aC}{ns:List NV}(ho:fQ t w w' v ns):
  ∃q cap sp,v=gx q ns.length cap/\(q=none->ns.length=0/\cap=0)/\(ns.flatMap NV.cells++sp).length=cap*6/\St w0 S w' ((q,jR t ns sp)::h) Y:=by
 obtain⟨q,cap,sp,h1,h2,h3,h4⟩:=ho;refine⟨q,cap,sp,h1,h2,h3,?_⟩;cases q with
 |none=>exact(s.later e).none _
 |some b=>exact s.DW e (h4 b rfl).2 rfl (h4 b rfl).1
theorem fQ.mk{t:ax}{w0 w:aB}{h:Hl}{Y:List (Nat×Obj)}(s:St w0 [] w h Y)(j:Nat){q:ah}{ns:List NV}{sp:ai}{cap m:Nat}(hj:h[j]?=some (q,jR t ns sp))(hm:m=ns.length)
  (hq:q=none->ns.length=0/\cap=0)(fB:(ns.flatMap NV.cells++sp).length=cap*6):fQ t w0 w (gx q m cap) ns:=by
 subst hm;refine⟨q,cap,sp,rfl,hq,fB,λb hb=>?_⟩;subst hb;exact⟨s.fresh hj,s.get hj⟩
theorem fQ.vj{t:ax}{w w':aB}:fQ t w w' (.slice none 0 0) []:=⟨none,0,[],rfl,λ_=>⟨rfl,rfl⟩,rfl,λ_ e=>by cases e⟩
section
variable{P:av}{r:ah}{f:ay}{R:aC->aB->Prop}{w0:aB}{S:aq}{Y:List (Nat×Obj)}{n:Nat}{k:al}{l:Fl}{h:Hl}
variable{ops:aj}{i d:Nat}{rest:aq}{ty:ax}{pos:aA}{aft:ak}{g:Option (Nat×Bool)}
theorem fh.tZ{x:au}{a:Addr}(ho:ops[i]?=some ⟨some d,.nilCheck x,ty,pos,aft,g⟩)(hw:fE ops l g=true)(hx:fW l x=some (.pointer (some a)))(hd:Nat.blt d n=true):fh P w0 S n h ops i l d (.pointer (some a)):=
 .of ho hw rfl rfl hd (λt' w Ds _ hF hS=>⟨.value (.pointer (some a)),by simp only[execOp,hF.fW hx];rfl,rfl⟩)
end
def wv(fs:Array Field)(it:ax):Prop:=∃f0 f1 f2 f3 f4 f5:Field,fs=#[f0,f1,f2,f3,f4,f5]/\
 (f0.name ≠ "_" ∧ f0.type = it ∧ f0.offset = 0) ∧ (f1.name ≠ "_" ∧ f1.type = it ∧ f1.offset = 1) ∧ (f2.name ≠ "_" ∧ f2.type = it ∧ f2.offset = 2) ∧
 (f3.name ≠ "_" ∧ f3.type = it ∧ f3.offset = 3) ∧ (f4.name ≠ "_" ∧ f4.type = it ∧ f4.offset = 4) ∧ (f5.name ≠ "_" ∧ f5.type = it ∧ f5.offset = 5)
theorem wG{P:av}{t it:ax} (hu:P.underlying t=some (.struct fs))(hfs:wv fs it)(hi:P.underlying it=some (.int .i64))(ha:∀w,(isAgg it).run P w=.ok false w)(kz:P.stoodInHeld t=false)(m:Nat)(a b:NV)(w:aB):
  (Op.equalIn (m+2) t a.v b.v).run P w=.ok (a==b) w:=by
 obtain⟨f0,f1,f2,f3,f4,f5,rfl,⟨n0,t0,o0⟩,⟨n1,t1,o1⟩,⟨n2,t2,o2⟩,⟨n3,t3,o3⟩,⟨n4,t4,o4⟩,⟨n5,t5,o5⟩⟩:=hfs;have hp:∀(c:NV) (w:aB),(part it c.v.cells 0).run P w=.ok (gu c.op) w/\(part it c.v.cells 1).run P w=.ok (gu c.i) w/\(part it c.v.cells 2).run P w=.ok (gu c.e) w/\(part it c.v.cells 3).run P w=.ok (gu c.g) w/\(part it c.v.cells 4).run P w=.ok (gu c.x) w/\(part it c.v.cells 5).run P w=.ok (gu c.y) w:=λc w=>
  ⟨qO ha rfl w,qO ha rfl w,qO ha rfl w,qO ha rfl w,qO ha rfl w,qO ha rfl w⟩;obtain⟨a0,a1,a2,a3,a4,a5⟩:=hp a w;obtain⟨b0,b1,b2,b3,b4,b5⟩:=hp b w;have hq:∀p q:Int,(Op.equalIn (m+1) it (aS p) (aS q)).run P w=.ok (p==q) w:=λp q=>L7 m hi w;have hv:∀c:NV,c.v=.agg c.v.cells:=λc=>rfl;rw[hv a,hv b,show m+2=(m+1)+1 from rfl,Op.equalIn];have hprog:(program:Sem av).run P w=.ok P w:=rfl;simp only[Sem.run_bind,run_underlying hu,Result.andThen_ok,hprog,kz,<-Array.forIn_toList];have hab:(a==b)=(a.op==b.op && (a.i==b.i && (a.e==b.e && (a.g==b.g && (a.x==b.x && a.y==b.y))))):=by
  rw[dU];simp only[eU,dG];obtain⟨_,_,_,_,_,_⟩:=a;obtain⟨_,_,_,_,_,_⟩:=b;simp[NV.mk.injEq]
 rw[hab];cases h0:a.op==b.op;simp[n0,t0,o0,a0,b0,hq,h0];cases h1:a.i==b.i;simp[n0,t0,o0,a0,b0,hq,h0,n1,t1,o1,a1,b1,h1];cases h2:a.e==b.e;simp[n0,t0,o0,a0,b0,hq,h0,n1,t1,o1,a1,b1,h1,n2,t2,o2,a2,b2,h2];cases h3:a.g==b.g;simp[n0,t0,o0,a0,b0,hq,h0,n1,t1,o1,a1,b1,h1,n2,t2,o2,a2,b2,h2,n3,t3,o3,a3,b3,h3];cases h4:a.x==b.x;simp[n0,t0,o0,a0,b0,hq,h0,n1,t1,o1,a1,b1,h1,n2,t2,o2,a2,b2,h2,n3,t3,o3,a3,b3,h3,n4,t4,o4,a4,b4,h4];cases h5:a.y==b.y;simp[n0,t0,o0,a0,b0,hq,h0,n1,t1,o1,a1,b1,h1,n2,t2,o2,a2,b2,h2,n3,t3,o3,a3,b3,h3,n4,t4,o4,a4,b4,h4,n5,t5,o5,a5,b5,h5];simp[n0,t0,o0,a0,b0,hq,h0,n1,t1,o1,a1,b1,h1,n2,t2,o2,a2,b2,h2,n3,t3,o3,a3,b3,h3,n4,t4,o4,a4,b4,h4,n5,t5,o5,a5,b5,h5]
theorem Mp{P:av}{t it:ax} (hu:P.underlying t=some (.struct fs))(hfs:wv fs it)(hi:P.underlying it=some (.int .i64))(ha:∀w,(isAgg it).run P w=.ok false w)(e:Bool)(m:Nat)(a:NV)(w:aB):
  (Instr.checkKey e (m+2) t a.v).run P w=.ok () w:=by
 obtain⟨f0,f1,f2,f3,f4,f5,rfl,⟨n0,t0,o0⟩,⟨n1,t1,o1⟩,⟨n2,t2,o2⟩,⟨n3,t3,o3⟩,⟨n4,t4,o4⟩,⟨n5,t5,o5⟩⟩:=hfs;have a0:(part it a.v.cells 0).run P w=.ok (gu a.op) w:=qO ha rfl w;have a1:(part it a.v.cells 1).run P w=.ok (gu a.i) w:=qO ha rfl w;have a2:(part it a.v.cells 2).run P w=.ok (gu a.e) w:=qO ha rfl w;have a3:(part it a.v.cells 3).run P w=.ok (gu a.g) w:=qO ha rfl w;have a4:(part it a.v.cells 4).run P w=.ok (gu a.x) w:=qO ha rfl w;have a5:(part it a.v.cells 5).run P w=.ok (gu a.y) w:=qO ha rfl w;have hk:∀p:Int,(Instr.checkKey e (m+1) it (aS p)).run P w=.ok () w:=λp=>Go.MapKept.run_checkKey hi (by simp[Go.MapKept.IsKey]) e m;rw[show a.v=.agg a.v.cells from rfl,show m+2=(m+1)+1 from rfl,Instr.checkKey];simp only[Sem.run_bind,run_underlying hu,Result.andThen_ok,<-Array.forIn_toList];simp[n0,t0,o0,a0,hk,n1,t1,o1,a1,n2,t2,o2,a2,n3,t3,o3,a3,n4,t4,o4,a4,n5,t5,o5,a5]
theorem nG.node{P:av}{t it:ax} (hu:P.underlying t=some (.struct fs))(hfs:wv fs it)(hi:P.underlying it=some (.int .i64))(ha:∀w,(isAgg it).run P w=.ok false w)(kz:P.stoodInHeld t=false):nG P t NV.v (λa b=>a==b):=by
 refine⟨λe a w=>Mp hu hfs hi ha e 9998 a w,λev L k w=>?_⟩;have hq:∀a b:NV,(Op.equal t a.v b.v).run P w=.ok (a==b) w:=λa b=>wG hu hfs hi ha kz 9998 a b w;simp only[Instr.findKey,Sem.run_bind,run_underlying hu,Result.andThen_ok];cases L with
 |nil=>rfl
 |cons p L=>
  have h0:Instr.findNow (.struct fs) k.v (vH NV.v ev (p::L) 0) 0=none:=rfl;rw[h0];exact zx (q:=λa b:NV=>a==b) hq
theorem PL{P:av}{t it:ax} (hu:P.underlying t=some (.struct fs))(hfs:wv fs it)(hi:P.underlying it=some (.int .i64))(ha:∀w,(isAgg it).run P w=.ok false w)(kz:P.stoodInHeld t=false)(hg:P.eqGuardType P.depth t=false){a b:NV}:
  oO P .eql t a.v b.v (.bool (a==b)):=by
 intro x y w;have h1:(Op.equal t a.v b.v).run P w=.ok (a==b) w:=wG hu hfs hi ha kz 9998 a b w;have hprog:(program:Sem av).run P w=.ok P w:=rfl;have h2:(eqGuard .eql t x y a.v b.v).run P w=.ok () w:=by
  unfold eqGuard;simp only[NV.v];simp[hg]
 have h3:(binOp .eql t a.v b.v).run P w=.ok (.bool (a==b)) w:=by
  show(do pure (Value.bool (<-Op.equal t a.v b.v)):Sem aC).run P w=_;simp only[Sem.run_bind,h1,Result.andThen_ok];rfl
 simp only[Sem.run_bind,h2,Result.andThen_ok,h3]
end
section
variable{az:aa}{ts:ab}{t:af}{vs:ai}{aft:ak}{cal:au}{ty:ax}
def nY(ops:aj)(i:Nat):Bool:=match ops[i]? with
 |none=>false
 |some o=>mq o.op && match o.dst with
  |none=>false
  |some d=>(List.range ops.size).all (λj=>Nat.beq j i||(!(ik ops j==some d) && (match ops[j]? with
   |none=>true
   |some p=>(!(nL ops p).contains d||(iX ops j).contains i||(iX ops i).contains j)) && (match ik ops j with
   |none=>true
   |some e=>(!(nL ops o).contains e||(iX ops i).contains j||(iX ops j).contains i))))
structure MT (ops:aj) (i d:Nat):Prop where
  Nb:∀o,ops[i]?=some o->mq o.op=true
  dst:ik ops i=some d
  one:∀j,j<ops.size->j≠i->ik ops j≠some d
  seen:∀j p,j<ops.size->j≠i->ops[j]?=some p->d∈nL ops p->i∈iX ops j\/j∈iX ops i
  Q5:∀j e o,j<ops.size->j≠i->ik ops j=some e->ops[i]?=some o->e∈nL ops o->j∈iX ops i\/i∈iX ops j
theorem De{ops:aj}{i:Nat}(h:nY ops i=true):∃d,MT ops i d:=by
 unfold nY at h;split at h;cases h;rename_i o ho;rw[dG]at h;obtain⟨h1,h2⟩:=h;split at h2;cases h2;rename_i d hd;simp only[dI,eD,dV,Nat.beq_eq,dG,dw]at h2;refine⟨d,λp hp=>by rw[ho]at hp;cases hp;exact h1,by simp[ik,ho,hd],λj hj hne=>?_,λj p hj hne hp hm=>?_,λj e p hj hne he hp hm=>?_⟩;rcases h2 j hj with h|h;exact absurd h hne;simpa using h.1.1;rcases h2 j hj with h|h;exact absurd h hne;have:=h.1.2;rw[hp]at this;simp only[dV,dw]at this;rcases this with(h3|h3)|h3;rw[List.contains_eq_mem,bV]at h3;exact absurd hm h3;exact .inl (by simpa using h3);exact .inr (by simpa using h3);rcases h2 j hj with h|h;exact absurd h hne;have:=h.2;rw[he]at this;simp only[dV,dw]at this;rw[ho]at hp;cases hp;rcases this with(h3|h3)|h3;rw[List.contains_eq_mem,bV]at h3;exact absurd hm h3;exact .inl (by simpa using h3);exact .inr (by simpa using h3)
section
variable{P:av}{r:ah}{f:ay}{R:aC->aB->Prop}{w0:aB}{S:aq}{Y:List (Nat×Obj)}{n:Nat}{k:al}{l:Fl}{h:Hl}{ops:aj}
def ml(P:av)(w0:aB)(S:aq)(n:Nat)(ops:aj)(i:Nat)(t:af)(h:Hl)(K:af->Hl->Prop):Prop:=
 ∃o d,ops[i]?=some o/\o.dst=some d/\lH o.op=false/\mq o.op=true/\d<n/\
  ((Region.wanted o (yielded ops t)=true/\∀(w:aB) (Ds:aq) (Y':List (Nat×Obj)),St w0 S w h Y'->
   (∃v w' h',(execOp (Act.eval ⟨t,Ds.map mark⟩) o).run P w=.ok (.value v) w'/\St w0 S w' h' Y'/\K (t.setIfInBounds d v) h')\/
   (∃gf args,∃Rc:aC->aB->Prop,(execOp (Act.eval ⟨t,Ds.map mark⟩) o).run P w=.ok (.enter gf args) w/\(Calls P gf args w λe w'=>∃v,e=.returned v/\Rc v w')/\∀v w',Rc v w'->∃h',St w0 S w' h' Y'/\K (t.setIfInBounds d v) h'))\/
  (Region.wanted o (yielded ops t)=false/\K (t.setIfInBounds d undef) h))
theorem ml.of{i d:Nat}{K:aC->Hl->Prop}{K':af->Hl->Prop} (hm:jq P w0 S n h ops i l d K)(hF:pJ n t l)(hK:∀v h',K v h'->K' (t.setIfInBounds d v) h'):ml P w0 S n ops i t h K':=by
 obtain⟨o,ho,hdst,hnd,hsel,hd,hr⟩:=hm;refine⟨o,d,ho,hdst,hnd,hsel,by simpa[eT]using hd,?_⟩;rcases hr with⟨hw,hr⟩|⟨hs,hk⟩;refine .inl ⟨km hF hw,λw Ds Y' hS=>?_⟩;rcases hr t w Ds Y' hF hS with⟨v,w',h',h1,h2,h3⟩|⟨gf,args,Rc,h1,h2,h3⟩;exact .inl ⟨v,w',h',h1,h2,hK v h' h3⟩;refine .inr ⟨gf,args,Rc,h1,h2,λv w' hR=>?_⟩;obtain⟨h',h4,h5⟩:=h3 v w' hR;exact⟨h',h4,hK v h' h5⟩;exact .inr ⟨uX hF hs,hK undef h hk⟩
theorem ml.congr{i:Nat}{t':af}{K K':af->Hl->Prop}(hm:ml P w0 S n ops i t h K)(hs:t'.size=t.size)(he:∀o,ops[i]?=some o->∀s∈nL ops o,t'.getD s undef=t.getD s undef)
  (hK:∀d v h',ik ops i=some d->K (t.setIfInBounds d v) h'->K' (t'.setIfInBounds d v) h'):ml P w0 S n ops i t' h K':=by
 obtain⟨o,d,ho,hdst,hnd,hsel,hd,hr⟩:=hm;have hdo:ik ops i=some d:=by simp[ik,ho,hdst]
 have hw:=rh (ops:=ops) (o:=o) hs (he o ho);refine⟨o,d,ho,hdst,hnd,hsel,hd,?_⟩;rcases hr with⟨hwant,hr⟩|⟨hskip,hk⟩;refine .inl ⟨hw.trans hwant,λw Ds Y' hS=>?_⟩;have hexec:execOp (Act.eval ⟨t',Ds.map mark⟩) o=execOp (Act.eval ⟨t,Ds.map mark⟩) o:=execOp_congr (ρ':=Act.eval ⟨t,Ds.map mark⟩) o (λcs bb e=>by rw[e]at hsel;cases hsel) (λx hx=>by
  cases x with
  |tmp s=>exact he o ho s (by
    simp only[nL,ed];exact .inr (dk.2 ⟨.tmp s,by simpa using hx,rfl⟩))
  |const v=>rfl
  |global g=>rfl
  |func g=>rfl);rw[hexec];rcases hr w Ds Y' hS with⟨v,w',h',h1,h2,h3⟩|⟨gf,args,Rc,h1,h2,h3⟩;exact .inl ⟨v,w',h',h1,h2,hK d v h' hdo h3⟩;refine .inr ⟨gf,args,Rc,h1,h2,λv w' hR=>?_⟩;obtain⟨h',h4,h5⟩:=h3 v w' hR;exact⟨h',h4,hK d v h' hdo h5⟩;exact .inr ⟨hw.trans hskip,hK d undef h hdo hk⟩
theorem ml.pure{i d:Nat}{v:aC} {hb:Hl}{K:af->Hl->Prop}(ho:r9 P w0 S n hb ops i t d v)(hsel:∀o,ops[i]?=some o->mq o.op=true)(hs:hb.Sublist h)(hK:K (t.setIfInBounds d v) h):ml P w0 S n ops i t h K:=by
 obtain⟨o,h1,h2,h3,h4,h5⟩:=ho;refine⟨o,d,h1,h2,h4,hsel o h1,h3,?_⟩;rcases h5 with⟨a,b⟩|⟨a,rfl⟩;refine .inl ⟨a,λw Ds Y' hS=>?_⟩;rcases b w Ds Y' (hS.js hs)with hb2|⟨gf,args,hb2,hcall⟩;exact .inl ⟨v,w,h,hb2,hS,hK⟩;exact .inr ⟨gf,args,_,hb2,hcall,λu w' ⟨he,hu⟩=>⟨h,hS.later he,by rw[hu];exact hK⟩⟩;exact .inr ⟨a,hK⟩
def Dt(P:av)(r:ah)(f:ay)(R:aC->aB->Prop)(w0:aB)(S:aq)(Y:List (Nat×Obj))(n:Nat)(k:al)(ops:aj)(hb:Hl):Nat->aq->af->Hl->Prop
 |0,_,_,_=>False
 |q+1,D,t,h=>
  (fL ops D=[]/\∀w Ds,St w0 S w h (uy Ds++Y)->ki P r f R (.inRegion ops []::k) t (Ds.map mark) w)\/
  (fL ops D≠[]/\∀i∈fL ops D,ml P w0 S n ops i t h (λt' h'=>hb.Sublist h'/\Dt P r f R w0 S Y n k ops hb q (i::D) t' h'))
theorem ml.mono{i:Nat} {K K':af->Hl->Prop}(hm:ml P w0 S n ops i t h K)(hK:∀t' h',K t' h'->K' t' h'):ml P w0 S n ops i t h K':=hm.congr rfl (λ_ _ _ _=>rfl) (λ_ _ _ _ h=>hK _ _ h)
theorem Dt.perm{hb:Hl}:∀{q:Nat} {D D':aq} {t:af} {h:Hl},(∀j,j∈D↔j∈D')->Dt P r f R w0 S Y n k ops hb q D t h->Dt P r f R w0 S Y n k ops hb q D' t h
 |0,_,_,_,_,_,hd=>hd
 |q+1,D,D',t,h,hp,hd=>by
  rw[Dt]at hd⊢;rw[<-u9 hp];rcases hd with hd|⟨h1,h2⟩;exact .inl hd;exact .inr ⟨h1,λi hi=>(h2 i hi).mono (λt' h' ⟨e1,e2⟩=>⟨e1,e2.perm (λj=>by rw[eH,eH,hp j])⟩)⟩
theorem set_comm {d e:Nat}{u v:aC}(hne:d≠e):(t.setIfInBounds d u).setIfInBounds e v=(t.setIfInBounds e v).setIfInBounds d u:=by
 apply Array.ext_getElem?;intro j;simp only[Array.getElem?_setIfInBounds,Array.size_setIfInBounds];by_cases h1:e=j;by_cases h2:d=j;exact absurd (h2.trans h1.symm) hne;simp[h1,h2];by_cases h2:d=j<;>simp[h1,h2]
theorem Dt.pure{hb:Hl}{i d:Nat}(hf:MT ops i d)(hd:d<n):∀{q:Nat} {D:aq} {t:af} {h:Hl} {v:aC},t.size=n->i∈fL ops D->r9 P w0 S n hb ops i t d v->hb.Sublist h->Dt P r f R w0 S Y n k ops hb q (i::D) (t.setIfInBounds d v) h->Dt P r f R w0 S Y n k ops hb (q+1) D t h
 |0,_,_,_,_,_,_,_,_,hd=>hd.elim
 |q+1,D,t,h,v,hts,hi,ho,hs,hdt=>by
  have hme:ml P w0 S n ops i t h (λt' h'=>hb.Sublist h'/\Dt P r f R w0 S Y n k ops hb (q+1) (i::D) t' h'):=ml.pure ho hf.Nb hs ⟨hs,hdt⟩;have hne:fL ops D≠[]:=λe=>by rw[e]at hi;cases hi
  obtain⟨hiS,hiD,hid⟩:=iv.1 hi;rw[Dt];refine .inr ⟨hne,λj hj=>?_⟩;by_cases hji:j=i;rw[hji];exact hme;obtain⟨hjS,hjD,hjd⟩:=iv.1 hj;have hj2:j∈fL ops (i::D):=iv.2 ⟨hjS,by simp[hji,hjD],λe he=>cM _ (hjd e he)⟩;rw[Dt]at hdt;rcases hdt with⟨h1,_⟩|⟨_,h2⟩;rw[h1]at hj2;cases hj2;have hjo:∀o,ops[j]?=some o->d∉nL ops o:=λo hoo hm=>(hf.seen j o hjS hji hoo hm).elim (λh5=>hiD (hjd i h5)) (λh5=>hjD (hid j h5));refine(h2 j hj2).congr aL (λo hoo s hse=>?_) (λe u h' hde hk=>?_);have hds:d≠s:=λe1=>hjo o hoo (by rw[e1];exact hse);rw[kM (by rw[hts];exact hd),if_neg hds];obtain⟨hk1,hk2⟩:=hk;refine⟨hk1,?_⟩;have hde2:d≠e:=λe1=>hf.one j hjS hji (by rw[hde,e1]);rw[set_comm hde2]at hk2;have hi2:i∈fL ops (j::D):=iv.2 ⟨hiS,by simp[Ne.symm hji,hiD],λe he=>cM _ (hid e he)⟩;refine Dt.pure hf hd (by simpa using hts) hi2 (ho.congr hf.Nb aL (λo hoo s hse=>?_)) hk1 (hk2.perm (λx=>by simp only[eH];exact or_left_comm));have hes:e≠s:=λe1=>by
   subst e1;rcases hf.Q5 j e o hjS hji hde hoo hse with h5|h5;exact hjD (hid j h5);exact hiD (hjd i h5)
  by_cases hlt:e<t.size;rw[kM hlt,if_neg hes];rw[show t.setIfInBounds e u=t from Array.setIfInBounds_eq_of_size_le (Nat.le_of_not_lt hlt)]
theorem Dt.go{hb:Hl}:∀(fuel τ:Nat) (arr:Array Bool) (D:aq) (q:Nat) (t:af) (h:Hl) (w:aB) (Ds:aq),arr.size=ops.size->(∀j,arr.getD j false=D.contains j)->Dt P r f R w0 S Y n k ops hb q D t h->St w0 S w h (uy Ds++Y)->(List.range ops.size).countP (λj=>!D.contains j)<=fuel->
  ki P r f R (.inRegion ops (Region.linearise.go .any ops fuel τ arr [])::k) t (Ds.map mark) w
 |_,_,_,_,0,_,_,_,_,_,_,hd,_,_=>hd.elim
 |fuel,τ,arr,D,q+1,t,h,w,Ds,hs,ha,hd,hS,hfu=>by
  rw[Dt]at hd;rcases hd with⟨h0,hg⟩|⟨h1,h2⟩;have:Region.linearise.go .any ops fuel τ arr []=[]:=by
   cases fuel with
   |zero=>rfl
   |succ fuel=>
    simp only[Region.linearise.go];change (match (Region.ready .any ops arr)[_%(Region.ready .any ops arr).length]? with
     |some i=>_
     |none=>[].reverse)=[];rw[pb hs ha,h0];rfl
  rw[this];exact hg w Ds hS;cases fuel with
  |zero=>
   exfalso;obtain⟨x,hx⟩:=List.exists_mem_of_ne_nil _ h1;obtain⟨e1,e2,_⟩:=iv.1 hx;have:0<(List.range ops.size).countP (λj=>!D.contains j):=List.countP_pos_iff.2 ⟨x,by simpa using e1,by simpa using e2⟩;omega
  |succ fuel=>
   have hpos:0<(fL ops D).length:=List.length_pos_iff.2 h1;simp only[Region.linearise.go];change ki P r f R (.inRegion ops (match (Region.ready .any ops arr)[τ%(Region.ready .any ops arr).length]? with
    |some i=>Region.linearise.go .any ops fuel (τ / (Region.ready .any ops arr).length) (arr.setIfInBounds i true) [i]
    |none=>[].reverse)::k) t (Ds.map mark) w;rw[pb hs ha];have hlt:τ%(fL ops D).length<(fL ops D).length:=Nat.mod_lt _ hpos;rw[bJ hlt];obtain⟨x,hx⟩:∃x,x=(fL ops D)[τ%(fL ops D).length]:=⟨_,rfl⟩;rw[<-hx];have hxm:x∈fL ops D:=by rw[hx];exact dL hlt
   obtain⟨e1,e2,_⟩:=iv.1 hxm;dsimp only;rw[linearise_go_acc,bX,cH];have hnext:∀(t':af) (h':Hl) (w':aB),hb.Sublist h'/\Dt P r f R w0 S Y n k ops hb q (x::D) t' h'->St w0 S w' h' (uy Ds++Y)->ki P r f R (.inRegion ops (Region.linearise.go .any ops fuel (τ / (fL ops D).length) (arr.setIfInBounds x true) [])::k) t' (Ds.map mark) w':=λt' h' w' hK hS'=>by
    refine Dt.go fuel _ _ (x::D) q t' h' w' Ds (by simpa using hs) (λj=>?_) hK.2 hS' ?_;rw[gD aH,ha j,List.contains_cons];split;rename_i e;subst e;simp;rename_i e;rw[eB (Ne.symm e)];rfl;have:=tK (l:=List.range ops.size) (p:=λj=>!(x::D).contains j) (q:=λj=>!D.contains j) (λy _ hy=>by simp at hy⊢;exact hy.2) ⟨x,by simpa using e1,by simpa using e2,by simp⟩;omega
   obtain⟨o,d,ho,hdst,hnd,hsel,hdn,hr⟩:=h2 x hxm;rcases hr with⟨hw,hr⟩|⟨hw,hk⟩;rcases hr w Ds _ hS with⟨v,w',h',h3,h4,h5⟩|⟨gf,args,Rc,h3,h4,h5⟩;refine ki.op ho hw (jc hnd) h3 (.inl rfl) ?_;rw[hdst];exact hnext _ _ _ h5 h4;refine ki.call ho hw (jc hnd) h3 h4 (λu w2 hu=>?_);obtain⟨h',h6,h7⟩:=h5 u w2 hu;rw[hdst];exact hnext _ _ _ h7 h6;refine om ho hw ?_;rw[hdst];exact hnext _ _ _ hk hS
def gi(P:av)(r:ah)(f:ay)(R:aC->aB->Prop)(w0:aB)(S:aq)(Y:List (Nat×Obj))(n:Nat)(k:al)(ops:aj)(hb:Hl)(q:Nat)(D:aq)(l:Fl)(h:Hl):Prop:=
 ∀t,pJ n t l->Dt P r f R w0 S Y n k ops hb q D t h
variable{hb:Hl}{q:Nat}{D:aq}
theorem jJ{id:Nat}(q:Nat)(hb:Hl)(hmix:P.follows .mixedOrders=true)(hg:gi P r f R w0 S Y n k ops hb q [] l h):ff P r f R w0 S Y n (.code (.region id ops true)::k) l h:=by
 intro t w Ds hF hS;refine .nW (λτ=>?_);simp only[Region.schedule,hmix,eJ,eY,Region.linearise];refine Dt.go ops.size τ _ [] q t h _ Ds aL (λj=>?_) (hg t hF) hS.drew ?_;simp[bH];split<;>simp
 exact eM cy aL
theorem gH{id:Nat}(q:Nat)(hmix:P.follows .mixedOrders=true)(hg:gi P r f R w0 S Y n k ops h q [] l h):ff P r f R w0 S Y n (.code (.region id ops true)::k) l h:=jJ q h hmix hg
theorem l7{id:Nat}{p:ah×Obj}(q:Nat)(hmix:P.follows .mixedOrders=true)(hg:gi P r f R w0 S Y n k ops [p] q [] l (p::h)):ff P r f R w0 S Y n (.code (.region id ops true)::k) l (p::h):=jJ q [p] hmix hg
theorem gi.done(h0:fL ops D=[])(hg:ff P r f R w0 S Y n (.inRegion ops []::k) l h):gi P r f R w0 S Y n k ops hb (q+1) D l h:=λt hF=>.inl ⟨h0,λw Ds hS=>hg t w Ds hF hS⟩
theorem gi.Kx{i d:Nat}{v:aC}(hi:(fL ops D).contains i=true)(hp:nY ops i=true)(ho:∀t,pJ n t l->r9 P w0 S n hb ops i t d v)(hs:hb.Sublist h)(hg:gi P r f R w0 S Y n k ops hb q (i::D) ((d,v)::l) h):gi P r f R w0 S Y n k ops hb (q+1) D l h:=by
 intro t hF;obtain⟨d',hf⟩:=De hp;have hO:=ho t hF;obtain⟨o,h1,h2,h3,_⟩:=hO;have e:d'=d:=by
  have:=hf.dst;simp[ik,h1,h2]at this;exact this.symm
 subst e;exact Dt.pure hf h3 hF.1 (by simpa using hi) (ho t hF) hs (hg _ (hF.put v (by simpa[eT]using h3)))
theorem gi.v{i d:Nat}{v:aC}(hv:fh P w0 S n hb ops i l d v)(hi:(fL ops D).contains i=true)(hp:nY ops i=true)(hs:hb.Sublist h)(hg:gi P r f R w0 S Y n k ops hb q (i::D) ((d,v)::l) h):gi P r f R w0 S Y n k ops hb (q+1) D l h:=by
 refine gi.Kx hi hp (λt hF=>?_) hs hg;obtain⟨o,ho,hw,hdst,hnd,hd,hr⟩:=hv
 exact⟨o,ho,hdst,by simpa[eT]using hd,hnd,.inl ⟨km hF hw,λw Ds Y' hS=>by
  obtain⟨nx,h1,rfl⟩:=hr t w Ds Y' hF hS;exact .inl h1⟩⟩
theorem gi.no{i d:Nat}{o:Oper}(ho:ops[i]?=some o)(hw:tW ops l o.guard=true)(hdst:o.dst=some d)(hnd:lH o.op=false)(hd:Nat.blt d n=true)(hi:(fL ops D).contains i=true)(hp:nY ops i=true)(hs:hb.Sublist h)(hg:gi P r f R w0 S Y n k ops hb q (i::D) ((d,undef)::l) h):gi P r f R w0 S Y n k ops hb (q+1) D l h:=
 gi.Kx hi hp (λ_ hF=>⟨o,ho,hdst,by simpa[eT]using hd,hnd,.inr ⟨uX hF hw,rfl⟩⟩) hs hg
theorem gi.cases{d:Nat}{b:Bool}(hv:look l d=some (.bool b))(ht:b=true->gi P r f R w0 S Y n k ops hb q D ((d,.bool true)::l) h)(hf:b=false->gi P r f R w0 S Y n k ops hb q D ((d,.bool false)::l) h):gi P r f R w0 S Y n k ops hb q D l h:=by
 intro t hF;cases hb2:b with
 |true=>exact ht hb2 t (vA hF hv hb2)
 |false=>exact hf hb2 t (vA hF hv hb2)
theorem gi.one{i d:Nat}(h1:fL ops D=[i])(hm:jq P w0 S n h ops i l d (λv h'=>hb.Sublist h'/\gi P r f R w0 S Y n k ops hb q (i::D) ((d,v)::l) h'))(hd:Nat.blt d n=true):gi P r f R w0 S Y n k ops hb (q+1) D l h:=by
 intro t hF;rw[Dt];refine .inr ⟨by rw[h1];simp,λj hj=>?_⟩;rw[h1]at hj;obtain rfl:=dn.1 hj;exact ml.of hm hF (λv h' ⟨e1,e2⟩=>⟨e1,e2 _ (hF.put v hd)⟩)
theorem gi.call{i d:Nat}{ty:ax}{pos:aA}{aft:ak}{g:Option (Nat×Bool)}{az:aa}{ts:ab}{cal:au}{gf:ay}{vs:ai}(Rc:aB->aC->aB->Prop)(h1:fL ops D=[i])(ho:ops[i]?=some ⟨some d,.call ⟨.value cal,az,ts⟩,ty,pos,aft,g⟩)(hw:fE ops l g=true)
  (hc:fW l cal=some (.func (.func gf) #[] #[]))(hx:iW l az.toList=some vs)(hd:Nat.blt d n=true)(hcf:∀args w,(callFunc gf args).run P w=.ok (.enter gf args) w)
  (hcall:∀w Y',St w0 S w h Y'->Cn P gf vs w (Rc w))
  (hk:∀v w w' Y',St w0 S w h Y'->Ex [] w w'->Rc w v w'->∃h',St w0 S w' h' Y'/\hb.Sublist h'/\gi P r f R w0 S Y n k ops hb q (i::D) ((d,v)::l) h'):gi P r f R w0 S Y n k ops hb (q+1) D l h:=
 gi.one h1 (jq.call Rc ho hw hc hx hd hcf hcall (λv w w' Y' hS he hr=>by
  obtain⟨h',e1,e2,e3⟩:=hk v w w' Y' hS he hr;exact⟨h',e1,e2,e3⟩)) hd
theorem gi.l0{i d:Nat} {pos:aA} {g:Option (Nat×Bool)}   {gf:ay} (Rc:aB->aC->aB->Prop)(hcf:∀args w,(callFunc gf args).run P w=.ok (.enter gf args) w)(hcall:∀w Y',St w0 S w h Y'->Cn P gf vs w (Rc w))(hk:∀v w w' Y',St w0 S w h Y'->Ex [] w w'->Rc w v w'->∃h',St w0 S w' h' Y'/\hb.Sublist h'/\gi P r f R w0 S Y n k ops hb q (i::D) ((d,v)::l) h')(h1:fL ops D=[i]:=by exact rfl)(ho:ops[i]?=some ⟨some d,.call ⟨.value cal,az,ts⟩,ty,pos,aft,g⟩:=by exact rfl)(hw:fE ops l g=true:=by exact rfl)(hc:fW l cal=some (.func (.func gf) #[] #[]):=by exact rfl)(hx:iW l az.toList=some vs:=by exact rfl)(hd:Nat.blt d n=true:=by exact rfl):gi P r f R w0 S Y n k ops hb (q+1) D l h:=gi.call (Rc:=Rc) (h1:=h1) (ho:=ho) (hw:=hw) (hc:=hc) (hx:=hx) (hd:=hd) (hcf:=hcf) (hcall:=hcall) (hk:=hk)
theorem gi.mI{i d:Nat}{v:aC} {pos:aA} {g:Option (Nat×Bool)}   {gf:ay} (h1:fL ops D=[i])(ho:ops[i]?=some ⟨some d,.call ⟨.value cal,az,ts⟩,ty,pos,aft,g⟩)(hw:fE ops l g=true)
  (hc:fW l cal=some (.func (.func gf) #[] #[]))(hx:iW l az.toList=some vs)(hd:Nat.blt d n=true)(hcf:∀args w,(callFunc gf args).run P w=.ok (.enter gf args) w)
  (hcall:∀w Y',St w0 S w h Y'->Cn P gf vs w (λu _=>u=v))(hs:hb.Sublist h)(hg:gi P r f R w0 S Y n k ops hb q (i::D) ((d,v)::l) h):gi P r f R w0 S Y n k ops hb (q+1) D l h:=
 gi.call (λ_ u _=>u=v) h1 ho hw hc hx hd hcf hcall (λ_u _ _ _ hS he e=>⟨h,hS.later he,hs,e ▸ hg⟩)
theorem gi.kh{i d:Nat}{v:aC} {pos:aA} {g:Option (Nat×Bool)}   {gf:ay} (hcf:∀args w,(callFunc gf args).run P w=.ok (.enter gf args) w)(hcall:∀w Y',St w0 S w h Y'->Cn P gf vs w (λu _=>u=v))(hs:hb.Sublist h)(hg:gi P r f R w0 S Y n k ops hb q (i::D) ((d,v)::l) h)(h1:fL ops D=[i]:=by exact rfl)(ho:ops[i]?=some ⟨some d,.call ⟨.value cal,az,ts⟩,ty,pos,aft,g⟩:=by exact rfl)(hw:fE ops l g=true:=by exact rfl)(hc:fW l cal=some (.func (.func gf) #[] #[]):=by exact rfl)(hx:iW l az.toList=some vs:=by exact rfl)(hd:Nat.blt d n=true:=by exact rfl):gi P r f R w0 S Y n k ops hb (q+1) D l h:=gi.mI (h1:=h1) (ho:=ho) (hw:=hw) (hc:=hc) (hx:=hx) (hd:=hd) (hcf:=hcf) (hcall:=hcall) (hs:=hs) (hg:=hg)
end
end
end Go.Proofs.Wit
