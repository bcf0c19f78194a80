/- Laws of walks, for any program, under the conditions that each theorem states. -/
import Derived.Test.YtaamcaiglooemaaGreatDoorXF27
set_option maxRecDepth 100000
set_option maxHeartbeats 4000000
namespace Go.Proofs.Wit
open Go
structure KM where
  n:Nat
  R:Nat→Nat→Nat→Prop
  V:Nat→Nat→Prop
  lt:∀k w u,w<n→R k w u→u<n
def KM.Gr (M:KM) (g:Nat) (w u:Nat):Prop:=∃k,k<4∧gb g k=1∧M.R k w u
inductive KM.KN (M:KM) (g:Nat) (c:Nat→Bool):Nat→Nat→Prop
  |one {w u:Nat}:M.Gr g w u→c u=true→KM.KN M g c w u
  |step {w u v:Nat}:KM.KN M g c w u→M.Gr g u v→c v=true→KM.KN M g c w v
section
variable {M:KM}
structure MK (M:KM) (l:Int):Prop where
  t:cJ l 3=true→∀k w,w<M.n→M.R k w w
  f:cJ l 4=true→∀k w u v,w<M.n→M.R k w u→M.R k u v→M.R k w v
  v:cJ l 5=true→∀k w u v,w<M.n→M.R k w u→M.R k w v→M.R k u v
  d:cJ l 6=true→∀k w,w<M.n→∃u,M.R k w u
end
end Go.Proofs.Wit
namespace Go.Proofs.Wit
open Go Go.RowKit
section
variable {n:Nat} {val:List aE} {rel:List (List aE)}
structure Mc (n:Nat) (val:List aE) (rel:List (List aE)) (f:List NV) (t:Tr):Prop where
  jk:aN f=0
  fit:Jg f rel.length val.length=true
  MB:lq (lW (ah f)) 1=0
  can:ah f=cg t
  top:aS f=t
  hold:Ja (n:Int) val rel f=0
  ok:t.ok
end
end Go.Proofs.Wit
namespace Go.Proofs.Wit
open Go
structure MN (n1:Nat) (v1:List aE) (r1:List (List aE)) (n:Nat) (v:List aE) (r:List (List aE)) (e:Nat→Nat):Prop where
  LC:n≤64
  LB:n1≤64
  lt:∀x,x<n1→e x<n
  val:∀i x,x<n1→((v.getD i 0#64).getLsbD (e x)=true↔(v1.getD i 0#64).getLsbD x=true)
  fwd:∀i x y,x<n1→Rl (r1.getD i []) x y→Rl (r.getD i []) (e x) (e y)
  bwd:∀i x z,x<n1→Rl (r.getD i []) (e x) z→∃y,y<n1∧z=e y∧Rl (r1.getD i []) x y
  Mv:∀i x y,Rl (r1.getD i []) x y→y<n1
section
variable {n1 n:Nat} {v1 v:List aE} {r1 r:List (List aE)} {e:Nat→Nat}
end
section
variable {na nb:Nat} {va vb:List aE} {ra rb:List (List aE)}
structure MI (na nb:Nat) (va vb:List aE) (ra rb:List (List aE)):Prop where
  a:JA (na:Int) va ra
  b:JA (nb:Int) vb rb
  rl:ra.length=rb.length
  vl:va.length=vb.length
  le:na+nb≤64
end
end Go.Proofs.Wit
namespace Go.Proofs.Wit
open Go Go.RowKit
section
variable {n:Nat} {val:List aE} {rel:List (List aE)}
theorem Eb {op:Int} (ho:1≤op∧op≤21):lq (z6 op).toNat 11=0↔op≤11∨op=13:=
 AQ (p:=fun op=>lq (z6 op).toNat 11=0↔op≤11∨op=13) (by decide) ho
theorem rI {f:List NV}:gN f=0↔aN f=0∧kz (fun op _ _=>op≤11∨op=13) (aS f):=by
 unfold gN;by_cases h1:aN f=0;rw [if_neg (by simp [h1]),dG h1,←D9 (aB.1 h1).top Eb];constructor;intro h;refine ⟨h1,Classical.byContradiction (fun h2=>?_)⟩;rw [if_pos h2] at h;exact absurd h (by decide);intro h;rw [if_neg (by simp [h.2])];rw [if_pos h1];exact ⟨fun h=>absurd h h1,fun h=>absurd h.1 h1⟩
end
theorem mq {l:Int} {ls:List LV}:ij l ls=0↔(0≤l∧l≤6)∧0<ls.length∧ls.length≤400∧∀(k:Nat) (hk:k<ls.length),dX l ls k ls[k]=0:=by
 have hs:∀{k:Nat},dw l ls k=0→∀hk:k<ls.length,dw l ls (k+1)=dX l ls k ls[k]:=fun {k} h hk=>by
  show (if dw l ls k≠0 then dw l ls k else match ls[k]? with|some x=>dX l ls k x|none=>0)=_;rw [if_neg (by simp [h]),List.getElem?_eq_getElem hk]
 have hb:∀{k:Nat},dw l ls k≠0→dw l ls (k+1)=dw l ls k:=fun {k} h=>by
  show (if dw l ls k≠0 then dw l ls k else _)=_;rw [if_pos h]
 have key:∀k,k≤ls.length→(dw l ls k=0↔∀(j:Nat) (hj:j<ls.length),j<k→dX l ls j ls[j]=0):=by
  intro k
  induction k with
  |zero=>exact fun _=>⟨fun _ j _ h=>absurd h (Nat.not_lt_zero _),fun _=>rfl⟩
  |succ k ih=>
   intro hk;have ih:=ih (by omega);constructor;intro h;have h0:dw l ls k=0:=Classical.byContradiction (fun hne=>hne (by rw [←hb hne];exact h));intro j hj hjk;by_cases e:j=k;subst e;rw [←hs h0 hj];exact h;exact ih.1 h0 j hj (by omega);intro h;have h0:=ih.2 (fun j hj hjk=>h j hj (by omega));rw [hs h0 (by omega)];exact h k (by omega) (by omega)
 unfold ij;by_cases h1:¬(0≤l∧l≤6);rw [if_pos h1];exact ⟨fun h=>absurd h (by decide),fun h=>absurd h.1 h1⟩;rw [if_neg h1];by_cases h2:ls.length=0;rw [if_pos h2];exact ⟨fun h=>absurd h (by decide),fun h=>absurd h.2.1 (by omega)⟩;rw [if_neg h2];by_cases h3:400<ls.length;rw [if_pos h3];exact ⟨fun h=>absurd h (by decide),fun h=>absurd h.2.2.1 (by omega)⟩;rw [if_neg h3,key _ (Nat.le_refl _)];exact ⟨fun h=>⟨Classical.not_not.1 h1,by omega,by omega,fun k hk=>h k hk hk⟩,fun h j hj _=>h.2.2.2 j hj⟩
structure LD where
  f:List NV
  r:Int
  a:Int
  b:Int
  g:Int
def LV.d (x:LV):LD:=⟨x.f.f,x.r,x.a,x.b,x.g⟩
def LD.v (x:LD):LV:=⟨⟨none,0,x.f⟩,x.r,x.a,x.b,x.g⟩
section
variable {l:Int} {ls ls':List LV}
theorem Ej (h:ls.map LV.d=ls'.map LV.d):ls.length=ls'.length:=by have:=congrArg List.length h;simpa using this
theorem He (h:ls.map LV.d=ls'.map LV.d) {k:Nat} (hk:k<ls.length) (hk':k<ls'.length):ls[k].d=ls'[k].d:=by
 have h1:(ls.map LV.d)[k]'(by simpa using hk)=(ls'.map LV.d)[k]'(by simpa using hk'):=by simp only [h]
 simpa using h1
theorem DQ (h:ls.map LV.d=ls'.map LV.d) (k:Int):uk ls k=uk ls' k:=by
 have e:ls.map (fun x=>aS x.f.f)=ls'.map (fun x=>aS x.f.f):=by
  have h1:∀l:List LV,l.map (fun x=>aS x.f.f)=(l.map LV.d).map (fun x=>aS x.f):=fun l=>by rw [List.map_map];rfl
  rw [h1,h1,h]
 unfold uk;rw [e]
theorem CB (h:ls.map LV.d=ls'.map LV.d) {x y:LV} (e:x.d=y.d):kB ls x↔kB ls' y:=by
 obtain ⟨⟨xa,xc,xf⟩,xr,x1,x2,x3⟩:=x;obtain ⟨⟨ya,yc,yf⟩,yr,y1,y2,y3⟩:=y;simp only [LV.d,LD.mk.injEq] at e;obtain ⟨rfl,rfl,rfl,rfl,rfl⟩:=e;unfold kB;simp only [DQ h]
theorem zw (h:ls.map LV.d=ls'.map LV.d) {i:Nat} {x y:LV} (e:x.d=y.d):dX l ls i x=dX l ls' i y:=by
 have h2:=CB h e;have en:jv i x=jv i y:=by
  obtain ⟨⟨xa,xc,xf⟩,xr,x1,x2,x3⟩:=x;obtain ⟨⟨ya,yc,yf⟩,yr,y1,y2,y3⟩:=y;simp only [LV.d,LD.mk.injEq] at e;obtain ⟨rfl,rfl,rfl,rfl,rfl⟩:=e;rfl
 have ef:x.f.f=y.f.f:=congrArg LD.f e;have er:x.r=y.r:=congrArg LD.r e;unfold dX;rw [en,ef,er];by_cases k:kB ls x;rw [if_pos k,if_pos (h2.1 k)];rw [if_neg k,if_neg (fun k'=>k (h2.2 k'))]
theorem xm (h:ls.map LV.d=ls'.map LV.d) (h0:ij l ls=0):ij l ls'=0:=by
 obtain ⟨h1,h2,h3,h4⟩:=mq.1 h0;have hl:=Ej h
 exact mq.2 ⟨h1,by omega,by omega,fun k hk=>by
  have:=h4 k (by omega);rw [←zw h (He h (by omega) hk)];exact this⟩
end
theorem nJ {l:Int} {ls:List LV} {i:Nat} {x:LV}:dX l ls i x=0↔gN x.f.f=0∧(1≤x.r∧x.r≤12)∧jv i x=0∧cJ l x.r=true∧kB ls x:=by
 constructor
 ·intro h
  unfold dX at h;by_cases h1:gN x.f.f=0
  rotate_left
  rw [if_pos h1] at h;exact absurd h h1;rw [if_neg (by simp [h1])] at h;by_cases h2:x.r<1∨12<x.r;rw [if_pos h2] at h;exact absurd h (by decide);rw [if_neg h2] at h;by_cases h3:jv i x=0
  rotate_left
  rw [if_pos h3] at h;exact absurd h h3;rw [if_neg (by simp [h3])] at h;by_cases h4:cJ l x.r=false;rw [if_pos h4] at h;exact absurd h (by decide);rw [if_neg h4] at h;by_cases h5:kB ls x
  rotate_left
  rw [if_neg h5] at h;exact absurd h (by decide);exact ⟨h1,by omega,h3,by simpa using h4,h5⟩
 rintro ⟨h1,h2,h3,h4,h5⟩;exact Bb h1 h2 h3 h4 h5
theorem sy {i:Int} {x:LV} (h1:1≤x.r) (h12:x.r≤12):jv i x=0↔¬rm x∧¬rk i x∧0≤x.g∧x.g<4:=by
 constructor;intro h;have k1:¬rm x:=fun k=>by rw [AR h1 h12 (.inl k)] at h;exact absurd h (by decide)
 have k2:¬rk i x:=fun k=>by rw [AR h1 h12 (.inr k)] at h;exact absurd h (by decide)
 rw [AS h1 h12 k1 k2] at h;refine ⟨k1,k2,?_⟩;by_cases h3:x.g<0∨x.g≥4;rw [if_pos h3] at h;exact absurd h (by decide);omega;rintro ⟨k1,k2,k3⟩;rw [AS h1 h12 k1 k2,if_neg (by omega)]
inductive H8 (ls:List LV):Nat→Prop
  |last {k:Nat}:k+1=ls.length→H8 ls k
  |a {k:Nat} (hk:k<ls.length):H8 ls k→10≤ls[k].r→H8 ls ls[k].a.toNat
  |b {k:Nat} (hk:k<ls.length):H8 ls k→ls[k].r=10→H8 ls ls[k].b.toNat
def cu (p:Nat→Bool) (k:Nat):Nat:=((List.range k).filter p).length
theorem iK {p:Nat→Bool} {k:Nat}:cu p (k+1)=cu p k+(if p k=true then 1 else 0):=by
 unfold cu;rw [List.range_succ,List.filter_append,List.length_append];cases h:p k<;>simp [h]
theorem uJ {p:Nat→Bool}:∀{k:Nat},cu p k≤k
 |0=>Nat.le_refl _
 |k+1=>by have:=uJ (p:=p) (k:=k);rw [iK];split<;>omega
theorem zN {p:Nat→Bool} {j k:Nat} (h:j≤k):cu p j≤cu p k:=by
 induction h with
 |refl=>exact Nat.le_refl _
 |step _ ih=>rw [iK];omega
theorem Eo {p:Nat→Bool} {j k:Nat} (h:j<k) (hp:p j=true):cu p j<cu p k:=by
 have:=zN (p:=p) (show j+1≤k from h);rw [iK,if_pos hp] at this;omega
theorem Hh {p:Nat→Bool} {n q:Nat} (h:q<cu p n):∃j,j<n∧p j=true∧cu p j=q:=by
 induction n with
 |zero=>exact absurd h (Nat.not_lt_zero _)
 |succ n ih=>
  rw [iK] at h;by_cases h1:q<cu p n;obtain ⟨j,h2,h3⟩:=ih h1;exact ⟨j,by omega,h3⟩;by_cases h2:p n=true;rw [if_pos h2] at h;exact ⟨n,by omega,h2,by omega⟩;rw [if_neg h2] at h;omega
section
variable {l:Int} {ls:List LV}
end
theorem oF {t:Tr}:Fit t↔bT t≠[]:=by unfold Fit;exact Fp.symm
open Classical in
noncomputable def eR (t:Tr):Tr:=if Fit (aF t) then (ay t).2 else aF t
theorem mf {t:Tr} (h:t.ok):(eR t).ok:=by
 unfold eR;split;exact (jL h).2;exact bE h
structure TL where
  t:Tr
  r:Int
  a:Nat
  b:Nat
  g:Int
def TL.v (x:TL):LV:=⟨⟨none,0,bT x.t⟩,x.r,x.a,x.b,x.g⟩
structure Sg where
  ls:List TL
  bad:Bool
def gi (σ:Sg) (n:Nat):Tr:=(σ.ls.map TL.t).getD n (.leaf 0 0 0 0)
def cD (ts:List Tr) (g:Tr):Tr:=ts.foldr aL g
theorem ku:∀{ts:List Tr} {g:Tr},(∀u∈ts,u.ok)→g.ok→(cD ts g).ok
 |[],_,_,h=>h
 |t::ts,_,h,hg=>dn (h t (List.mem_cons_self ..)) (ku (ts:=ts) (fun u hu=>h u (List.mem_cons_of_mem _ hu)) hg)
section
variable (T:Tr→Prop)
open Classical in
noncomputable def bP (t:Tr) (r:Int) (a b:Nat) (g:Int) (σ:Sg):Nat×Sg:=
 if σ.bad=true∨¬Fit t∨400≤σ.ls.length∨(r=1∧¬T t) then (0,⟨σ.ls,true⟩) else (σ.ls.length,⟨σ.ls++[⟨t,r,a,b,g⟩],false⟩)
noncomputable def jZ (g:Tr):List (Nat×Tr)→Nat→Sg→Nat×Sg
 |[],n,σ=>(n,σ)
 |p::ps,n,σ=>jZ g ps (bP T (cD (ps.map (·.2)) g) 10 p.1 n 0 σ).1 (bP T (cD (ps.map (·.2)) g) 10 p.1 n 0 σ).2
noncomputable def aT (g:Tr) (from_:List Nat) (σ:Sg):Nat×Sg:=
 if σ.bad=true then (0,σ) else
  jZ T g (from_.map (fun n=>(n,gi σ n))) (bP T (cD (from_.map (gi σ)) g) 1 0 0 0 σ).1 (bP T (cD (from_.map (gi σ)) g) 1 0 0 0 σ).2
noncomputable def kW (i:Int) (p q:Tr) (σ:Sg):Nat×Sg:=bP T (aL (ar i (aL p q)) (aL (ar i p) (ar i q))) 2 0 0 0 σ
noncomputable def gO (i:Int) (p q:Tr) (line:Nat) (σ:Sg):Nat×Sg:=
 let n:=bP T (ar i (aL p q)) 11 line 0 i σ
 let k:=kW T i p q n.2
 bP T (aL (ar i p) (ar i q)) 10 n.1 k.1 0 k.2
noncomputable def dT (i:Int) (v:Tr) (σ:Sg):Nat×Sg:=bP T (nV (gp i v) (aF (ar i (aF v)))) 7 0 0 0 σ
noncomputable def kq (ei:Bool) (t:Tr):Tr:=if ei=true then .bin 6 0 0 0 t (eR t) else aF (jG t (eR t))
noncomputable def uT (op:Int) (a:Tr):Tr:=if op=9 then a else eR a
noncomputable def vT (op:Int) (a:Tr):Tr:=if op=9 then eR a else a
noncomputable def ph (ei:Bool) (op:Int) (a:Tr):Tr:=if ei=true then aF (vT op a) else uT op a
noncomputable def pe (ei:Bool) (op:Int) (a:Tr):Tr:=if ei=true then uT op a else aF (vT op a)
noncomputable def pr (ei:Bool) (op i:Int) (a t:Tr) (x:Nat) (σ:Sg):Nat×Sg:=
 let l:=aT T (aL (ph ei op a) (pe ei op a)) [x] σ
 let d:=gO T i (ph ei op a) (pe ei op a) l.1 l.2
 let s:=dT T i (vT op a) d.2
 aT T (kq ei t) [d.1,s.1] s.2
noncomputable def aA (ei:Bool):Tr→Sg→Nat×Sg
 |.leaf op i e g,σ=>aT T (kq ei (.leaf op i e g)) [] σ
 |.un op i e g a,σ=>if op=9∨op=10 then pr T ei op i a (.un op i e g a) (aA ei a σ).1 (aA ei a σ).2 else aT T (kq ei (.un op i e g a)) [] σ
 |.bin op i e g a b,σ=>aT T (kq ei (.bin op i e g a b)) [(aA ei a σ).1,(aA ei b (aA ei a σ).2).1] (aA ei b (aA ei a σ).2).2
noncomputable def lX (i:Int) (f:Tr) (σ:Sg):Nat×Sg:=
 match f with
 |.un 10 _ _ _ z=>
  let nz:=aF (ar i (aF z))
  let s:=dT T i z σ
  let f5:=bP T (aL nz (ar i nz)) 5 0 0 0 s.2
  let bk:=aT T (aL nz f) [s.1] f5.2
  let kn:=gO T i nz f bk.1 bk.2
  aT T (aL f (ar i f)) [s.1,f5.1,kn.1] kn.2
 |_=>bP T (aL f (ar i f)) 4 0 0 0 σ
end
structure Sg.Le (σ σ':Sg):Prop where
  pre:σ.ls<+:σ'.ls
  ok:σ'.bad=false→σ.bad=false
theorem Sg.Le.refl (σ:Sg):σ.Le σ:=⟨List.prefix_refl _,id⟩
theorem Sg.Le.trans {σ σ' σ'':Sg} (h:σ.Le σ') (g:σ'.Le σ''):σ.Le σ'':=⟨h.pre.trans g.pre,fun e=>h.ok (g.ok e)⟩
def dx (σ:Sg) (n:Nat) (t:Tr):Prop:=σ.bad=false→n<σ.ls.length∧gi σ n=t
theorem C2 {σ σ':Sg} (h:σ.Le σ') {n:Nat} (hn:n<σ.ls.length):gi σ' n=gi σ n:=by
 obtain ⟨u,hu⟩:=h.pre;unfold gi;rw [←hu,List.map_append];simp [List.getD_eq_getElem?_getD,List.getElem?_append_left (show n<(σ.ls.map TL.t).length by simpa using hn)]
theorem dx.le {σ σ':Sg} {n:Nat} {t:Tr} (h:dx σ n t) (g:σ.Le σ'):dx σ' n t:=fun e=>by
 obtain ⟨h1,h2⟩:=h (g.ok e);exact ⟨Nat.lt_of_lt_of_le h1 g.pre.length_le,by rw [C2 g h1];exact h2⟩
section
variable {T:Tr→Prop} {t g:Tr} {r i:Int} {a b n:Nat} {σ:Sg}
theorem fC (h:σ.bad=true) {gg:Int}:bP T t r a b gg σ=(0,σ):=by
 rw [bP,if_pos (.inl h),←h]
theorem dD {gg:Int}:σ.Le (bP T t r a b gg σ).2:=by
 unfold bP;split;exact ⟨List.prefix_refl _,fun e=>by cases e⟩;rename_i h;exact ⟨List.prefix_append _ _,fun _=>by
  cases hb:σ.bad with
  |false=>rfl
  |true=>exact absurd (.inl hb) h⟩
theorem cz {gg:Int}:dx (bP T t r a b gg σ).2 (bP T t r a b gg σ).1 t:=by
 unfold bP;split;intro e;cases e;intro _;exact ⟨by simp,by simp [gi,List.getD_eq_getElem?_getD]⟩
theorem A2 {ps:List (Nat×Tr)}:∀{n:Nat},σ.bad=true→jZ T g ps n σ=(if ps=[] then n else 0,σ):=by
 induction ps with
 |nil=>intro n _;rfl
 |cons p ps ih=>
  intro n h;rw [jZ,fC h,ih h];split<;>rfl
theorem DL {ps:List (Nat×Tr)}:∀{n:Nat} {σ:Sg},σ.Le (jZ T g ps n σ).2:=by
 induction ps with
 |nil=>intro n σ;exact Sg.Le.refl _
 |cons p ps ih=>intro n σ;exact dD.trans ih
theorem dA {from_:List Nat}:σ.Le (aT T g from_ σ).2:=by
 unfold aT;split;exact Sg.Le.refl _;exact dD.trans DL
theorem A1 {ps:List (Nat×Tr)}:∀{n:Nat} {σ:Sg},dx σ n (cD (ps.map (·.2)) g)→dx (jZ T g ps n σ).2 (jZ T g ps n σ).1 g:=by
 induction ps with
 |nil=>intro n σ h;exact h
 |cons p ps ih=>intro n σ _;exact ih cz
theorem ep {from_:List Nat}:dx (aT T g from_ σ).2 (aT T g from_ σ).1 g:=by
 unfold aT;split;rename_i h;intro e;rw [h] at e;cases e;refine A1 ?_;rw [List.map_map];exact cz
theorem fV {from_:List Nat} (h:σ.bad=true):aT T g from_ σ=(0,σ):=by rw [aT,if_pos h]
theorem vK {p q:Tr}:σ.Le (kW T i p q σ).2:=dD
theorem oK {p q:Tr} {l:Nat}:σ.Le (gO T i p q l σ).2:=dD.trans (dD.trans dD)
theorem kX {p q:Tr} {l:Nat}:dx (gO T i p q l σ).2 (gO T i p q l σ).1 (aL (ar i p) (ar i q)):=cz
theorem BQ {p q:Tr} {l:Nat} (h:σ.bad=true):gO T i p q l σ=(0,σ):=by simp only [gO,kW];rw [fC h];dsimp only;rw [fC h];dsimp only;rw [fC h]
theorem jt {v:Tr}:σ.Le (dT T i v σ).2:=dD
theorem DN {ei:Bool} {op:Int} {a t:Tr} {x:Nat}:σ.Le (pr T ei op i a t x σ).2:=dA.trans (oK.trans (jt.trans dA))
theorem A4 {ei:Bool} {op:Int} {a t:Tr} {x:Nat} (h:σ.bad=true):pr T ei op i a t x σ=(0,σ):=by
 simp only [pr];rw [fV h];dsimp only;rw [BQ h];dsimp only;rw [dT,fC h];dsimp only;rw [fV h]
theorem A3 {ei:Bool} {op:Int} {a t:Tr} {x:Nat}:dx (pr T ei op i a t x σ).2 (pr T ei op i a t x σ).1 (kq ei t):=ep
theorem kU {ei:Bool}:∀{t:Tr} {σ:Sg},σ.bad=true→aA T ei t σ=(0,σ)
 |.leaf op i e g,σ,h=>by rw [aA,fV h]
 |.un op i e g a,σ,h=>by
  rw [aA];split;rw [kU (t:=a) h,A4 h];rw [fV h]
 |.bin op i e g a b,σ,h=>by rw [aA,kU (t:=a) h];dsimp only;rw [kU (t:=b) h];dsimp only;rw [fV h]
theorem ic {ei:Bool}:∀{t:Tr} {σ:Sg},σ.Le (aA T ei t σ).2
 |.leaf op i e g,σ=>by rw [aA];exact dA
 |.un op i e g a,σ=>by
  rw [aA];split;exact (ic (t:=a)).trans DN;exact dA
 |.bin op i e g a b,σ=>by rw [aA];exact (ic (t:=a)).trans ((ic (t:=b)).trans dA)
theorem dJ {ei:Bool}:∀{t:Tr} {σ:Sg},dx (aA T ei t σ).2 (aA T ei t σ).1 (kq ei t)
 |.leaf op i e g,σ=>by rw [aA];exact ep
 |.un op i e g a,σ=>by
  rw [aA];split;exact A3;exact ep
 |.bin op i e g a b,σ=>by rw [aA];exact ep
theorem uO {f:Tr}:σ.Le (lX T i f σ).2:=by
 unfold lX;split;exact jt.trans (dD.trans (dA.trans (oK.trans dA)));exact dD
theorem r8 {f:Tr}:dx (lX T i f σ).2 (lX T i f σ).1 (aL f (ar i f)):=by
 unfold lX;split;exact ep;exact cz
end
def ae (t:Tr):Prop:=∃l:List Tr,l.Nodup∧(∀u,u∈l↔u∈jl t)∧l.length≤10
def fD (t:Tr):Prop:=t.ok∧kz (fun op _ _=>op≤11∨op=13) t
theorem fD.im {a b:Tr} (h:fD a) (g:fD b):fD (aL a b):=⟨dn h.1 g.1,.inl (by decide),h.2,g.2⟩
theorem fD.ad {a b:Tr} (h:fD a) (g:fD b):fD (jG a b):=⟨ga h.1 g.1,.inl (by decide),h.2,g.2⟩
theorem fD.or {a b:Tr} (h:fD a) (g:fD b):fD (.bin 6 0 0 0 a b):=⟨gJ h.1 g.1,.inl (by decide),h.2,g.2⟩
theorem fD.if {a b:Tr} (h:fD a) (g:fD b):fD (nV a b):=⟨th h.1 g.1,.inl (by decide),h.2,g.2⟩
theorem fD.nt {a:Tr} (h:fD a):fD (aF a):=⟨bE h.1,.inl (by decide),h.2⟩
theorem fD.kw {a:Tr} {i:Int} (hi:0≤i∧i<4) (h:fD a):fD (ar i a):=⟨aW hi h.1,.inl (by decide),h.2⟩
theorem fD.po {a:Tr} {i:Int} (hi:0≤i∧i<4) (h:fD a):fD (gp i a):=⟨ie (.inr rfl) hi h.1,.inl (by decide),h.2⟩
theorem fD.ch:∀{ts:List Tr} {g:Tr},(∀u∈ts,fD u)→fD g→fD (cD ts g)
 |[],_,_,h=>h
 |t::ts,_,h,hg=>(h t (List.mem_cons_self ..)).im (fD.ch (ts:=ts) (fun u hu=>h u (List.mem_cons_of_mem _ hu)) hg)
def nC:Tr→Prop
 |.leaf op _ _ _=>op≤3
 |.un op _ _ _ a=>(op=4∧∃i e g,a=.leaf 3 i e g)∨((op=9∨op=10)∧nC a)
 |.bin op _ _ _ a b=>(op=5∨op=6)∧nC a∧nC b
theorem nC.Bu:∀{t:Tr},nC t→kz (fun op _ _=>op≤11∨op=13) t
 |.leaf op _ _ _,h=>.inl (by have:op≤3:=h;omega)
 |.un op _ _ _ a,h=>by
  rcases h with ⟨h1,i,e,g,rfl⟩|⟨h1,h2⟩;exact ⟨.inl (by omega),.inl (by decide)⟩;exact ⟨.inl (by omega),h2.Bu⟩
 |.bin op _ _ _ a b,h=>⟨.inl (by have:=h.1;omega),h.2.1.Bu,h.2.2.Bu⟩
theorem ye:∀{t:Tr},nC t→t.ok→fD (ay t).2
 |.leaf op i e g,h,hok=>by
  have ho:op≤3:=h;rw [ay];dsimp only;split;exact ⟨⟨by decide,rfl,by decide⟩,.inl (by decide)⟩;split;exact ⟨⟨by decide,rfl,by decide⟩,.inl (by decide)⟩;exact fD.nt ⟨hok,.inl (by omega)⟩
 |.un op i e g a,h,hok=>by
  rcases h with ⟨rfl,j,e',g',rfl⟩|⟨h1,h2⟩;rw [ay,if_pos rfl];exact ⟨(jL hok.2.2.2.2).1,.inl (by decide)⟩;have hf:=ye h2 hok.2.2.2.2;have hi:=(nj hok h1).1;rcases h1 with rfl|rfl;rw [ay,if_neg (by decide),if_pos rfl];exact hf.po hi;rw [ay,if_neg (by decide),if_neg (by decide),if_pos rfl];exact hf.kw hi
 |.bin op i e g a b,h,hok=>by
  have ha:=ye h.2.1 hok.2.2.2.1;have hb:=ye h.2.2 hok.2.2.2.2;rcases h.1 with rfl|rfl;rw [ay,if_pos rfl];exact ha.or hb;rw [ay,if_neg (by decide),if_pos rfl];exact ha.ad hb
theorem nC.fr {t:Tr} (h:nC t) (hok:t.ok):fD t:=⟨hok,h.Bu⟩
theorem nC.op {t:Tr} (h:nC t) (hok:t.ok):fD (eR t):=by
 unfold eR;split;exact ye h hok;exact (h.fr hok).nt
theorem p8 {r:Tr→Bool} {a b:Tr}:cC r (aL a b)=(!cC r a||cC r b):=rfl
theorem Ks {r:Tr→Bool} {a b:Tr}:cC r (jG a b)=(cC r a && cC r b):=rfl
theorem Jh {r:Tr→Bool} {a b:Tr} {i e g:Int}:cC r (.bin 6 i e g a b)=(cC r a||cC r b):=rfl
theorem Ee {r:Tr→Bool} {a b:Tr}:cC r (nV a b)=(cC r a==cC r b):=rfl
theorem sD {r:Tr→Bool} {a:Tr}:cC r (aF a)=!cC r a:=rfl
theorem xh {r:Tr→Bool}:∀{ts:List Tr} {g:Tr},cC r (cD ts g)=true↔((∀u∈ts,cC r u=true)→cC r g=true)
 |[],g=>by simp [cD]
 |t::ts,g=>by
  show cC r (aL t (cD ts g))=true↔_;rw [p8,Bool.or_eq_true,xh];cases ht:cC r t with
  |false=>simp [ht]
  |true=>simp [ht]
def KX (l:Int) (σ:Sg) (t:Tr) (r:Int) (a b:Nat) (g:Int):Prop:=
 fD t∧cJ l r=true∧((r=1∧a=0∧b=0∧g=0∧∀v,cC v t=true)∨(2≤r∧r<10∧a=0∧b=0∧g=0∧pY r t)∨(r=10∧g=0∧∃A,dx σ a A∧dx σ b (aL A t))∨(r=11∧b=0∧(0≤g∧g<4)∧∃A,dx σ a A∧t=ar g A))
structure Good (l:Int) (σ:Sg):Prop where
  len:σ.ls.length≤400
  tok:∀(k:Nat) (hk:k<σ.ls.length),σ.ls[k].t.ok
  ok:∀(k:Nat) (hk:k<(σ.ls.map TL.v).length),dX l (σ.ls.map TL.v) k (σ.ls.map TL.v)[k]=0
structure uW (l:Int) (P:(Tr→Prop)→Sg→Nat×Sg) (σ:Sg):Prop where
  same:P ae σ=P bC σ
  dQ:Good l (P ae σ).2
theorem zv {l:Int} {ls:List LV} {i:Nat} {x:LV} (us:List LV) (hi:i≤ls.length) (h:dX l ls i x=0):dX l (ls++us) i x=0:=by
 rw [nJ] at h⊢;obtain ⟨h1,h2,h3,h4,h5⟩:=h;refine ⟨h1,h2,h3,h4,?_⟩;have hp:=me h2.1 h2.2;obtain ⟨n1,n2,_⟩:=sT h3;have hget:∀k:Int,0≤k→k<i→uk (ls++us) k=uk ls k:=fun k h0 hk=>by
  unfold uk;rw [List.map_append];simp only [List.getD_eq_getElem?_getD];rw [List.getElem?_append_left (by rw [List.length_map];omega)]
 unfold kB at h5⊢;split at h5;rename_i e;rw [if_pos e];have ha:=kk n1 (by omega);have hb:=kk n2 (by omega);rw [hget _ hb.1 hb.2,hget _ ha.1 ha.2];exact h5;rename_i e;rw [if_neg e];split at h5;rename_i e1;rw [if_pos e1,hget _ (kk n1 (by omega)).1 (kk n1 (by omega)).2];exact h5;rename_i e1;rw [if_neg e1];split at h5;rename_i e2;rw [if_pos e2,hget _ (kk n1 (by omega)).1 (kk n1 (by omega)).2];exact h5;rename_i e2;rw [if_neg e2];exact h5
theorem qm {t:Tr} (h:t.ok) (hf:Fit t):aS (bT t)=t:=(Cf.CE h (oF.1 hf)).top
theorem BA {t:Tr} (h:fD t) (hf:Fit t):gN (bT t)=0:=rI.2 ⟨(Cf.CE h.1 (oF.1 hf)).jk,by rw [qm h.1 hf];exact h.2⟩
section
variable {l:Int} {σ:Sg}
theorem Good.line (h:Good l σ) {k:Nat} (hk:k<σ.ls.length):fD σ.ls[k].t∧Fit σ.ls[k].t:=by
 have h1:=h.ok k (by simpa using hk);have h2:gN (bT σ.ls[k].t)=0:=by
  have:=(nJ.1 h1).1;simpa [TL.v] using this
 have hc:=rI.1 h2;have hne:bT σ.ls[k].t≠[]:=fun e=>by rw [e] at h2;exact absurd h2 (by decide)
 have hfit:=oF.2 hne;refine ⟨?_,hfit⟩;have htop:aS (bT σ.ls[k].t)=σ.ls[k].t:=qm (h.tok k hk) hfit;exact ⟨h.tok k hk,by rw [←htop];exact hc.2⟩
theorem xG {k:Nat} (hk:k<σ.ls.length):gi σ k=σ.ls[k].t:=by simp [gi,List.getD_eq_getElem?_getD,hk]
theorem Good.has (h:Good l σ) (hb:σ.bad=false) {n:Nat} {t:Tr} (ht:dx σ n t):fD t∧Fit t:=by
 obtain ⟨h1,h2⟩:=ht hb;rw [←h2,xG h1];exact h.line h1
theorem wU (h:Good l σ) {k:Nat} (hk:k<σ.ls.length) {us:List LV}:uk (σ.ls.map TL.v++us) (k:Int)=gi σ k:=by
 rw [oz (k:=k) (by simp;omega) rfl,List.getElem_append_left (by simpa using hk),xG hk];simp only [List.getElem_map,TL.v];exact qm (h.line hk).1.1 (h.line hk).2
theorem Ec {ls:List LV} {x:LV} {t:Tr} (ht:aS x.f.f=t) (h:(x.r=10∧uk ls x.b=aL (uk ls x.a) t)∨(x.r=11∧t=ar x.g (uk ls x.a))∨(x.r<10∧pY x.r t)):kB ls x:=by
 subst ht;unfold kB;rcases h with ⟨h1,h2⟩|⟨h1,h2⟩|⟨h1,h2⟩;rw [if_pos h1];exact h2;rw [if_neg (by omega),if_pos h1];exact h2;rw [if_neg (by omega),if_neg (by omega),if_neg (by omega)];exact h2
theorem ir {t:Tr} {r g:Int} {a b:Nat} (h:Good l σ) (ha:σ.bad=false→Fit t→KX l σ t r a b g):uW l (fun T=>bP T t r a b g) σ:=by
 have hsame:bP ae t r a b g σ=bP bC t r a b g σ:=by
  cases hb:σ.bad with
  |true=>rw [fC hb,fC hb]
  |false=>
   by_cases hf:Fit t
   ·obtain ⟨_,_,hc⟩:=ha hb hf
    by_cases hr:r=1
    ·have:ae t=bC t:=by
      rcases hc with ⟨h1,_,_,_,h2⟩|⟨h1,_⟩|⟨h1,_⟩|⟨h1,_⟩;exact propext ⟨fun h=>⟨h,h2⟩,fun h=>h.1⟩
      all_goals omega
     unfold bP;rw [this]
    have e:∀T:Tr→Prop,(σ.bad=true∨¬Fit t∨400≤σ.ls.length∨(r=1∧¬T t))↔(400≤σ.ls.length):=fun T=>
     ⟨fun h=>by
      rcases h with h|h|h|h;rw [hb] at h;cases h;exact absurd hf h;exact h;exact absurd h.1 hr,fun h=>.inr (.inr (.inl h))⟩;unfold bP;by_cases h4:400≤σ.ls.length;rw [if_pos ((e _).2 h4),if_pos ((e _).2 h4)];rw [if_neg (fun h=>h4 ((e _).1 h)),if_neg (fun h=>h4 ((e _).1 h))]
   unfold bP;rw [if_pos (.inr (.inl hf)),if_pos (.inr (.inl hf))]
 refine ⟨hsame,?_⟩;unfold bP;split;exact ⟨h.len,h.tok,h.ok⟩;rename_i hn;have hb:σ.bad=false:=by
  cases e:σ.bad with
  |false=>rfl
  |true=>exact absurd (.inl e) hn
 have hf:Fit t:=Classical.byContradiction fun e=>hn (.inr (.inl e));have hlen:σ.ls.length<400:=by
  have:¬400≤σ.ls.length:=fun e=>hn (.inr (.inr (.inl e)));omega
 have hT:r=1→ae t:=fun e=>Classical.byContradiction fun e'=>hn (.inr (.inr (.inr ⟨e,e'⟩)));obtain ⟨hfr,hl,hc⟩:=ha hb hf;refine ⟨by simp;omega,fun k hk=>?_,fun k hk=>?_⟩;by_cases hkl:k<σ.ls.length;rw [List.getElem_append_left hkl];exact h.tok k hkl;rw [List.getElem_append_right (by omega)];simp only [List.length_append,List.length_cons,List.length_nil] at hk;have:k - σ.ls.length=0:=by omega
 simp only [this,List.getElem_cons_zero];exact hfr.1;simp only [List.map_append,List.map_cons,List.map_nil] at hk⊢;simp only [List.length_append,List.length_map,List.length_cons,List.length_nil] at hk;by_cases hkl:k<σ.ls.length;rw [List.getElem_append_left (by simpa using hkl)];exact zv _ (by simp;omega) (h.ok k (by simpa using hkl));have hke:k=σ.ls.length:=by omega
 subst hke;rw [List.getElem_append_right (by simp)];simp only [List.length_map,Nat.sub_self,List.getElem_cons_zero];have htop:aS (TL.v ⟨t,r,a,b,g⟩).f.f=t:=qm hfr.1 hf;rw [nJ];refine ⟨BA hfr hf,?_,?_,hl,?_⟩;show 1≤r∧r≤12;rcases hc with ⟨h1,_⟩|⟨h1,h2,_⟩|⟨h1,_⟩|⟨h1,_⟩<;>omega
 rw [sy (by show 1≤r;rcases hc with ⟨h1,_⟩|⟨h1,h2,_⟩|⟨h1,_⟩|⟨h1,_⟩<;>omega) (by show r≤12;rcases hc with ⟨h1,_⟩|⟨h1,h2,_⟩|⟨h1,_⟩|⟨h1,_⟩<;>omega)];unfold rm rk;simp only [TL.v];rcases hc with ⟨h1,h2,h3,h4,_⟩|⟨h1,h2,h3,h4,h5,_⟩|⟨h1,h2,A,hA,hB⟩|⟨h1,h2,h3,A,hA,_⟩;subst h2 h3 h4 h1;omega;subst h3 h4 h5;omega;have:=(hA hb).1;have:=(hB hb).1;omega;have:=(hA hb).1;omega;refine Ec htop ?_;rcases hc with ⟨h1,h2,h3,h4,h5⟩|⟨h1,h2,h3,h4,h5,h6⟩|⟨h1,h2,A,hA,hB⟩|⟨h1,h2,h3,A,hA,h4⟩;refine .inr (.inr ⟨show r<10 by omega,?_⟩);show pY r t;rw [h1];exact ⟨hT h1,h5⟩;exact .inr (.inr ⟨h2,h6⟩);refine .inl ⟨h1,?_⟩;show uk _ (b:Int)=aL (uk _ (a:Int)) t;rw [wU h (hA hb).1,wU h (hB hb).1,(hA hb).2,(hB hb).2];refine .inr (.inl ⟨h1,?_⟩);show t=ar g (uk _ (a:Int));rw [wU h (hA hb).1,(hA hb).2];exact h4
theorem yk {g:Tr} (hg:fD g):∀{ps:List (Nat×Tr)} {n:Nat} {σ:Sg},Good l σ→cJ l 10=true→(∀p∈ps,dx σ p.1 p.2)→dx σ n (cD (ps.map (·.2)) g)→uW l (fun T=>jZ T g ps n) σ
 |[],n,σ,h,_,_,_=>⟨rfl,h⟩
 |p::ps,n,σ,h,h10,hps,hn=>by
  have hadm:σ.bad=false→Fit (cD (ps.map (·.2)) g)→KX l σ (cD (ps.map (·.2)) g) 10 p.1 n 0:=fun hb _=>
   ⟨fD.ch (fun u hu=>by
    obtain ⟨q,hq,rfl⟩:=List.mem_map.1 hu;exact (h.has hb (hps q (List.mem_cons_of_mem _ hq))).1) hg,h10,.inr (.inr (.inl ⟨rfl,rfl,p.2,hps p (List.mem_cons_self ..),hn⟩))⟩;have h1:=ir h hadm;have h2:=yk hg (ps:=ps) (n:=(bP ae (cD (ps.map (·.2)) g) 10 p.1 n 0 σ).1) h1.dQ h10 (fun q hq=>(hps q (List.mem_cons_of_mem _ hq)).le dD) cz;refine ⟨?_,h2.dQ⟩;show jZ ae g ps _ _=jZ bC g ps _ _;have e:=h1.same;rw [←e];exact h2.same
theorem G1 (l:Int) {r:Int} (h:r=1∨r=2∨r=7∨r=10∨r=11):cJ l r=true:=by
 unfold cJ;rw [if_neg (by omega),if_neg (by omega),if_neg (by omega),if_neg (by omega)]
theorem ej {g:Tr} {from_:List Nat} (h:Good l σ) (hg:fD g) (hf:σ.bad=false→∀n∈from_,n<σ.ls.length) (ht:σ.bad=false→Fit g→∀v,(∀n∈from_,cC v (gi σ n)=true)→cC v g=true):uW l (fun T=>aT T g from_) σ:=by
 cases hb:σ.bad with
 |true=>exact ⟨by rw [fV hb,fV hb],by rw [fV hb];exact h⟩
 |false=>
  have hhas:∀n∈from_,dx σ n (gi σ n):=fun n hn=>fun _=>⟨hf hb n hn,rfl⟩;have hfit:∀ts:List Tr,Fit (cD ts g)→Fit g:=fun ts=>by
   induction ts with
   |nil=>exact id
   |cons t ts ih=>exact fun h=>ih (Fit.r h)
  have hadm:σ.bad=false→Fit (cD (from_.map (gi σ)) g)→KX l σ (cD (from_.map (gi σ)) g) 1 0 0 0:=fun _ hft=>
   ⟨fD.ch (fun u hu=>by
    obtain ⟨q,hq,rfl⟩:=List.mem_map.1 hu;exact (h.has hb (hhas q hq)).1) hg,G1 l (.inl rfl),.inl ⟨rfl,rfl,rfl,rfl,fun v=>xh.2 fun hall=>ht hb (hfit _ hft) v (fun n hn=>hall _ (List.mem_map_of_mem hn))⟩⟩;have h1:=ir h hadm;have h2:=yk hg (ps:=from_.map (fun n=>(n,gi σ n))) (n:=(bP ae (cD (from_.map (gi σ)) g) 1 0 0 0 σ).1) h1.dQ (G1 l (by omega)) (fun q hq=>by
   obtain ⟨n,hn,rfl⟩:=List.mem_map.1 hq;exact (hhas n hn).le dD) (by rw [List.map_map];exact cz);have e:=h1.same;have e2:=h2.same;have g2:=h2.dQ;constructor;unfold aT;rw [if_neg (by rw [hb];decide),if_neg (by rw [hb];decide),←e];exact e2;unfold aT;rw [if_neg (by rw [hb];decide)];exact g2
theorem Fb {i:Int} {p q:Tr} (hi:0≤i∧i<4) (h:Good l σ) (hp:fD p) (hq:fD q):uW l (fun T=>kW T i p q) σ:=
 ir h (fun _ _=>⟨(hp.im hq|>.kw hi).im ((hp.kw hi).im (hq.kw hi)),G1 l (by omega),.inr (.inl ⟨by decide,by decide,rfl,rfl,rfl,⟨i,p,q,rfl⟩⟩)⟩)
theorem uc {i:Int} {v:Tr} (hi:0≤i∧i<4) (h:Good l σ) (hv:fD v):uW l (fun T=>dT T i v) σ:=
 ir h (fun _ _=>⟨(hv.po hi).if (hv.nt.kw hi).nt,G1 l (by omega),.inr (.inl ⟨by decide,by decide,rfl,rfl,rfl,⟨i,v,rfl⟩⟩)⟩)
theorem yF {i:Int} {p q:Tr} {n:Nat} (hi:0≤i∧i<4) (h:Good l σ) (hp:fD p) (hq:fD q) (hn:dx σ n (aL p q)):uW l (fun T=>gO T i p q n) σ:=by
 have h1:uW l (fun T=>bP T (ar i (aL p q)) 11 n 0 i) σ:=ir h (fun _ _=>⟨(hp.im hq).kw hi,G1 l (by omega),.inr (.inr (.inr ⟨rfl,rfl,hi,_,hn,rfl⟩))⟩);have h2:=Fb (i:=i) (p:=p) (q:=q) hi h1.dQ hp hq;have a1:dx _ _ (ar i (aL p q)):=cz (T:=ae) (σ:=σ) (t:=ar i (aL p q)) (r:=11) (a:=n) (b:=0) (gg:=i);have a2:dx _ _ (aL (ar i (aL p q)) (aL (ar i p) (ar i q))):=cz (T:=ae) (σ:=(bP ae (ar i (aL p q)) 11 n 0 i σ).2) (t:=aL (ar i (aL p q)) (aL (ar i p) (ar i q))) (r:=2) (a:=0) (b:=0) (gg:=0);have h3:=ir (t:=aL (ar i p) (ar i q)) (r:=10) (a:=(bP ae (ar i (aL p q)) 11 n 0 i σ).1) (b:=(kW ae i p q (bP ae (ar i (aL p q)) 11 n 0 i σ).2).1) (g:=0) h2.dQ (fun _ _=>⟨(hp.kw hi).im (hq.kw hi),G1 l (by omega),.inr (.inr (.inl ⟨rfl,rfl,_,a1.le vK,a2⟩))⟩);have e1:=h1.same;have e2:=h2.same;have e3:=h3.same;constructor;simp only [gO];rw [←e1,←e2];exact e3;exact h3.dQ
end
theorem qA {t:Tr} (h:Fit (eR t)):Fit (aF t)∧eR t=(ay t).2:=by
 unfold eR at*;split at h;rename_i hf;rw [if_pos hf];exact ⟨hf,rfl⟩;rename_i hf;exact absurd h hf
theorem xg {t c:Tr} (h:Fit (aF t)) (hc:c∈kids t):Fit (aF c):=by
 have h1:=jQ hc;have h2:(cg (aF t)).length=(cg t).length+1:=qH;have h3:(cg (aF c)).length=(cg c).length+1:=qH;unfold Fit at*;omega
theorem rj {t:Tr} (h:Fit (aF t)):eR t=(ay t).2:=if_pos h
theorem uK {ei:Bool} {t:Tr} (h:Fit (kq ei t)):Fit (eR t):=by
 unfold kq at h;split at h;exact Fit.r h;exact Fit.r (Fit.u h)
theorem pU {ei:Bool} {t:Tr} {v:Tr→Bool}:cC v (kq ei t)=if ei=true then (cC v t||cC v (eR t)) else !(cC v t && cC v (eR t)):=by
 unfold kq;split<;>rfl
theorem BZ {ei:Bool} {t:Tr} {v:Tr→Bool} (h:cC v (eR t)=!cC v t):cC v (kq ei t)=true:=by
 rw [pU,h];cases cC v t<;>cases ei<;>rfl
theorem yI {ei:Bool} {t:Tr} (h:nC t) (hok:t.ok):fD (kq ei t):=by
 unfold kq;split;exact (h.fr hok).or (h.op hok);exact ((h.fr hok).ad (h.op hok)).nt
theorem AZ {op i e g:Int} {v:Tr→Bool} (h:op≤3) (h1:1≤op):cC v (ay (.leaf op i e g)).2=!cC v (.leaf op i e g):=by
 rw [ay];dsimp only;rcases (by omega:op=1∨op=2∨op=3) with rfl|rfl|rfl;rw [if_pos rfl];rfl;rw [if_neg (by decide),if_pos rfl];rfl;rw [if_neg (by decide),if_neg (by decide)];rfl
section
variable {l:Int} {σ:Sg}
theorem DM {ei:Bool} {op i e g:Int} {a:Tr} {x:Nat} (ho:op=9∨op=10) (ha:nC a) (hok:(Tr.un op i e g a).ok) (h:Good l σ) (hx:dx σ x (kq ei a)):uW l (fun T=>pr T ei op i a (.un op i e g a) x) σ:=by
 obtain ⟨hi,rfl,rfl⟩:=nj hok ho;have hao:a.ok:=hok.2.2.2.2;have fa:=ha.fr hao;have fo:=ha.op hao;have fu:fD (uT op a):=by unfold uT;split<;>assumption
 have fv:fD (vT op a):=by unfold vT;split<;>assumption
 have fp:fD (ph ei op a):=by
  unfold ph;split;exact fv.nt;exact fu
 have fq:fD (pe ei op a):=by
  unfold pe;split;exact fu;exact fv.nt
 have h1:uW l (fun T=>aT T (aL (ph ei op a) (pe ei op a)) [x]) σ:=ej h (fp.im fq) (fun hb n hn=>by rw [List.mem_singleton.1 hn];exact (hx hb).1) (fun hb hf v hv=>by
  have h2:=hv x (List.mem_singleton.2 rfl);rw [(hx hb).2,pU] at h2;rw [p8];unfold ph pe uT vT;rcases ho with rfl|rfl;simp only [if_true];cases ei;simp only [Bool.false_eq_true,if_false,sD] at h2⊢;cases e1:cC v a<;>cases e2:cC v (eR a)<;>simp_all
  simp only [if_true,sD] at h2⊢;cases e1:cC v a<;>cases e2:cC v (eR a)<;>simp_all
  simp only [show ¬(10:Int)=9 from by decide,if_false];cases ei;simp only [Bool.false_eq_true,if_false,sD] at h2⊢;cases e1:cC v a<;>cases e2:cC v (eR a)<;>simp_all
  simp only [if_true,sD] at h2⊢;cases e1:cC v a<;>cases e2:cC v (eR a)<;>simp_all);have h2:=yF (i:=i) (p:=ph ei op a) (q:=pe ei op a) (n:=(aT ae (aL (ph ei op a) (pe ei op a)) [x] σ).1) hi h1.dQ fp fq ep;have h3:=uc (i:=i) (v:=vT op a) hi h2.dQ fv;have k1:dx _ _ (aL (ar i (ph ei op a)) (ar i (pe ei op a))):=kX (T:=ae) (i:=i) (p:=ph ei op a) (q:=pe ei op a) (l:=(aT ae (aL (ph ei op a) (pe ei op a)) [x] σ).1) (σ:=(aT ae (aL (ph ei op a) (pe ei op a)) [x] σ).2);have k2:dx _ _ (nV (gp i (vT op a)) (aF (ar i (aF (vT op a))))):=cz (T:=ae) (t:=nV (gp i (vT op a)) (aF (ar i (aF (vT op a))))) (r:=7) (a:=0) (b:=0) (gg:=0) (σ:=(gO ae i (ph ei op a) (pe ei op a) (aT ae (aL (ph ei op a) (pe ei op a)) [x] σ).1 (aT ae (aL (ph ei op a) (pe ei op a)) [x] σ).2).2);have k1':=k1.le (jt (T:=ae) (i:=i) (v:=vT op a));have hnf:nC (.un op i 0 0 a):=.inr ⟨ho,ha⟩;have h4:=ej (g:=kq ei (.un op i 0 0 a)) (from_:=[(gO ae i (ph ei op a) (pe ei op a) (aT ae (aL (ph ei op a) (pe ei op a)) [x] σ).1 (aT ae (aL (ph ei op a) (pe ei op a)) [x] σ).2).1,(dT ae i (vT op a) (gO ae i (ph ei op a) (pe ei op a) (aT ae (aL (ph ei op a) (pe ei op a)) [x] σ).1 (aT ae (aL (ph ei op a) (pe ei op a)) [x] σ).2).2).1]) h3.dQ (yI hnf hok) (fun hb n hn=>by
   simp only [List.mem_cons,List.not_mem_nil,or_false] at hn;rcases hn with rfl|rfl;exact (k1' hb).1;exact (k2 hb).1) (fun hb hf v hv=>by
  have e1:=hv _ (List.mem_cons_self ..);have e2:=hv _ (List.mem_cons_of_mem _ (List.mem_cons_self ..));have g1:=(k1' hb).2;have g2:=(k2 hb).2;rw [g1] at e1;have e2:cC v (nV (gp i (vT op a)) (aF (ar i (aF (vT op a)))))=true:=g2 ▸ e2;obtain ⟨f1,f2⟩:=qA (uK hf);have f3:eR a=(ay a).2:=rj (xg f1 (List.mem_cons_self ..));rw [pU,f2];rw [p8] at e1;rw [Ee,sD] at e2;rcases ho with rfl|rfl;have f4:(ay (.un 9 i 0 0 a)).2=gp i (eR a):=by rw [ay,if_neg (by decide),if_pos rfl,f3]
  rw [f4];have u1:uT 9 a=a:=if_pos rfl;have u2:vT 9 a=eR a:=if_pos rfl;unfold ph pe at e1;rw [u2] at e2;rw [u1,u2] at e1;cases ei;simp only [Bool.false_eq_true,if_false] at e1⊢;cases x1:cC v (.un 9 i 0 0 a)<;>cases x2:cC v (gp i (eR a))<;>cases x3:cC v (ar i (aF (eR a)))<;>simp_all
  simp only [if_true] at e1⊢;cases x1:cC v (.un 9 i 0 0 a)<;>cases x2:cC v (gp i (eR a))<;>cases x3:cC v (ar i (aF (eR a)))<;>simp_all
  have f4:(ay (.un 10 i 0 0 a)).2=ar i (eR a):=by rw [ay,if_neg (by decide),if_neg (by decide),if_pos rfl,f3]
  rw [f4];have u1:uT 10 a=eR a:=if_neg (by decide);have u2:vT 10 a=a:=if_neg (by decide);unfold ph pe at e1;rw [u2] at e2;rw [u1,u2] at e1;cases ei;simp only [Bool.false_eq_true,if_false] at e1⊢;cases x1:cC v (.un 10 i 0 0 a)<;>cases x2:cC v (ar i (eR a))<;>cases x3:cC v (ar i (aF a))<;>simp_all
  simp only [if_true] at e1⊢;cases x1:cC v (.un 10 i 0 0 a)<;>cases x2:cC v (ar i (eR a))<;>cases x3:cC v (ar i (aF a))<;>simp_all);have s1:=h1.same;have s2:=h2.same;have s3:=h3.same;have s4:=h4.same;constructor;simp only [pr];rw [←s1,←s2,←s3];exact s4;exact h4.dQ
theorem j9 {ei:Bool}:∀{t:Tr},nC t→t.ok→∀{σ:Sg},Good l σ→uW l (fun T=>aA T ei t) σ
 |.leaf op i e g,hn,hok,σ,h=>by
  have h1:uW l (fun T=>aT T (kq ei (.leaf op i e g)) []) σ:=ej h (yI hn hok) (fun _ n hn=>by cases hn) (fun _ hf v _=>BZ (by
   rw [(qA (uK hf)).2];exact AZ hn hok.1.1));exact ⟨by simp only [aA];exact h1.same,by simp only [aA];exact h1.dQ⟩
 |.un op i e g a,hn,hok,σ,h=>by
  by_cases ho:op=9∨op=10;have ha:nC a:=by
   rcases hn with ⟨h1,_⟩|⟨_,h1⟩;omega;exact h1
  have h1:=j9 (ei:=ei) ha hok.2.2.2.2 h;have h2:=DM (ei:=ei) (i:=i) (e:=e) (g:=g) (x:=(aA ae ei a σ).1) ho ha hok h1.dQ dJ;have s1:=h1.same;have s2:=h2.same;constructor;simp only [aA];rw [if_pos ho,if_pos ho,←s1];exact s2;simp only [aA];rw [if_pos ho];exact h2.dQ;have h1:uW l (fun T=>aT T (kq ei (.un op i e g a)) []) σ:=ej h (yI hn hok) (fun _ n hn=>by cases hn) (fun _ hf v _=>BZ (by
   rw [(qA (uK hf)).2];rcases hn with ⟨rfl,j,e',g',rfl⟩|⟨h1,_⟩;rw [ay,if_pos rfl,ay];show _=!(!_);rw [Bool.not_not];exact absurd h1 ho));exact ⟨by simp only [aA];rw [if_neg ho,if_neg ho];exact h1.same,by simp only [aA];rw [if_neg ho];exact h1.dQ⟩
 |.bin op i e g a b,hn,hok,σ,h=>by
  have h1:=j9 (ei:=ei) hn.2.1 hok.2.2.2.1 h;have h2:=j9 (ei:=ei) hn.2.2 hok.2.2.2.2 h1.dQ;have k1:dx _ _ (kq ei a):=dJ (T:=ae) (ei:=ei) (t:=a) (σ:=σ);have k2:dx _ _ (kq ei b):=dJ (T:=ae) (ei:=ei) (t:=b) (σ:=(aA ae ei a σ).2);have k1':=k1.le (ic (T:=ae) (ei:=ei) (t:=b));have h3:=ej (g:=kq ei (.bin op i e g a b)) (from_:=[(aA ae ei a σ).1,(aA ae ei b (aA ae ei a σ).2).1]) h2.dQ (yI hn hok) (fun hb n hn=>by
   simp only [List.mem_cons,List.not_mem_nil,or_false] at hn;rcases hn with rfl|rfl;exact (k1' hb).1;exact (k2 hb).1) (fun hb hf v hv=>by
   have e1:=hv _ (List.mem_cons_self ..);have e2:=hv _ (List.mem_cons_of_mem _ (List.mem_cons_self ..));rw [(k1' hb).2,pU] at e1;rw [(k2 hb).2,pU] at e2;obtain ⟨f1,f2⟩:=qA (uK hf);have fa:eR a=(ay a).2:=rj (xg f1 (List.mem_cons_self ..));have fb:eR b=(ay b).2:=rj (xg f1 (List.mem_cons_of_mem _ (List.mem_cons_self ..)));rw [pU,f2];rcases hn.1 with rfl|rfl;have f4:(ay (.bin 5 i e g a b)).2=.bin 6 0 0 0 (eR a) (eR b):=by rw [ay,if_pos rfl,fa,fb]
   have f5:cC v (.bin 5 i e g a b)=(cC v a && cC v b):=rfl;rw [f4,Jh,f5];cases ei<;>cases x1:cC v a<;>cases x2:cC v b<;>cases x3:cC v (eR a)<;>cases x4:cC v (eR b)<;>simp_all
   have f4:(ay (.bin 6 i e g a b)).2=jG (eR a) (eR b):=by rw [ay,if_neg (by decide),if_pos rfl,fa,fb]
   rw [f4,Jh,Ks];cases ei<;>cases x1:cC v a<;>cases x2:cC v b<;>cases x3:cC v (eR a)<;>cases x4:cC v (eR b)<;>simp_all);have s1:=h1.same;have s2:=h2.same;have s3:=h3.same;constructor;simp only [aA];rw [←s1,←s2];exact s3;simp only [aA];exact h3.dQ
theorem Eu {i:Int} {f z:Tr} (hi:0≤i∧i<4) (hz:fD z) (hf:(f=ar i z∧cJ l 4=true)∨(f=gp i z∧cJ l 5=true)) (h:Good l σ):uW l (fun T=>lX T i f) σ:=by
 rcases hf with ⟨rfl,h4⟩|⟨rfl,h5⟩;exact ir h (fun _ _=>⟨(hz.kw hi).im ((hz.kw hi).kw hi),h4,.inr (.inl ⟨by decide,by decide,rfl,rfl,rfl,⟨i,z,rfl⟩⟩)⟩);have fnz:fD (aF (ar i (aF z))):=(hz.nt.kw hi).nt;have h1:=uc (i:=i) (v:=z) hi h hz;have k1:dx _ _ (nV (gp i z) (aF (ar i (aF z)))):=cz (T:=ae) (t:=nV (gp i z) (aF (ar i (aF z)))) (r:=7) (a:=0) (b:=0) (gg:=0) (σ:=σ);have h2:=ir (t:=aL (aF (ar i (aF z))) (ar i (aF (ar i (aF z))))) (r:=5) (a:=0) (b:=0) (g:=0) h1.dQ (fun _ _=>⟨fnz.im (fnz.kw hi),h5,.inr (.inl ⟨by decide,by decide,rfl,rfl,rfl,⟨i,aF z,rfl⟩⟩)⟩);have k2:=cz (T:=ae) (t:=aL (aF (ar i (aF z))) (ar i (aF (ar i (aF z))))) (r:=5) (a:=0) (b:=0) (gg:=0) (σ:=(dT ae i z σ).2);obtain ⟨σ1,e1⟩:∃s,s=dT ae i z σ:=⟨_,rfl⟩;obtain ⟨σ2,e2⟩:∃s,s=bP ae (aL (aF (ar i (aF z))) (ar i (aF (ar i (aF z))))) 5 0 0 0 σ1.2:=⟨_,rfl⟩;have k1a:dx σ1.2 σ1.1 (nV (gp i z) (aF (ar i (aF z)))):=by rw [e1];exact k1
 have g1:Good l σ1.2:=by rw [e1];exact h1.dQ
 have le2:σ1.2.Le σ2.2:=by rw [e2];exact dD
 have k2a:dx σ2.2 σ2.1 (aL (aF (ar i (aF z))) (ar i (aF (ar i (aF z))))):=by rw [e2,e1];exact k2
 have g2:Good l σ2.2:=by rw [e2,e1];exact h2.dQ
 have h3:=ej (g:=aL (aF (ar i (aF z))) (gp i z)) (from_:=[σ1.1]) g2 (fnz.im (hz.po hi)) (fun hb n hn=>by rw [List.mem_singleton.1 hn];exact ((k1a.le le2) hb).1) (fun hb _ v hv=>by
  have q:=hv _ (List.mem_singleton.2 rfl);rw [((k1a.le le2) hb).2,Ee] at q;rw [p8];cases x1:cC v (gp i z)<;>cases x2:cC v (aF (ar i (aF z)))<;>simp_all);obtain ⟨σ3,e3⟩:∃s,s=aT ae (aL (aF (ar i (aF z))) (gp i z)) [σ1.1] σ2.2:=⟨_,rfl⟩;have le3:σ2.2.Le σ3.2:=by rw [e3];exact dA
 have g3:Good l σ3.2:=by rw [e3];exact h3.dQ
 have k3:dx σ3.2 σ3.1 (aL (aF (ar i (aF z))) (gp i z)):=by rw [e3];exact ep
 have h4:=yF (i:=i) (p:=aF (ar i (aF z))) (q:=gp i z) (n:=σ3.1) hi g3 fnz (hz.po hi) k3;obtain ⟨σ4,e4⟩:∃s,s=gO ae i (aF (ar i (aF z))) (gp i z) σ3.1 σ3.2:=⟨_,rfl⟩;have le4:σ3.2.Le σ4.2:=by rw [e4];exact oK
 have g4:Good l σ4.2:=by rw [e4];exact h4.dQ
 have k4:dx σ4.2 σ4.1 (aL (ar i (aF (ar i (aF z)))) (ar i (gp i z))):=by rw [e4];exact kX
 have k1b:=k1a.le (le2.trans (le3.trans le4));have k2b:=k2a.le (le3.trans le4);have h5':=ej (g:=aL (gp i z) (ar i (gp i z))) (from_:=[σ1.1,σ2.1,σ4.1]) g4 ((hz.po hi).im ((hz.po hi).kw hi)) (fun hb n hn=>by
  simp only [List.mem_cons,List.not_mem_nil,or_false] at hn;rcases hn with rfl|rfl|rfl;exact (k1b hb).1;exact (k2b hb).1;exact (k4 hb).1) (fun hb _ v hv=>by
  have q1:=hv _ (List.mem_cons_self ..);have q2:=hv _ (List.mem_cons_of_mem _ (List.mem_cons_self ..));have q3:=hv _ (List.mem_cons_of_mem _ (List.mem_cons_of_mem _ (List.mem_cons_self ..)));rw [(k1b hb).2,Ee] at q1;rw [(k2b hb).2,p8] at q2;rw [(k4 hb).2,p8] at q3;rw [p8];cases x1:cC v (gp i z)<;>cases x2:cC v (aF (ar i (aF z)))<;>cases x3:cC v (ar i (aF (ar i (aF z))))<;>cases x4:cC v (ar i (gp i z))<;>simp_all);have s1:=h1.same;have s2:=h2.same;have s3:=h3.same;have s4:=h4.same;have s5:=h5'.same;rw [←e1] at s1 s2;rw [←e2] at s2;rw [←e3] at s3;rw [←e4] at s4;constructor;simp only [lX];rw [←s1,←e1,←s2,←e2,←s3,←e3,←s4,←e4];exact s5;simp only [lX];rw [←e1,←e2,←e3,←e4];exact h5'.dQ
end
structure SD where
  set:aE
  aC:Int
  on:Int
  e:Int
  fr:List Int
structure SV where
  d:SD
  fa:Option Addr
  fc:Nat
def nd (b:List NV) (i:Int):NV:=b.getD i.toNat ⟨0,0,0,0,0,0⟩
def tA (b:List NV) (i:Int):Tr:=aa b i.toNat
def fA (s:aE) (i:Int):Bool:=decide (0≤i∧i<64) && s.getLsbD i.toNat
def bW (i:Int):aE:=1#64<<<i.toNat
theorem rC {s:aE} {i:Nat}:fA s i=true↔s.getLsbD i=true:=by
 unfold fA;simp only [Bool.and_eq_true,decide_eq_true_eq,Int.toNat_natCast];exact ⟨fun h=>h.2,fun h=>⟨⟨by omega,by have:=BitVec.lt_of_getLsbD h;omega⟩,h⟩⟩
theorem gv {s:aE} {i:Int}:fA s i=true↔∃k:Nat,i=k∧k<64∧s.getLsbD k=true:=by
 unfold fA;simp only [Bool.and_eq_true,decide_eq_true_eq];exact ⟨fun h=>⟨i.toNat,by omega,by omega,h.2⟩,fun ⟨k,h1,h2,h3⟩=>⟨by omega,by subst h1;exact h3⟩⟩
theorem pH {i:Int} {k:Nat} (h:0≤i∧i<64):(bW i).getLsbD k=true↔(k:Int)=i:=by
 unfold bW;rw [xX (by omega)];omega
noncomputable def jY (b:List NV) (i:Int):Int:=match (List.range b.length).find? (fun j=>decide (aa b j=eR (tA b i))) with
 |some j=>(j:Int)
 |none=>-1
theorem sW {b:List NV} {i:Int} {j:Nat} (hj:j<b.length) (h:aa b j=eR (tA b i)) (hf:∀k,k<j→aa b k≠eR (tA b i)):jY b i=j:=by
 have:(List.range b.length).find? (fun j=>decide (aa b j=eR (tA b i)))=some j:=by
  rw [List.find?_range_eq_some];exact ⟨by simpa using h,by simpa using hj,fun k hk=>by simpa using hf k hk⟩
 unfold jY;rw [this]
theorem zr {b:List NV} {i:Int} (hf:∀k,k<b.length→aa b k≠eR (tA b i)):jY b i=-1:=by
 have:(List.range b.length).find? (fun j=>decide (aa b j=eR (tA b i)))=none:=by
  rw [List.find?_eq_none];intro k hk;simpa using hf k (List.mem_range.1 hk)
 unfold jY;rw [this]
theorem yj {b:List NV} {i:Int} (h:0≤jY b i):∃j:Nat,jY b i=j∧j<b.length∧aa b j=eR (tA b i):=by
 cases e:(List.range b.length).find? (fun j=>decide (aa b j=eR (tA b i))) with
 |none=>unfold jY at h;rw [e] at h;exact absurd h (by decide)
 |some j=>
  have h1:=List.mem_of_find?_eq_some e;have h2:=List.find?_some e;exact ⟨j,by unfold jY;rw [e],List.mem_range.1 h1,by simpa using h2⟩
def vH (l:Int):Prop:=l=3∨l=4∨l=5∨l=6
def xi (l:Int):Prop:=l=5∨l=6
instance {l:Int}:Decidable (vH l):=by unfold vH;infer_instance
instance {l:Int}:Decidable (xi l):=by unfold xi;infer_instance
def zO (l:Int) (b:List NV) (i:Int):aE:=(if (nd b i).op=9 then bW (nd b i).x else 0#64)|||(if ((nd b i).op=9∧vH l)∨((nd b i).op=10∧xi l) then bW i else 0#64)
def mu (l:Int) (b:List NV) (s:aE) (ag:Int):Nat→aE
 |0=>0#64
 |k+1=>if fA s k=true∧(nd b k).i=ag then mu l b s ag k|||zO l b k else mu l b s ag k
def mw (l:Int) (b:List NV) (s:aE) (ag:Int):aE:=mu l b s ag b.length
def jV (b:List NV) (s:aE):Prop:=∀k,s.getLsbD k=true→k<b.length
def dE (ss:List SD) (k:Int):aE:=(ss.map SD.set).getD k.toNat 0#64
def eS (ss:List SD) (k:Nat):List Int→List aE→Prop
 |[],[]=>True
 |f::fs,s::us=>((0≤f∧f<k)∧dE ss f &&& ~~~ s=0#64)∧eS ss k fs us
 |_,_=>False
def CK (b:List NV) (x:SD) (op:Int):Prop:=x.on<b.length∧fA x.set x.on=true∧(nd b x.on).op=op
def eI (l:Int) (b:List NV) (ss:List SD) (k:Nat) (x:SD):Prop:=
 jV b x.set∧(
 (x.aC=1∧x.fr=[]∧((CK b x 2∧x.e=0)∨(fA x.set x.on=true∧x.on<b.length∧fA x.set x.e=true∧jY b x.on=x.e)))∨
 (x.aC=2∧x.e=0∧CK b x 5∧eS ss k x.fr [x.set|||bW (nd b x.on).x|||bW (nd b x.on).y])∨
 (x.aC=3∧x.e=0∧CK b x 6∧eS ss k x.fr [x.set|||bW (nd b x.on).x,x.set|||bW (nd b x.on).y])∨
 (x.aC=4∧(0≤x.on∧x.on<b.length)∧0≤x.e∧jY b x.on=x.e∧eS ss k x.fr [x.set|||bW x.on,x.set|||bW x.e])∨
 (x.aC=5∧x.e=0∧(l=2∨l=4∨l=6)∧CK b x 9∧eS ss k x.fr [x.set|||bW (nd b x.on).x])∨
 (x.aC=6∧x.e=0∧CK b x 10∧eS ss k x.fr [bW (nd b x.on).x|||mw l b x.set (nd b x.on).i])∨
 (x.aC=7∧x.e=0∧(l=1∨l=5)∧(0≤x.on∧x.on<4)∧eS ss k x.fr [mw l b x.set x.on]))
def dk (b:List NV) (n:NV):Prop:=(n.op=1∨n.op=2∨n.op=3∨n.op=5∨n.op=6∨n.op=9∨n.op=10)∨(n.op=4∧(nd b n.x).op=3)
open Classical in
noncomputable def lp (b:List NV):Int:=if aN b≠0 then aN b else if 64<b.length then 8 else if ∀n∈b,dk b n then 0 else 10
noncomputable def eU (l:Int) (b:List NV) (m:Nat):Int:=if ¬(0≤l∧l≤6) then 2 else if lp b≠0 then lp b else if m=0∨4096<m then 3 else 0
open Classical in
noncomputable def sh (l:Int) (b:List NV) (ss:List SD):Int:=if eU l b ss.length≠0 then eU l b ss.length else if ∀(k:Nat) (hk:k<ss.length),eI l b ss k ss[k] then 0 else 13
theorem nQ {b:List NV}:lp b=0↔aN b=0∧b.length≤64∧∀n∈b,dk b n:=by
 unfold lp;by_cases h2:aN b=0;rw [if_neg (by simp [h2])];by_cases h3:64<b.length;rw [if_pos h3];exact ⟨fun h=>absurd h (by decide),fun h=>by omega⟩;rw [if_neg h3];by_cases h4:∀n∈b,dk b n;rw [if_pos h4];exact ⟨fun _=>⟨h2,by omega,h4⟩,fun _=>rfl⟩;rw [if_neg h4];exact ⟨fun h=>absurd h (by decide),fun h=>absurd h.2.2 h4⟩;rw [if_pos h2];exact ⟨fun h=>absurd h h2,fun h=>absurd h.1 h2⟩
theorem nK {l:Int} {b:List NV} {m:Nat}:eU l b m=0↔(0≤l∧l≤6)∧lp b=0∧0<m∧m≤4096:=by
 unfold eU;by_cases h1:0≤l∧l≤6;rw [if_neg (by simp [h1])];by_cases h2:lp b=0;rw [if_neg (by simp [h2])];by_cases h3:m=0∨4096<m;rw [if_pos h3];exact ⟨fun h=>absurd h (by decide),fun h=>by omega⟩;rw [if_neg h3];exact ⟨fun _=>⟨h1,h2,by omega⟩,fun _=>rfl⟩;rw [if_pos h2];exact ⟨fun h=>absurd h h2,fun h=>absurd h.2.1 h2⟩;rw [if_pos h1];exact ⟨fun h=>absurd h (by decide),fun h=>absurd h.1 h1⟩
theorem AE {l:Int} {b:List NV} {ss:List SD}:sh l b ss=0↔(0≤l∧l≤6)∧(aN b=0∧b.length≤64∧∀n∈b,dk b n)∧(0<ss.length∧ss.length≤4096)∧∀(k:Nat) (hk:k<ss.length),eI l b ss k ss[k]:=by
 unfold sh;by_cases h1:eU l b ss.length=0;rw [if_neg (by simp [h1])];have h2:=nK.1 h1;have h3:=nQ.1 h2.2.1;by_cases h6:∀(k:Nat) (hk:k<ss.length),eI l b ss k ss[k];rw [if_pos h6];exact ⟨fun _=>⟨h2.1,h3,h2.2.2,h6⟩,fun _=>rfl⟩;rw [if_neg h6];exact ⟨fun h=>absurd h (by decide),fun h=>absurd h.2.2.2 h6⟩;rw [if_pos h1];exact ⟨fun h=>absurd h h1,fun ⟨a,c,d,_⟩=>absurd (nK.2 ⟨a,nQ.2 c,d⟩) h1⟩
def fU (b:List NV) (s:aE) (ag:Int) (n:Nat):Nat:=((List.range b.length).find? (fun i=>s.getLsbD i && ((nd b i).op==9 && ((nd b i).i==ag && (nd b i).x==(n:Int))))).getD n
def Ap (b:List NV) (s:aE) (ag:Int) (p:aE):aE:=(ew p).foldl (fun o n=>o|||1#64<<<fU b s ag n) 0#64
def km (b:List NV) (x:SD) (bf:List aE):aE:=
 let p:=bf.getD (x.fr.getD 0 0).toNat 0#64
 let q:=bf.getD (x.fr.getD 1 0).toNat 0#64
 let n:=nd b x.on
 if x.aC=1 then (if n.op=2 then bW x.on else bW x.on|||bW x.e)
 else if x.aC=4 then p &&& ~~~ bW x.on|||q &&& ~~~ bW x.e
 else if x.aC=7 then Ap b x.set x.on p
 else if x.aC=2 then p &&& ~~~ (bW n.x|||bW n.y)|||bW x.on
 else if x.aC=3 then p &&& ~~~ bW n.x|||q &&& ~~~ bW n.y|||bW x.on
 else if x.aC=5 then p &&& ~~~ bW n.x|||bW x.on
 else Ap b x.set n.i (p &&& ~~~ bW n.x)|||bW x.on
def fi (b:List NV) (ss:List SD):Nat→List aE
 |0=>[]
 |k+1=>match ss[k]? with
  |some x=>fi b ss k++[km b x (fi b ss k)]
  |none=>fi b ss k
theorem mL {b:List NV} {ss:List SD} {k:Nat} (hk:k<ss.length):fi b ss (k+1)=fi b ss k++[km b ss[k] (fi b ss k)]:=by
 rw [fi,List.getElem?_eq_getElem hk]
theorem l6 {b:List NV} {ss:List SD}:∀{k:Nat},k≤ss.length→(fi b ss k).length=k
 |0,_=>rfl
 |k+1,h=>by rw [mL (by omega),List.length_append,l6 (by omega)];rfl
theorem u3 {b:List NV} {ss:List SD} {j:Nat}:∀{k:Nat},j≤k→k≤ss.length→fi b ss j<+:fi b ss k
 |0,h,_=>by rw [show j=0 by omega];exact List.prefix_refl _
 |k+1,h,h2=>by
  by_cases e:j=k+1;rw [e];exact List.prefix_refl _;rw [mL (by omega)];exact (u3 (by omega) (by omega)).trans (List.prefix_append _ _)
def qg (b:List NV) (ss:List SD) (k:Nat):aE:=(fi b ss ss.length).getD k 0#64
theorem nX {b:List NV} {ss:List SD} {j k:Nat} (hj:j<k) (hk:k≤ss.length):(fi b ss k).getD j 0#64=qg b ss j:=by
 obtain ⟨u,hu⟩:=u3 (b:=b) (ss:=ss) hk (Nat.le_refl _);unfold qg;rw [←hu,List.getD_eq_getElem?_getD,List.getD_eq_getElem?_getD,List.getElem?_append_left (by rw [l6 hk];exact hj)]
theorem FG {b:List NV} {ss:List SD} {k:Nat} (hk:k<ss.length):qg b ss k=km b ss[k] (fi b ss k):=by
 rw [←nX (Nat.lt_succ_self k) (by omega),mL hk,List.getD_eq_getElem?_getD,List.getElem?_append_right (by rw [l6 (by omega)];exact Nat.le_refl _)];simp [l6 (Nat.le_of_lt hk)]
inductive CM (ss:List SD):Nat→Prop
  |last {k:Nat}:k+1=ss.length→CM ss k
  |fr {k j:Nat} (hk:k<ss.length):CM ss k→(j:Int)∈ss[k].fr→CM ss j
open Classical in
noncomputable def dW (ss:List SD) (k:Nat):Bool:=decide (CM ss k)
theorem iR {ss:List SD} {k:Nat}:dW ss k=true↔CM ss k:=by unfold dW;exact @decide_eq_true_iff _ (Classical.propDecidable _)
noncomputable def iv (b:List NV) (ss:List SD) (k:Nat) (x:SD):SD:=
 ⟨qg b ss k,x.aC,x.on,if x.aC=1∧(nd b x.on).op=2 then 0 else x.e,x.fr.map (fun j=>((cu (dW ss) j.toNat:Nat):Int))⟩
noncomputable def nZ (b:List NV) (ss:List SD):Nat→List SD
 |0=>[]
 |k+1=>match ss[k]? with
  |some x=>if dW ss k=true then nZ b ss k++[iv b ss k x] else nZ b ss k
  |none=>nZ b ss k
noncomputable def dL (b:List NV) (ss:List SD):List SD:=nZ b ss ss.length
theorem kG {b:List NV} {ss:List SD} {k:Nat} (hk:k<ss.length):nZ b ss (k+1)=if dW ss k=true then nZ b ss k++[iv b ss k ss[k]] else nZ b ss k:=by
 rw [nZ,List.getElem?_eq_getElem hk]
theorem l9 {b:List NV} {ss:List SD}:∀{k:Nat},k≤ss.length→(nZ b ss k).length=cu (dW ss) k
 |0,_=>by simp [nZ,cu]
 |k+1,h=>by
  have h1:=l9 (b:=b) (ss:=ss) (k:=k) (by omega);rw [kG (by omega),iK];split<;>simp [h1]
theorem xF {b:List NV} {ss:List SD} {j:Nat} (hn:dW ss j=true):∀{k:Nat},k≤ss.length→j<k→∀hj:j<ss.length,(nZ b ss k)[cu (dW ss) j]?=some (iv b ss j ss[j])
 |0,_,h,_=>by omega
 |k+1,h,h2,hj=>by
  rw [kG (by omega)];by_cases e:j=k;subst e;rw [if_pos hn,List.getElem?_append_right (by rw [l9 (by omega)];exact Nat.le_refl _),l9 (by omega)];simp;have h3:=xF (b:=b) hn (k:=k) (by omega) (by omega) hj;split;rw [List.getElem?_append_left (List.getElem?_eq_some_iff.1 h3).1];exact h3;exact h3
theorem oc {s t:aE}:s &&& ~~~ t=0#64↔∀k,s.getLsbD k=true→t.getLsbD k=true:=by
 constructor;intro h k hk;have:=congrArg (fun x=>x.getLsbD k) h;simp only [BitVec.getLsbD_and,BitVec.getLsbD_not,hk,BitVec.getLsbD_zero,Bool.true_and] at this;have h64:=BitVec.lt_of_getLsbD hk;simpa [h64] using this;intro h;apply BitVec.eq_of_getLsbD_eq;intro i hi;simp only [BitVec.getLsbD_and,BitVec.getLsbD_not,BitVec.getLsbD_zero];cases hs:s.getLsbD i with
 |false=>rfl
 |true=>simp [h i hs]
theorem dt {s t:aE} {k:Nat}:(s|||t).getLsbD k=true↔s.getLsbD k=true∨t.getLsbD k=true:=by simp
theorem ib {s t:aE} {k:Nat}:(s &&& ~~~ t).getLsbD k=true↔s.getLsbD k=true∧¬t.getLsbD k=true:=by
 simp only [BitVec.getLsbD_and,BitVec.getLsbD_not,Bool.and_eq_true,decide_eq_true_eq,Bool.not_eq_true',Bool.not_eq_true];exact ⟨fun h=>⟨h.1,h.2.2⟩,fun h=>⟨h.1,BitVec.lt_of_getLsbD h.1,h.2⟩⟩
structure aX (b:List NV):Prop where
  jk:aN b=0
  len:b.length≤64
  E6:∀n∈b,dk b n
section
variable {l:Int} {b:List NV} {ss:List SD}
theorem dN {i:Nat} (hi:i<b.length):nd b i=b[i]:=by simp [nd,List.getD_eq_getElem?_getD,hi]
theorem aX.x (h:aX b) {i:Nat} (hi:i<b.length) (hX:4≤(nd b i).op):0≤(nd b i).x∧(nd b i).x<i:=by
 rw [dN hi] at*;have ho:=(aB.1 h.jk).nodes i hi;have h1:=h.E6 _ (List.getElem_mem hi);have hu:cS b[i].op=true:=by unfold cS;unfold dk at h1;simp;omega
 have:=ho.x hu;omega
theorem aX.y (h:aX b) {i:Nat} (hi:i<b.length) (hX:(nd b i).op=5∨(nd b i).op=6):0≤(nd b i).y∧(nd b i).y<i:=by
 rw [dN hi] at*;have ho:=(aB.1 h.jk).nodes i hi;have hu:cF b[i].op=true:=by unfold cF;rcases hX with e|e<;>rw [e]<;>rfl
 have:=ho.y hu;omega
theorem fT {s:aE} {ag:Int} {n:Nat}:(∃i,fU b s ag n=i∧i<b.length∧s.getLsbD i=true∧(nd b i).op=9∧(nd b i).i=ag∧(nd b i).x=n∧∀j,j<i→s.getLsbD j=true→(nd b j).op=9→(nd b j).i=ag→(nd b j).x≠n)∨(fU b s ag n=n∧∀j,j<b.length→s.getLsbD j=true→(nd b j).op=9→(nd b j).i=ag→(nd b j).x≠n):=by
 cases e:(List.range b.length).find? (fun i=>s.getLsbD i && ((nd b i).op==9 && ((nd b i).i==ag && (nd b i).x==(n:Int)))) with
 |none=>
  refine .inr ⟨by unfold fU;rw [e];rfl,fun j hj h1 h2 h3 h4=>?_⟩;rw [List.find?_eq_none] at e;exact e j (List.mem_range.2 hj) (by simp [h1,h2,h3,h4])
 |some i=>
  rw [List.find?_range_eq_some] at e;obtain ⟨e1,e2,e3⟩:=e;simp only [Bool.and_eq_true,beq_iff_eq] at e1;refine .inl ⟨i,?_,List.mem_range.1 e2,e1.1,e1.2.1,e1.2.2.1,e1.2.2.2,fun j hj h1 h2 h3 h4=>?_⟩;have:(List.range b.length).find? (fun i=>s.getLsbD i && ((nd b i).op==9 && ((nd b i).i==ag && (nd b i).x==(n:Int))))=some i:=by
   rw [List.find?_range_eq_some];exact ⟨by simp [e1],e2,e3⟩
  unfold fU;rw [this];rfl;have:=e3 j hj;simp [h1,h2,h3,h4] at this
theorem Dc (hl:b.length≤64) {s:aE} {ag:Int} {n:Nat} (hn:n<64):fU b s ag n<64:=by
 rcases fT (b:=b) (s:=s) (ag:=ag) (n:=n) with ⟨i,h1,h2,_⟩|⟨h1,_⟩;omega;omega
theorem xV {f:Nat→Nat}:∀{ns:List Nat} {o:aE} {k:Nat},(∀n∈ns,f n<64)→((ns.foldl (fun o n=>o|||1#64<<<f n) o).getLsbD k=true↔o.getLsbD k=true∨∃n∈ns,f n=k)
 |[],o,k,_=>by simp
 |n::ns,o,k,h=>by
  rw [List.foldl_cons,xV (fun m hm=>h m (List.mem_cons_of_mem _ hm)),dt,xX (h n (List.mem_cons_self ..))];simp only [List.mem_cons,exists_eq_or_imp];constructor;rintro ((h1|h1)|h1);exact .inl h1;exact .inr (.inl h1.symm);exact .inr (.inr h1);rintro (h1|h1|h1);exact .inl (.inl h1);exact .inl (.inr h1.symm);exact .inr h1
theorem dz {s:aE} {k:Nat}:k∈ew s↔s.getLsbD k=true:=by
 unfold ew;rw [List.mem_filter,List.mem_range];exact ⟨fun h=>h.2,fun h=>⟨BitVec.lt_of_getLsbD h,h⟩⟩
theorem vd (hl:b.length≤64) {s p:aE} {ag:Int} {k:Nat}:(Ap b s ag p).getLsbD k=true↔∃n,p.getLsbD n=true∧fU b s ag n=k:=by
 unfold Ap;rw [xV (fun n hn=>Dc hl (BitVec.lt_of_getLsbD (dz.1 hn)))];simp only [BitVec.getLsbD_zero,Bool.false_eq_true,false_or,dz]
theorem pF (h:aX b) {s:aE} {ag:Int} {k:Nat}:∀{m:Nat},m≤b.length→((mu l b s ag m).getLsbD k=true↔∃i:Nat,i<m∧s.getLsbD i=true∧(nd b i).i=ag∧(((nd b i).op=9∧(nd b i).x=k)∨(k=i∧(((nd b i).op=9∧vH l)∨((nd b i).op=10∧xi l)))))
 |0,_=>by simp [mu]
 |m+1,hm=>by
  have hcn:(zO l b m).getLsbD k=true↔(((nd b m).op=9∧(nd b m).x=k)∨(k=m∧(((nd b m).op=9∧vH l)∨((nd b m).op=10∧xi l)))):=by
   unfold zO;rw [dt];apply or_congr;by_cases h9:(nd b m).op=9;have:=h.x (i:=m) (by omega) (by omega);have:=h.len;rw [if_pos h9,pH (by omega)];exact ⟨fun e=>⟨h9,e.symm⟩,fun e=>e.2.symm⟩;rw [if_neg h9];simp [h9];by_cases h9:((nd b m).op=9∧vH l)∨((nd b m).op=10∧xi l);have:=h.len;rw [if_pos h9,pH (by omega)];exact ⟨fun e=>⟨by omega,h9⟩,fun e=>by omega⟩;rw [if_neg h9];simp [h9]
  rw [mu];by_cases h1:fA s m=true∧(nd b m).i=ag;rw [if_pos h1,dt,pF h (by omega),hcn];constructor;rintro (⟨i,h2,h3⟩|h2);exact ⟨i,by omega,h3⟩;exact ⟨m,by omega,rC.1 h1.1,h1.2,h2⟩;rintro ⟨i,h2,h3,h4,h5⟩;by_cases e:i=m;subst e;exact .inr h5;exact .inl ⟨i,by omega,h3,h4,h5⟩;rw [if_neg h1,pF h (by omega)];constructor;rintro ⟨i,h2,h3⟩;exact ⟨i,by omega,h3⟩;rintro ⟨i,h2,h3,h4,h5⟩;by_cases e:i=m;subst e;exact absurd ⟨rC.2 h3,h4⟩ h1;exact ⟨i,by omega,h3,h4,h5⟩
theorem lh (h:aX b) {s:aE} {ag:Int} {k:Nat}:(mw l b s ag).getLsbD k=true↔∃i:Nat,i<b.length∧s.getLsbD i=true∧(nd b i).i=ag∧(((nd b i).op=9∧(nd b i).x=k)∨(k=i∧(((nd b i).op=9∧vH l)∨((nd b i).op=10∧xi l)))):=pF h (Nat.le_refl _)
theorem eS.one {k:Nat} {fs:List Int} {s:aE} (h:eS ss k fs [s]):∃j:Nat,fs=[(j:Int)]∧j<k∧∀n,(dE ss j).getLsbD n=true→s.getLsbD n=true:=by
 cases fs with
 |nil=>exact h.elim
 |cons f fs=>
  cases fs with
  |cons _ _=>exact h.2.elim
  |nil=>
   obtain ⟨⟨h1,h2⟩,_⟩:=h;refine ⟨f.toNat,by rw [show ((f.toNat:Nat):Int)=f by omega],by omega,?_⟩;rw [show ((f.toNat:Nat):Int)=f by omega];exact oc.1 h2
theorem eS.two {k:Nat} {fs:List Int} {s u:aE} (h:eS ss k fs [s,u]):∃j i:Nat,fs=[(j:Int),(i:Int)]∧j<k∧i<k∧(∀n,(dE ss j).getLsbD n=true→s.getLsbD n=true)∧∀n,(dE ss i).getLsbD n=true→u.getLsbD n=true:=by
 cases fs with
 |nil=>exact h.elim
 |cons f fs=>
  obtain ⟨⟨h1,h2⟩,h3⟩:=h;obtain ⟨i,rfl,hi,hu⟩:=eS.one h3;refine ⟨f.toNat,i,by rw [show ((f.toNat:Nat):Int)=f by omega],by omega,hi,?_,hu⟩;rw [show ((f.toNat:Nat):Int)=f by omega];exact oc.1 h2
theorem eS.IY {k j:Nat} {s:aE} (hj:j<k) (h:∀n,(dE ss j).getLsbD n=true→s.getLsbD n=true):eS ss k [(j:Int)] [s]:=⟨⟨by omega,oc.2 h⟩,trivial⟩
theorem eS.K5 {k j i:Nat} {s u:aE} (hj:j<k) (hi:i<k) (h:∀n,(dE ss j).getLsbD n=true→s.getLsbD n=true) (h2:∀n,(dE ss i).getLsbD n=true→u.getLsbD n=true):eS ss k [(j:Int),(i:Int)] [s,u]:=⟨⟨by omega,oc.2 h⟩,eS.IY hi h2⟩
theorem eI.oE {k:Nat} {x:SD} (h:eI l b ss k x) {f:Int} (hf:f∈x.fr):0≤f∧f<k:=by
 have one:∀{s:aE},eS ss k x.fr [s]→0≤f∧f<k:=fun h=>by
  obtain ⟨j,e,hj,_⟩:=h.one;rw [e,List.mem_singleton] at hf;omega
 have two:∀{s u:aE},eS ss k x.fr [s,u]→0≤f∧f<k:=fun h=>by
  obtain ⟨j,i,e,hj,hi,_⟩:=h.two;rw [e] at hf;simp only [List.mem_cons,List.not_mem_nil,or_false] at hf;omega
 rcases h.2 with ⟨_,h,_⟩|⟨_,_,_,h⟩|⟨_,_,_,h⟩|⟨_,_,_,_,h⟩|⟨_,_,_,_,h⟩|⟨_,_,_,h⟩|⟨_,_,_,_,h⟩;rw [h] at hf;cases hf;exact one h;exact two h;exact two h;exact one h;exact one h;exact one h
theorem CK.nat (_h:aX b) {x:SD} {op:Int} (g:CK b x op):∃o:Nat,x.on=o∧o<b.length∧x.set.getLsbD o=true∧(nd b x.on).op=op:=by
 obtain ⟨h1,h2,h3⟩:=g;obtain ⟨k,h4,h5,h6⟩:=gv.1 h2;exact ⟨k,h4,by omega,h6,h3⟩
end
section
variable {l:Int} {b:List NV} {ss:List SD}
abbrev Us (b:List NV) (ss:List SD) (k n:Nat):Prop:=(qg b ss k).getLsbD n=true
inductive sG (l:Int) (b:List NV) (ss:List SD) (k:Nat) (x:SD):Prop
  |Fh (o:Nat):x.aC=1→x.fr=[]→x.on=o→o<b.length→x.set.getLsbD o=true→(nd b o).op=2→(∀n,Us b ss k n↔n=o)→sG l b ss k x
  |neg (o e:Nat):x.aC=1→x.fr=[]→x.on=o→o<b.length→x.set.getLsbD o=true→(nd b o).op≠2→x.e=e→e<b.length→x.set.getLsbD e=true→jY b o=e→aa b e=eR (aa b o)→(∀n,Us b ss k n↔n=o∨n=e)→sG l b ss k x
  |and (o j:Nat):x.aC=2→x.e=0→x.fr=[(j:Int)]→j<k→x.on=o→o<b.length→x.set.getLsbD o=true→(nd b o).op=5→(∀n:Nat,(dE ss j).getLsbD n=true→x.set.getLsbD n=true∨(n:Int)=(nd b o).x∨(n:Int)=(nd b o).y)→(∀n:Nat,Us b ss k n↔(Us b ss j n∧(n:Int)≠(nd b o).x∧(n:Int)≠(nd b o).y)∨n=o)→sG l b ss k x
  |or (o j i:Nat):x.aC=3→x.e=0→x.fr=[(j:Int),(i:Int)]→j<k→i<k→x.on=o→o<b.length→x.set.getLsbD o=true→(nd b o).op=6→(∀n:Nat,(dE ss j).getLsbD n=true→x.set.getLsbD n=true∨(n:Int)=(nd b o).x)→(∀n:Nat,(dE ss i).getLsbD n=true→x.set.getLsbD n=true∨(n:Int)=(nd b o).y)→(∀n:Nat,Us b ss k n↔(Us b ss j n∧(n:Int)≠(nd b o).x)∨(Us b ss i n∧(n:Int)≠(nd b o).y)∨n=o)→sG l b ss k x
  |cut (o e j i:Nat):x.aC=4→x.fr=[(j:Int),(i:Int)]→j<k→i<k→x.on=o→o<b.length→x.e=e→e<b.length→jY b o=e→aa b e=eR (aa b o)→(∀n:Nat,(dE ss j).getLsbD n=true→x.set.getLsbD n=true∨n=o)→(∀n:Nat,(dE ss i).getLsbD n=true→x.set.getLsbD n=true∨n=e)→(∀n:Nat,Us b ss k n↔(Us b ss j n∧n≠o)∨(Us b ss i n∧n≠e))→sG l b ss k x
  |t (o j:Nat):x.aC=5→x.e=0→(l=2∨l=4∨l=6)→x.fr=[(j:Int)]→j<k→x.on=o→o<b.length→x.set.getLsbD o=true→(nd b o).op=9→(∀n:Nat,(dE ss j).getLsbD n=true→x.set.getLsbD n=true∨(n:Int)=(nd b o).x)→(∀n:Nat,Us b ss k n↔(Us b ss j n∧(n:Int)≠(nd b o).x)∨n=o)→sG l b ss k x
  |k (o j:Nat):x.aC=6→x.e=0→x.fr=[(j:Int)]→j<k→x.on=o→o<b.length→x.set.getLsbD o=true→(nd b o).op=10→(∀n:Nat,(dE ss j).getLsbD n=true→(mw l b x.set (nd b o).i).getLsbD n=true∨(n:Int)=(nd b o).x)→(∀n:Nat,Us b ss k n↔(∃m,Us b ss j m∧(m:Int)≠(nd b o).x∧fU b x.set (nd b o).i m=n)∨n=o)→sG l b ss k x
  |d (j:Nat):x.aC=7→x.e=0→(l=1∨l=5)→x.fr=[(j:Int)]→j<k→(0≤x.on∧x.on<4)→(∀n:Nat,(dE ss j).getLsbD n=true→(mw l b x.set x.on).getLsbD n=true)→(∀n:Nat,Us b ss k n↔∃m,Us b ss j m∧fU b x.set x.on m=n)→sG l b ss k x
theorem FR (hb:aX b) {k:Nat} (hk:k<ss.length) (h:eI l b ss k ss[k]):sG l b ss k ss[k]:=by
 obtain ⟨x,hx⟩:∃x,x=ss[k]:=⟨_,rfl⟩;have hu:=FG (b:=b) hk;rw [←hx] at h hu⊢;have hlen:=hb.len;have hbw:∀{i:Int} {n:Nat},0≤i→i<64→((bW i).getLsbD n=true↔(n:Int)=i):=fun h1 h2=>pH ⟨h1,h2⟩;have hp0:∀{j:Nat} {fs:List Int},j<k→x.fr=(j:Int)::fs→(fi b ss k).getD (x.fr.getD 0 0).toNat 0#64=qg b ss j:=fun hj e=>by
  rw [e];exact nX hj (Nat.le_of_lt hk)
 have hp1:∀{j i:Nat},i<k→x.fr=[(j:Int),(i:Int)]→(fi b ss k).getD (x.fr.getD 1 0).toNat 0#64=qg b ss i:=fun hj e=>by
  rw [e];exact nX hj (Nat.le_of_lt hk)
 rcases h.2 with ⟨h1,h2,h3⟩|⟨h1,h2,h3,h4⟩|⟨h1,h2,h3,h4⟩|⟨h1,h2,h3,h4,h5⟩|⟨h1,h2,h3,h4,h5⟩|⟨h1,h2,h3,h4⟩|⟨h1,h2,h3,h4,h5⟩;unfold km at hu;rw [if_pos h1] at hu;rcases h3 with ⟨h3,h4⟩|⟨h3,h4,h5,h6⟩;obtain ⟨o,e1,e2,e3,e4⟩:=h3.nat hb;rw [if_pos e4] at hu;rw [e1] at e4;exact .Fh o h1 h2 e1 e2 e3 e4 (fun n=>by unfold Us;rw [hu,e1,hbw (by omega) (by omega)];omega);obtain ⟨o,e1,e2,e3⟩:=gv.1 h3;obtain ⟨e,f1,f2,f3⟩:=gv.1 h5;have ho:o<b.length:=by omega
 obtain ⟨j,g1,g2,g3⟩:=yj (b:=b) (i:=x.on) (by omega);have hje:j=e:=by omega
 subst hje;by_cases h2':(nd b x.on).op=2;rw [if_pos h2'] at hu;rw [e1] at h2';exact .Fh o h1 h2 e1 ho e3 h2' (fun n=>by unfold Us;rw [hu,e1,hbw (by omega) (by omega)];omega);rw [if_neg h2'] at hu;rw [e1] at h2' g3 g1;refine .neg o j h1 h2 e1 ho e3 h2' f1 g2 f3 g1 (by rw [g3];rfl) (fun n=>?_);unfold Us;rw [hu,dt,e1,f1,hbw (by omega) (by omega),hbw (by omega) (by omega)];omega;obtain ⟨o,e1,e2,e3,e4⟩:=h3.nat hb;obtain ⟨j,f1,f2,f3⟩:=h4.one;rw [e1] at e4 f3;have hx1:=hb.x e2 (by omega);have hy1:=hb.y e2 (by omega);unfold km at hu;rw [if_neg (by omega),if_neg (by omega),if_neg (by omega),if_pos h1,hp0 f2 f1,e1] at hu;refine .and o j h1 h2 f1 f2 e1 e2 e3 e4 (fun n hn=>?_) (fun n=>?_);have:=f3 n hn;rw [dt,dt,hbw (by omega) (by omega),hbw (by omega) (by omega)] at this;rcases this with (h|h)|h;exact .inl h;exact .inr (.inl h);exact .inr (.inr h);unfold Us;rw [hu,dt,ib,dt,hbw (by omega) (by omega),hbw (by omega) (by omega),hbw (by omega) (by omega),not_or];exact or_congr Iff.rfl (by omega);obtain ⟨o,e1,e2,e3,e4⟩:=h3.nat hb;obtain ⟨j,i,f1,f2,f3,f4,f5⟩:=h4.two;rw [e1] at e4 f4 f5;have hx1:=hb.x e2 (by omega);have hy1:=hb.y e2 (by omega);unfold km at hu;rw [if_neg (by omega),if_neg (by omega),if_neg (by omega),if_neg (by omega),if_pos h1,hp0 f2 f1,hp1 f3 f1,e1] at hu;refine .or o j i h1 h2 f1 f2 f3 e1 e2 e3 e4 (fun n hn=>?_) (fun n hn=>?_) (fun n=>?_);have:=f4 n hn;rwa [dt,hbw (by omega) (by omega)] at this;have:=f5 n hn;rwa [dt,hbw (by omega) (by omega)] at this;unfold Us
 rw [hu,dt,dt,ib,ib,hbw (by omega) (by omega),hbw (by omega) (by omega),hbw (by omega) (by omega),or_assoc];exact or_congr Iff.rfl (or_congr Iff.rfl (by omega));obtain ⟨j,i,f1,f2,f3,f4,f5⟩:=h5.two;obtain ⟨e,g1,g2,g3⟩:=yj (b:=b) (i:=x.on) (by omega);obtain ⟨o,e1⟩:∃o:Nat,x.on=o:=⟨x.on.toNat,by omega⟩;have ee:x.e=e:=by omega
 rw [e1] at h2 h4 f4 g1 g3;rw [ee] at f5;unfold km at hu;rw [if_neg (by omega),if_pos h1,hp0 f2 f1,hp1 f3 f1,e1,ee] at hu;refine .cut o e j i h1 f1 f2 f3 e1 (by omega) ee g2 g1 (by rw [g3];rfl) (fun n hn=>?_) (fun n hn=>?_) (fun n=>?_);have:=f4 n hn;rw [dt,hbw (by omega) (by omega)] at this;exact this.imp id (fun h=>by omega);have:=f5 n hn;rw [dt,hbw (by omega) (by omega)] at this;exact this.imp id (fun h=>by omega);unfold Us;rw [hu,dt,ib,ib,hbw (by omega) (by omega),hbw (by omega) (by omega)];exact or_congr (and_congr Iff.rfl (by omega)) (and_congr Iff.rfl (by omega));obtain ⟨o,e1,e2,e3,e4⟩:=h4.nat hb;obtain ⟨j,f1,f2,f3⟩:=h5.one;rw [e1] at e4 f3;have hx1:=hb.x e2 (by omega);unfold km at hu;rw [if_neg (by omega),if_neg (by omega),if_neg (by omega),if_neg (by omega),if_neg (by omega),if_pos h1,hp0 f2 f1,e1] at hu;refine .t o j h1 h2 h3 f1 f2 e1 e2 e3 e4 (fun n hn=>?_) (fun n=>?_);have:=f3 n hn;rwa [dt,hbw (by omega) (by omega)] at this;unfold Us;rw [hu,dt,ib,hbw (by omega) (by omega),hbw (by omega) (by omega)];exact or_congr Iff.rfl (by omega);obtain ⟨o,e1,e2,e3,e4⟩:=h3.nat hb;obtain ⟨j,f1,f2,f3⟩:=h4.one;rw [e1] at e4 f3;have hx1:=hb.x e2 (by omega);unfold km at hu;rw [if_neg (by omega),if_neg (by omega),if_neg (by omega),if_neg (by omega),if_neg (by omega),if_neg (by omega),hp0 f2 f1,e1] at hu;refine .k o j h1 h2 f1 f2 e1 e2 e3 e4 (fun n hn=>?_) (fun n=>?_);have:=f3 n hn;rw [dt,hbw (by omega) (by omega)] at this;exact this.symm;unfold Us
 rw [hu,dt,vd hlen,hbw (by omega) (by omega)];refine or_congr (exists_congr fun m=>?_) (by omega);rw [ib,hbw (by omega) (by omega)];exact and_assoc;obtain ⟨j,f1,f2,f3⟩:=h5.one;unfold km at hu;rw [if_neg (by omega),if_neg (by omega),if_pos h1,hp0 f2 f1] at hu;refine .d j h1 h2 h3 f1 f2 h4 f3 (fun n=>?_);unfold Us;rw [hu,vd hlen]
theorem eW {j:Nat} (hj:j<ss.length):dE ss j=ss[j].set:=by simp [dE,List.getD_eq_getElem?_getD,hj]
structure jf (l:Int) (b:List NV) (ss:List SD):Prop where
  log:0≤l∧l≤6
  base:aX b
  pos:0<ss.length
  len:ss.length≤4096
  m6:∀(k:Nat) (hk:k<ss.length),eI l b ss k ss[k]
theorem mc:sh l b ss=0↔jf l b ss:=by
 rw [AE];exact ⟨fun ⟨h1,⟨h2,h3,h4⟩,⟨h5,h6⟩,h7⟩=>⟨h1,⟨h2,h3,h4⟩,h5,h6,h7⟩,fun h=>⟨h.log,⟨h.base.jk,h.base.len,h.base.E6⟩,⟨h.pos,h.len⟩,h.m6⟩⟩
theorem jf.Io (h:jf l b ss) {k:Nat} (hk:k<ss.length):sG l b ss k ss[k]:=FR h.base hk (h.m6 k hk)
theorem Ar (hb:aX b) {s:aE} {ag:Int} {n:Nat} (hn:(mw l b s ag).getLsbD n=true):s.getLsbD (fU b s ag n)=true:=by
 rcases fT (b:=b) (s:=s) (ag:=ag) (n:=n) with ⟨i,h1,h2,h3,_⟩|⟨h1,h2⟩;rw [h1];exact h3;rw [h1];obtain ⟨i,g1,g2,g3,g4⟩:=(lh hb).1 hn;rcases g4 with ⟨g4,g5⟩|⟨g4,g5⟩;exact absurd g5 (h2 i g1 g2 g4 g3);rw [g4];exact g2
theorem jf.sub (h:jf l b ss):∀(k:Nat) (hk:k<ss.length) (n:Nat),Us b ss k n→ss[k].set.getLsbD n=true:=by
 intro k
 induction k using Nat.strongRecOn with
 |_ k ih=>
 intro hk n hn;have ihS:∀(j:Nat),j<k→∀m,Us b ss j m→(dE ss j).getLsbD m=true:=fun j hj m hm=>by
  rw [eW (by omega)];exact ih j hj (by omega) m hm
 cases h.Io hk with
 |Fh o h1 h2 h3 h4 h5 h6 h7=>rw [(h7 n).1 hn];exact h5
 |neg o e h1 h2 h3 h4 h5 h6 h7 h8 h9 h10 h11 h12=>
  rcases (h12 n).1 hn with e|e;rw [e];exact h5;rw [e];exact h9
 |and o j h1 h2 h3 h4 h5 h6 h7 h8 h9 h10=>
  rcases (h10 n).1 hn with ⟨e1,e2,e3⟩|e;rcases h9 n (ihS j h4 n e1) with g|g|g;exact g;exact absurd g e2;exact absurd g e3;rw [e];exact h7
 |or o j i h1 h2 h3 h4 h5 h6 h7 h8 h9 h10 h11 h12=>
  rcases (h12 n).1 hn with ⟨e1,e2⟩|⟨e1,e2⟩|e;exact (h10 n (ihS j h4 n e1)).resolve_right e2;exact (h11 n (ihS i h5 n e1)).resolve_right e2;rw [e];exact h8
 |cut o e j i h1 h2 h3 h4 h5 h6 h7 h8 h9 h10 h11 h12 h13=>
  rcases (h13 n).1 hn with ⟨e1,e2⟩|⟨e1,e2⟩;exact (h11 n (ihS j h3 n e1)).resolve_right e2;exact (h12 n (ihS i h4 n e1)).resolve_right e2
 |t o j h1 h2 h3 h4 h5 h6 h7 h8 h9 h10 h11=>
  rcases (h11 n).1 hn with ⟨e1,e2⟩|e;exact (h10 n (ihS j h5 n e1)).resolve_right e2;rw [e];exact h8
 |k o j h1 h2 h3 h4 h5 h6 h7 h8 h9 h10=>
  rcases (h10 n).1 hn with ⟨m,e1,e2,e3⟩|e;rw [←e3];exact Ar h.base ((h9 m (ihS j h4 m e1)).resolve_right e2);rw [e];exact h7
 |d j h1 h2 h3 h4 h5 h6 h7 h8=>
  obtain ⟨m,e1,e2⟩:=(h8 n).1 hn;rw [←e2];exact Ar h.base (h7 m (ihS j h5 m e1))
theorem ql:(dL b ss).length=cu (dW ss) ss.length:=l9 (Nat.le_refl _)
theorem tU {k:Nat} (hk:k<ss.length) (hn:dW ss k=true):∃hc:cu (dW ss) k<(dL b ss).length,(dL b ss)[cu (dW ss) k]=iv b ss k ss[k]:=by
 have:=xF (b:=b) hn (Nat.le_refl _) hk hk;exact List.getElem?_eq_some_iff.1 this
theorem wx {q:Nat} (hq:q<(dL b ss).length):∃(k:Nat) (hk:k<ss.length),dW ss k=true∧cu (dW ss) k=q∧(dL b ss)[q]=iv b ss k ss[k]:=by
 rw [ql] at hq;obtain ⟨k,h1,h2,h3⟩:=Hh hq;subst h3;exact ⟨k,h1,h2,rfl,(tU h1 h2).2⟩
theorem tX {k:Nat} (hk:k<ss.length) (hn:dW ss k=true):dE (dL b ss) (cu (dW ss) k:Nat)=qg b ss k:=by
 obtain ⟨h1,h2⟩:=tU (b:=b) hk hn;rw [eW h1,h2];rfl
theorem jf.pre (h:jf l b ss) {k j:Nat} (hk:k<ss.length) (hn:dW ss k=true) (hj:(j:Int)∈ss[k].fr):dW ss j=true∧j<k∧cu (dW ss) j<cu (dW ss) k:=by
 have h1:dW ss j=true:=iR.2 (.fr hk (iR.1 hn) hj);have h2:=(h.m6 k hk).oE hj;exact ⟨h1,by omega,Eo (by omega) h1⟩
theorem B4 (hb:aX b) {s u:aE} {ag:Int} {n:Nat} (hn:(mw l b s ag).getLsbD n=true) (hu:u.getLsbD (fU b s ag n)=true):(mw l b u ag).getLsbD n=true:=by
 rw [lh hb];rcases fT (b:=b) (s:=s) (ag:=ag) (n:=n) with ⟨j,g1,g2,g3,g4,g5,g6,g7⟩|⟨g1,g2⟩;rw [g1] at hu;exact ⟨j,g2,hu,g5,.inl ⟨g4,g6⟩⟩;rw [g1] at hu;obtain ⟨i,k1,k2,k3,k4⟩:=(lh hb).1 hn;rcases k4 with ⟨k4,k5⟩|⟨k4,k5⟩;exact absurd k5 (g2 i k1 k2 k4 k3);subst k4;exact ⟨n,k1,hu,k3,.inr ⟨rfl,k5⟩⟩
theorem jf.FL (h:jf l b ss) {k:Nat} (hk:k<ss.length) (hn:dW ss k=true):eI l b (dL b ss) (cu (dW ss) k) (iv b ss k ss[k]):=by
 have hb:=h.base;have hlen:=hb.len;have hbw:∀{i:Int} {n:Nat},0≤i→i<64→((bW i).getLsbD n=true↔(n:Int)=i):=fun h1 h2=>pH ⟨h1,h2⟩;have hsub:=h.sub k hk;have hsb:∀(j:Nat),(j:Int)∈ss[k].fr→∀m,Us b ss j m→(dE ss j).getLsbD m=true:=fun j hj m hm=>by
  have:=(h.pre hk hn hj).2.1;rw [eW (by omega)];exact h.sub j (by omega) m hm
 have hset:∀(j:Nat),(j:Int)∈ss[k].fr→dE (dL b ss) (cu (dW ss) j:Nat)=qg b ss j:=fun j hj=>
  tX (by have:=(h.pre hk hn hj).2.1;omega) (h.pre hk hn hj).1;refine ⟨fun n hn=>(h.m6 k hk).1 n (hsub n hn),?_⟩;have hin:∀{o:Nat},Us b ss k o→fA (iv b ss k ss[k]).set o=true:=fun h=>rC.2 h;cases h.Io hk with
 |Fh o h1 h2 h3 h4 h5 h6 h7=>
  have e0:(nd b ss[k].on).op=2:=by rw [h3];exact h6
  refine .inl ⟨h1,by simp [iv,h2],.inl ⟨⟨by show ss[k].on<_;omega,by show fA _ ss[k].on=true;rw [h3];exact hin ((h7 o).2 rfl),e0⟩,?_⟩⟩;show (if _ then _ else _)=_;rw [if_pos ⟨h1,e0⟩]
 |neg o e h1 h2 h3 h4 h5 h6 h7 h8 h9 h10 h11 h12=>
  have e0:¬(nd b ss[k].on).op=2:=by rw [h3];exact h6
  have ee:(iv b ss k ss[k]).e=e:=by
   show (if _ then _ else _)=_;rw [if_neg (fun h=>e0 h.2)];exact h7
  have eo:(iv b ss k ss[k]).on=o:=h3;refine .inl ⟨h1,by simp [iv,h2],.inr ⟨?_,?_,?_,?_⟩⟩;rw [eo];exact hin ((h12 o).2 (.inl rfl));rw [eo];omega;rw [ee];exact hin ((h12 e).2 (.inr rfl));rw [eo,ee];exact h10
 |and o j h1 h2 h3 h4 h5 h6 h7 h8 h9 h10=>
  have hm:(j:Int)∈ss[k].fr:=by rw [h3];exact List.mem_singleton.2 rfl
  have ee:(iv b ss k ss[k]).e=0:=by show (if _ then _ else _)=_;rw [if_neg (by omega)];exact h2
  have eo:(iv b ss k ss[k]).on=o:=h5;have ef:(iv b ss k ss[k]).fr=[((cu (dW ss) j:Nat):Int)]:=by simp [iv,h3]
  have hx1:=hb.x h6 (by omega);have hy1:=hb.y h6 (by omega);refine .inr (.inl ⟨h1,ee,⟨by rw [eo];omega,by rw [eo];exact hin ((h10 o).2 (.inr rfl)),by rw [eo];exact h8⟩,?_⟩);rw [ef,eo];refine eS.IY (h.pre hk hn hm).2.2 (fun n hn=>?_);rw [hset j hm] at hn;rw [dt,dt,hbw (by omega) (by omega),hbw (by omega) (by omega)];by_cases c1:(n:Int)=(nd b o).x;exact .inl (.inr c1);by_cases c2:(n:Int)=(nd b o).y;exact .inr c2;exact .inl (.inl ((h10 n).2 (.inl ⟨hn,c1,c2⟩)))
 |or o j i h1 h2 h3 h4 h5 h6 h7 h8 h9 h10 h11 h12=>
  have hm:(j:Int)∈ss[k].fr:=by rw [h3];simp
  have hm2:(i:Int)∈ss[k].fr:=by rw [h3];simp
  have ee:(iv b ss k ss[k]).e=0:=by show (if _ then _ else _)=_;rw [if_neg (by omega)];exact h2
  have eo:(iv b ss k ss[k]).on=o:=h6;have ef:(iv b ss k ss[k]).fr=[((cu (dW ss) j:Nat):Int),((cu (dW ss) i:Nat):Int)]:=by simp [iv,h3]
  have hx1:=hb.x h7 (by omega);have hy1:=hb.y h7 (by omega);refine .inr (.inr (.inl ⟨h1,ee,⟨by rw [eo];omega,by rw [eo];exact hin ((h12 o).2 (.inr (.inr rfl))),by rw [eo];exact h9⟩,?_⟩));rw [ef,eo];refine eS.K5 (h.pre hk hn hm).2.2 (h.pre hk hn hm2).2.2 (fun n hn=>?_) (fun n hn=>?_);rw [hset j hm] at hn;rw [dt,hbw (by omega) (by omega)];by_cases c1:(n:Int)=(nd b o).x;exact .inr c1;exact .inl ((h12 n).2 (.inl ⟨hn,c1⟩));rw [hset i hm2] at hn;rw [dt,hbw (by omega) (by omega)];by_cases c1:(n:Int)=(nd b o).y;exact .inr c1;exact .inl ((h12 n).2 (.inr (.inl ⟨hn,c1⟩)))
 |cut o e j i h1 h2 h3 h4 h5 h6 h7 h8 h9 h10 h11 h12 h13=>
  have hm:(j:Int)∈ss[k].fr:=by rw [h2];simp
  have hm2:(i:Int)∈ss[k].fr:=by rw [h2];simp
  have ee:(iv b ss k ss[k]).e=e:=by show (if _ then _ else _)=_;rw [if_neg (by omega)];exact h7
  have eo:(iv b ss k ss[k]).on=o:=h5;have ef:(iv b ss k ss[k]).fr=[((cu (dW ss) j:Nat):Int),((cu (dW ss) i:Nat):Int)]:=by simp [iv,h2]
  refine .inr (.inr (.inr (.inl ⟨h1,by rw [eo];omega,by rw [ee];omega,by rw [eo,ee];exact h9,?_⟩)));rw [ef,eo,ee];refine eS.K5 (h.pre hk hn hm).2.2 (h.pre hk hn hm2).2.2 (fun n hn=>?_) (fun n hn=>?_);rw [hset j hm] at hn;rw [dt,hbw (by omega) (by omega)];by_cases c1:n=o;exact .inr (by omega);exact .inl ((h13 n).2 (.inl ⟨hn,c1⟩));rw [hset i hm2] at hn;rw [dt,hbw (by omega) (by omega)];by_cases c1:n=e;exact .inr (by omega);exact .inl ((h13 n).2 (.inr ⟨hn,c1⟩))
 |t o j h1 h2 h3 h4 h5 h6 h7 h8 h9 h10 h11=>
  have hm:(j:Int)∈ss[k].fr:=by rw [h4];exact List.mem_singleton.2 rfl
  have ee:(iv b ss k ss[k]).e=0:=by show (if _ then _ else _)=_;rw [if_neg (by omega)];exact h2
  have eo:(iv b ss k ss[k]).on=o:=h6;have ef:(iv b ss k ss[k]).fr=[((cu (dW ss) j:Nat):Int)]:=by simp [iv,h4]
  have hx1:=hb.x h7 (by omega);refine .inr (.inr (.inr (.inr (.inl ⟨h1,ee,h3,⟨by rw [eo];omega,by rw [eo];exact hin ((h11 o).2 (.inr rfl)),by rw [eo];exact h9⟩,?_⟩))));rw [ef,eo];refine eS.IY (h.pre hk hn hm).2.2 (fun n hn=>?_);rw [hset j hm] at hn;rw [dt,hbw (by omega) (by omega)];by_cases c1:(n:Int)=(nd b o).x;exact .inr c1;exact .inl ((h11 n).2 (.inl ⟨hn,c1⟩))
 |k o j h1 h2 h3 h4 h5 h6 h7 h8 h9 h10=>
  have hm:(j:Int)∈ss[k].fr:=by rw [h3];exact List.mem_singleton.2 rfl
  have ee:(iv b ss k ss[k]).e=0:=by show (if _ then _ else _)=_;rw [if_neg (by omega)];exact h2
  have eo:(iv b ss k ss[k]).on=o:=h5;have ef:(iv b ss k ss[k]).fr=[((cu (dW ss) j:Nat):Int)]:=by simp [iv,h3]
  have hx1:=hb.x h6 (by omega);refine .inr (.inr (.inr (.inr (.inr (.inl ⟨h1,ee,⟨by rw [eo];omega,by rw [eo];exact hin ((h10 o).2 (.inr rfl)),by rw [eo];exact h8⟩,?_⟩)))));rw [ef,eo];refine eS.IY (h.pre hk hn hm).2.2 (fun n hn=>?_);rw [hset j hm] at hn;rw [dt,hbw (by omega) (by omega)];by_cases c1:(n:Int)=(nd b o).x;exact .inl c1;exact .inr (B4 hb ((h9 n (hsb j hm n hn)).resolve_right c1) ((h10 _).2 (.inl ⟨n,hn,c1,rfl⟩)))
 |d j h1 h2 h3 h4 h5 h6 h7 h8=>
  have hm:(j:Int)∈ss[k].fr:=by rw [h4];exact List.mem_singleton.2 rfl
  have ee:(iv b ss k ss[k]).e=0:=by show (if _ then _ else _)=_;rw [if_neg (by omega)];exact h2
  have ef:(iv b ss k ss[k]).fr=[((cu (dW ss) j:Nat):Int)]:=by simp [iv,h4]
  refine .inr (.inr (.inr (.inr (.inr (.inr ⟨h1,ee,h3,h6,?_⟩)))));rw [ef];refine eS.IY (h.pre hk hn hm).2.2 (fun n hn=>?_);rw [hset j hm] at hn;exact B4 hb (h7 n (hsb j hm n hn)) ((h8 _).2 ⟨n,hn,rfl⟩)
theorem jf.tr (h:jf l b ss):jf l b (dL b ss):=by
 have hlast:dW ss (ss.length - 1)=true:=iR.2 (.last (by have:=h.pos;omega));refine ⟨h.log,h.base,?_,?_,fun q hq=>?_⟩;obtain ⟨h1,_⟩:=tU (b:=b) (k:=ss.length - 1) (by have:=h.pos;omega) hlast;omega;rw [ql];have:=uJ (p:=dW ss) (k:=ss.length);have:=h.len;omega;obtain ⟨k,hk,h1,h2,h3⟩:=wx hq;rw [h3,←h2];exact h.FL hk h1
end
section
variable {l:Int} {b:List NV} {ss:List SD}
theorem jf.CX (h:jf l b ss):∃(h1:(dL b ss).length - 1<(dL b ss).length) (h2:ss.length - 1<ss.length),(dL b ss)[(dL b ss).length - 1]=iv b ss (ss.length - 1) ss[ss.length - 1]∧dW ss (ss.length - 1)=true:=by
 have hp:=h.pos;have hlast:dW ss (ss.length - 1)=true:=iR.2 (.last (by omega));have hl:ss.length - 1<ss.length:=by omega
 obtain ⟨h1,h2⟩:=tU (b:=b) hl hlast;have e:(dL b ss).length=cu (dW ss) (ss.length - 1)+1:=by
  rw [ql]
  conv=>lhs;rw [show ss.length=(ss.length - 1)+1 by omega]
  rw [iK,if_pos hlast]
 refine ⟨by omega,hl,?_,hlast⟩;rw [←h2];congr 1;omega
def uX:Tr→Bool
 |.leaf op _ _ _=>op==1
 |.un op _ _ _ a=>if op=4 then !uX a else uX a
 |.bin op _ _ _ a c=>if op=5 then uX a && uX c else uX a||uX c
theorem qG:∀{t:Tr},nC t→t.ok→uX (ay t).2=!uX t
 |.leaf op i e g,h,hok=>by
  have h1:op≤3:=h;have h2:=hok.1.1;rw [ay];dsimp only;rcases (by omega:op=1∨op=2∨op=3) with rfl|rfl|rfl;rfl;rfl;rfl
 |.un op i e g a,h,hok=>by
  rcases h with ⟨rfl,j,e',g',rfl⟩|⟨h1,h2⟩;rfl;have ih:=qG h2 hok.2.2.2.2;rcases h1 with rfl|rfl;rw [ay,if_neg (by decide),if_pos rfl];exact ih;rw [ay,if_neg (by decide),if_neg (by decide),if_pos rfl];exact ih
 |.bin op i e g a c,h,hok=>by
  have iha:=qG h.2.1 hok.2.2.2.1;have ihc:=qG h.2.2 hok.2.2.2.2;rcases h.1 with rfl|rfl;rw [ay,if_pos rfl];show (if (6:Int)=5 then _ else _)=!(if (5:Int)=5 then _ else _);rw [if_neg (by decide),if_pos rfl,iha,ihc];cases uX a<;>cases uX c<;>rfl
  rw [ay,if_neg (by decide),if_pos rfl];show (if (5:Int)=5 then _ else _)=!(if (6:Int)=5 then _ else _);rw [if_pos rfl,if_neg (by decide),iha,ihc];cases uX a<;>cases uX c<;>rfl
theorem aX.node (h:aX b) {i:Nat} (hi:i<b.length):((nd b i).op≤3∧aa b i=.leaf (nd b i).op (nd b i).i (nd b i).e (nd b i).g)∨(((nd b i).op=4∨(nd b i).op=9∨(nd b i).op=10)∧aa b i=.un (nd b i).op (nd b i).i (nd b i).e (nd b i).g (aa b (nd b i).x.toNat))∨(((nd b i).op=5∨(nd b i).op=6)∧aa b i=.bin (nd b i).op (nd b i).i (nd b i).e (nd b i).g (aa b (nd b i).x.toNat) (aa b (nd b i).y.toNat)):=by
 rw [dN hi];have hO:=(aB.1 h.jk).nodes;have hn:=h.E6 _ (List.getElem_mem hi);unfold dk at hn;have hX:cS b[i].op=true↔4≤b[i].op:=by
  unfold cS;simp;omega
 have hY:cF b[i].op=true↔b[i].op=5∨b[i].op=6:=by
  unfold cF;simp;omega
 rcases cd hi hO with ⟨h1,h2⟩|⟨h1,h2,h3⟩|⟨h1,h2⟩;refine .inl ⟨?_,h2⟩;have:¬4≤b[i].op:=fun e=>by rw [hX.2 e] at h1;cases h1
 omega;refine .inr (.inl ⟨?_,h3⟩);have:=hX.1 h1;have:¬(b[i].op=5∨b[i].op=6):=fun e=>by rw [hY.2 e] at h2;cases h2
 omega;exact .inr (.inr ⟨hY.1 h1,h2⟩)
theorem aX.ok (h:aX b) {i:Nat} (hi:i<b.length):(aa b i).ok:=(aB.1 h.jk).nodes.tree i hi
theorem aX.nf (h:aX b):∀(i:Nat),i<b.length→nC (aa b i):=by
 intro i
 induction i using Nat.strongRecOn with
 |_ i ih=>
 intro hi;rcases h.node hi with ⟨h1,h2⟩|⟨h1,h2⟩|⟨h1,h2⟩;rw [h2];exact h1;have hx:=h.x hi (by omega);rw [h2];by_cases h4:(nd b i).op=4;have hn:=h.E6 _ (List.getElem_mem hi);unfold dk at hn;rw [←dN hi] at hn;have h3:(nd b (nd b i).x).op=3:=by omega
 obtain ⟨k,hk⟩:∃k:Nat,(nd b i).x=k:=⟨(nd b i).x.toNat,by omega⟩;rw [hk] at h3⊢;have hkl:k<b.length:=by omega
 rcases h.node hkl with ⟨g1,g2⟩|⟨g1,g2⟩|⟨g1,g2⟩;rw [Int.toNat_natCast,g2,h3];exact .inl ⟨h4,_,_,_,rfl⟩;omega;omega;exact .inr ⟨by omega,ih _ (by omega) (by omega)⟩;have hx:=h.x hi (by omega);have hy:=h.y hi h1;rw [h2];exact ⟨h1,ih _ (by omega) (by omega),ih _ (by omega) (by omega)⟩
theorem aX.fit (h:aX b) {i:Nat} (hi:i<b.length):Fit (aF (aa b i))∧Fit (aa b i):=by
 have h1:=mW (aB.1 h.jk).nodes.ord hi;have h2:=h.len;have h3:(cg (aF (aa b i))).length=(cg (aa b i)).length+1:=qH;unfold Fit;omega
theorem aX.BM (h:aX b) {i:Nat} (hi:i<b.length):uX (eR (aa b i))=!uX (aa b i):=by
 rw [rj (h.fit hi).1];exact qG (h.nf i hi) (h.ok hi)
theorem jf.BG (h:jf l b ss):∀(k:Nat),k<ss.length→∃n,Us b ss k n∧uX (aa b n)=false:=by
 have hb:=h.base;intro k
 induction k using Nat.strongRecOn with
 |_ k ih=>
 intro hk;have hsrc:∀{j:Nat} {s:aE} {ag:Int} {m:Nat},j<ss.length→Us b ss j m→uX (aa b m)=false→uX (aa b (fU b s ag m))=false:=fun {j s ag m} hj hm he=>by
  rcases fT (b:=b) (s:=s) (ag:=ag) (n:=m) with ⟨i,h1,h2,h3,h4,h5,h6,_⟩|⟨h1,_⟩;rw [h1];rcases hb.node h2 with ⟨g1,g2⟩|⟨g1,g2⟩|⟨g1,g2⟩;omega;rw [g2,h6];show (if _ then _ else _)=_;rw [if_neg (by omega)];exact he;omega;rw [h1];exact he
 cases h.Io hk with
 |Fh o h1 h2 h3 h4 h5 h6 h7=>
  refine ⟨o,(h7 o).2 rfl,?_⟩;rcases hb.node h4 with ⟨g1,g2⟩|⟨g1,g2⟩|⟨g1,g2⟩;rw [g2,h6];rfl;omega;omega
 |neg o e h1 h2 h3 h4 h5 h6 h7 h8 h9 h10 h11 h12=>
  cases hv:uX (aa b o) with
  |false=>exact ⟨o,(h12 o).2 (.inl rfl),hv⟩
  |true=>exact ⟨e,(h12 e).2 (.inr rfl),by rw [h11,hb.BM h4,hv];rfl⟩
 |and o j h1 h2 h3 h4 h5 h6 h7 h8 h9 h10=>
  obtain ⟨n,hn,hv⟩:=ih j h4 (by omega);have hx:=hb.x h6 (by omega);have hy:=hb.y h6 (by omega);by_cases c1:(n:Int)=(nd b o).x∨(n:Int)=(nd b o).y;refine ⟨o,(h10 o).2 (.inr rfl),?_⟩;rcases hb.node h6 with ⟨g1,g2⟩|⟨g1,g2⟩|⟨g1,g2⟩;omega;omega;rw [g2,h8];show (if (5:Int)=5 then _ else _)=_;rw [if_pos rfl];rcases c1 with c1|c1;rw [←c1,Int.toNat_natCast,hv];rfl;rw [←c1,Int.toNat_natCast,hv,Bool.and_false];exact ⟨n,(h10 n).2 (.inl ⟨hn,fun e=>c1 (.inl e),fun e=>c1 (.inr e)⟩),hv⟩
 |or o j i h1 h2 h3 h4 h5 h6 h7 h8 h9 h10 h11 h12=>
  obtain ⟨n,hn,hv⟩:=ih j h4 (by omega);obtain ⟨m,hm,hw⟩:=ih i h5 (by omega);by_cases c1:(n:Int)=(nd b o).x;by_cases c2:(m:Int)=(nd b o).y;refine ⟨o,(h12 o).2 (.inr (.inr rfl)),?_⟩;rcases hb.node h7 with ⟨g1,g2⟩|⟨g1,g2⟩|⟨g1,g2⟩;omega;omega;rw [g2,h9];show (if (6:Int)=5 then _ else _)=_;rw [if_neg (by decide),←c1,←c2,Int.toNat_natCast,Int.toNat_natCast,hv,hw];rfl;exact ⟨m,(h12 m).2 (.inr (.inl ⟨hm,c2⟩)),hw⟩;exact ⟨n,(h12 n).2 (.inl ⟨hn,c1⟩),hv⟩
 |cut o e j i h1 h2 h3 h4 h5 h6 h7 h8 h9 h10 h11 h12 h13=>
  obtain ⟨n,hn,hv⟩:=ih j h3 (by omega);obtain ⟨m,hm,hw⟩:=ih i h4 (by omega);by_cases c1:n=o;by_cases c2:m=e;subst c1 c2;rw [h10,hb.BM h6,hv] at hw;cases hw;exact ⟨m,(h13 m).2 (.inr ⟨hm,c2⟩),hw⟩;exact ⟨n,(h13 n).2 (.inl ⟨hn,c1⟩),hv⟩
 |t o j h1 h2 h3 h4 h5 h6 h7 h8 h9 h10 h11=>
  obtain ⟨n,hn,hv⟩:=ih j h5 (by omega);by_cases c1:(n:Int)=(nd b o).x;refine ⟨o,(h11 o).2 (.inr rfl),?_⟩;rcases hb.node h7 with ⟨g1,g2⟩|⟨g1,g2⟩|⟨g1,g2⟩;omega;rw [g2,h9,←c1,Int.toNat_natCast];show (if (9:Int)=4 then _ else _)=_;rw [if_neg (by decide)];exact hv;omega;exact ⟨n,(h11 n).2 (.inl ⟨hn,c1⟩),hv⟩
 |k o j h1 h2 h3 h4 h5 h6 h7 h8 h9 h10=>
  obtain ⟨n,hn,hv⟩:=ih j h4 (by omega);by_cases c1:(n:Int)=(nd b o).x;refine ⟨o,(h10 o).2 (.inr rfl),?_⟩;rcases hb.node h6 with ⟨g1,g2⟩|⟨g1,g2⟩|⟨g1,g2⟩;omega;rw [g2,h8,←c1,Int.toNat_natCast];show (if (10:Int)=4 then _ else _)=_;rw [if_neg (by decide)];exact hv;omega;exact ⟨_,(h10 _).2 (.inl ⟨n,hn,c1,rfl⟩),hsrc (by omega:j<ss.length) hn hv⟩
 |d j h1 h2 h3 h4 h5 h6 h7 h8=>
  obtain ⟨n,hn,hv⟩:=ih j h5 (by omega);exact ⟨_,(h8 _).2 ⟨n,hn,rfl⟩,hsrc (by omega:j<ss.length) hn hv⟩
end
def dM (b:List NV) (s:aE):Tr:=aF (lR ((ew s).map (aa b)))
section
variable (T:Tr→Prop)
noncomputable def uM (a:Int) (h:Tr):List Tr→List Tr→Nat→Sg→Nat×Sg
 |_,[],r,σ=>(r,σ)
 |ds,t::ts,r,σ=>
  let k:=kW T a t (cD ts h) σ
  let d:=aT T (cD ((ds++[t]).map (ar a)) (ar a (cD ts h))) [r,k.1] k.2
  uM a h (ds++[t]) ts d.1 d.2
noncomputable def m7 (a:Int) (ts:List Tr) (h:Tr) (line:Nat) (σ:Sg):Nat×Sg:=
 let f:=aT T (cD ts h) [line] σ
 let r:=bP T (ar a (cD ts h)) 11 f.1 0 a f.2
 uM T a h [] ts r.1 r.2
noncomputable def eQ (b:List NV) (full:aE) (a:Int):List Nat→Sg→List Nat×Sg
 |[],σ=>([],σ)
 |n::ns,σ=>if fU b full a n=n then ((lX T a (aa b n) σ).1::(eQ b full a ns (lX T a (aa b n) σ).2).1,(eQ b full a ns (lX T a (aa b n) σ).2).2) else eQ b full a ns σ
noncomputable def wQ (b:List NV) (goal:Tr) (full:aE) (a:Int) (ns:List Nat) (tg:Nat) (own:List Nat) (isK:Bool) (line:Nat) (σ:Sg):Nat×Sg:=
 let c:=m7 T a (ns.map (aa b)) (aF (aa b tg)) line σ
 let d:=eQ T b full a own c.2
 let e:=if isK=true then dT T a (aa b tg) d.2 else bP T (aL (ar a (aa b tg)) (aF (ar a (aF (aa b tg))))) 6 0 0 0 d.2
 aT T goal (c.1::(d.1++[e.1])) e.2
noncomputable def ct (b:List NV) (tl:List SD) (full:aE) (x:SD) (last:List Nat) (σ:Sg):Nat×Sg:=
 let goal:=dM b x.set
 let p0:=last.getD (x.fr.getD 0 0).toNat 0
 let p1:=last.getD (x.fr.getD 1 0).toNat 0
 if x.aC=1 then (if (nd b x.on).op=2 then aT T goal [] σ else aT T goal [(aA T false (tA b x.on) σ).1] (aA T false (tA b x.on) σ).2)
 else if x.aC=2 then aT T goal [p0] σ
 else if x.aC=3 then aT T goal [p0,p1] σ
 else if x.aC=4 then aT T goal [(aA T true (tA b x.on) σ).1,p0,p1] (aA T true (tA b x.on) σ).2
 else if x.aC=5 then aT T goal [(bP T (aL (tA b x.on) (tA b (nd b x.on).x)) 3 0 0 0 σ).1,p0] (bP T (aL (tA b x.on) (tA b (nd b x.on).x)) 3 0 0 0 σ).2
 else if x.aC=6 then wQ T b goal full (nd b x.on).i (ew (dE tl (x.fr.getD 0 0) &&& ~~~ bW (nd b x.on).x)) (nd b x.on).x.toNat (ew (dE tl (x.fr.getD 0 0) &&& ~~~ bW (nd b x.on).x)) true p0 σ
 else wQ T b goal full x.on (ew (dE tl (x.fr.getD 0 0))).dropLast ((ew (dE tl (x.fr.getD 0 0))).getLastD 0) (ew (dE tl (x.fr.getD 0 0))) false p0 σ
noncomputable def aV (b:List NV) (tl:List SD) (fl:List aE):Nat→List Nat×Sg
 |0=>([],⟨[],false⟩)
 |q+1=>match tl[q]? with
  |some x=>((aV b tl fl q).1++[(ct T b tl (fl.getD q 0#64) x (aV b tl fl q).1 (aV b tl fl q).2).1],(ct T b tl (fl.getD q 0#64) x (aV b tl fl q).1 (aV b tl fl q).2).2)
  |none=>aV b tl fl q
end
noncomputable def di (ss:List SD):Nat→List aE
 |0=>[]
 |k+1=>match ss[k]? with
  |some x=>if dW ss k=true then di ss k++[x.set] else di ss k
  |none=>di ss k
noncomputable def iw (T:Tr→Prop) (b:List NV) (ss:List SD):Nat×Sg:=
 let tl:=dL b ss
 let p:=aV T b tl (di ss ss.length) tl.length
 let ln:=p.1.getD (tl.length - 1) 0
 if dE tl ((tl.length - 1:Nat):Int)=dE ss ((ss.length - 1:Nat):Int) then (ln,p.2) else aT T (dM b (dE ss ((ss.length - 1:Nat):Int))) [ln] p.2
section
variable {l:Int} {b:List NV} {ss:List SD} {σ:Sg} {T:Tr→Prop}
theorem BL {v:Tr→Bool}:∀{ts:List Tr},cC v (lR ts)=true↔∀u∈ts,cC v u=true
 |[]=>⟨fun _ _ h=>(by cases h),fun _=>rfl⟩
 |t::ts=>by
  have key:∀(us:List Tr) (a:Tr),cC v (us.foldl (fun a c=>.bin 5 0 0 0 a c) a)=true↔cC v a=true∧∀u∈us,cC v u=true:=by
   intro us
   induction us with
   |nil=>intro a;simp
   |cons u us ih=>
    intro a;rw [List.foldl_cons,ih,show cC v (.bin 5 0 0 0 a u)=(cC v a && cC v u) from rfl,Bool.and_eq_true];simp only [List.mem_cons,forall_eq_or_imp,and_assoc]
  rw [show lR (t::ts)=ts.foldl (fun a c=>.bin 5 0 0 0 a c) t from rfl,key];simp
theorem fK {v:Tr→Bool} {s:aE}:cC v (dM b s)=true↔¬∀n,s.getLsbD n=true→cC v (aa b n)=true:=by
 unfold dM;rw [sD,Bool.not_eq_true'];constructor;intro h hall;have:cC v (lR ((ew s).map (aa b)))=true:=BL.2 (fun u hu=>by
  obtain ⟨n,hn,rfl⟩:=List.mem_map.1 hu;exact hall n (dz.1 hn));rw [this] at h;cases h;intro h;cases e:cC v (lR ((ew s).map (aa b))) with
 |false=>rfl
 |true=>exact absurd (fun n hn=>BL.1 e _ (List.mem_map_of_mem (dz.2 hn))) h
theorem yH:∀{ts:List Tr},(∀u∈ts,fD u)→fD (lR ts)
 |[],_=>⟨⟨by decide,rfl,by decide⟩,.inl (by decide)⟩
 |t::ts,h=>by
  have key:∀(us:List Tr) (a:Tr),fD a→(∀u∈us,fD u)→fD (us.foldl (fun a c=>.bin 5 0 0 0 a c) a):=by
   intro us
   induction us with
   |nil=>intro a ha _;exact ha
   |cons u us ih=>intro a ha hu;exact ih _ (ha.ad (hu u (List.mem_cons_self ..))) (fun w hw=>hu w (List.mem_cons_of_mem _ hw))
  exact key ts t (h t (List.mem_cons_self ..)) (fun u hu=>h u (List.mem_cons_of_mem _ hu))
theorem aX.fr (h:aX b) {n:Nat} (hn:n<b.length):fD (aa b n):=(h.nf n hn).fr (h.ok hn)
theorem qB (h:aX b) {s:aE} (hs:jV b s):fD (dM b s):=(yH (fun u hu=>by
 obtain ⟨n,hn,rfl⟩:=List.mem_map.1 hu;exact h.fr (hs n (dz.1 hn)))).nt
theorem yK {a:Int} {h:Tr}:∀{ts ds:List Tr} {r:Nat} {σ:Sg},σ.Le (uM T a h ds ts r σ).2
 |[],_,_,σ=>Sg.Le.refl σ
 |_t::ts,_ds,_r,_σ=>vK.trans (dA.trans (yK (ts:=ts)))
theorem Es {a:Int} {h:Tr} {ts:List Tr} {n:Nat}:σ.Le (m7 T a ts h n σ).2:=dA.trans (dD.trans yK)
theorem v7 {a:Int} {h:Tr}:∀{ts ds:List Tr} {r:Nat} {σ:Sg},dx σ r (cD (ds.map (ar a)) (ar a (cD ts h)))→dx (uM T a h ds ts r σ).2 (uM T a h ds ts r σ).1 (cD ((ds++ts).map (ar a)) (ar a h))
 |[],ds,r,σ,hr=>by rw [List.append_nil];exact hr
 |t::ts,ds,r,σ,_=>by
  rw [show ds++t::ts=(ds++[t])++ts by simp];exact v7 ep
theorem v5 {a:Int} {h:Tr} {ts:List Tr} {n:Nat}:dx (m7 T a ts h n σ).2 (m7 T a ts h n σ).1 (cD (ts.map (ar a)) (ar a h)):=v7 (ds:=[]) cz
theorem lg {full:aE} {a:Int}:∀{ns:List Nat} {σ:Sg},σ.Le (eQ T b full a ns σ).2
 |[],σ=>Sg.Le.refl σ
 |n::ns,σ=>by
  rw [eQ];split;exact uO.trans lg;exact lg
theorem pD {full:aE} {a:Int}:∀{ns:List Nat} {σ:Sg} (m:Nat),m∈(eQ T b full a ns σ).1→∃n∈ns,fU b full a n=n∧dx (eQ T b full a ns σ).2 m (aL (aa b n) (ar a (aa b n)))
 |[],σ,m,h=>by cases h
 |n::ns,σ,m,h=>by
  rw [eQ] at h⊢;by_cases e:fU b full a n=n;rw [if_pos e] at h⊢;rcases List.mem_cons.1 h with rfl|h;exact ⟨n,List.mem_cons_self ..,e,r8.le lg⟩;obtain ⟨k,h1,h2,h3⟩:=pD m h;exact ⟨k,List.mem_cons_of_mem _ h1,h2,h3⟩;rw [if_neg e] at h⊢;obtain ⟨k,h1,h2,h3⟩:=pD m h;exact ⟨k,List.mem_cons_of_mem _ h1,h2,h3⟩
theorem pE {full:aE} {a:Int}:∀{ns:List Nat} {σ:Sg} {n:Nat},n∈ns→fU b full a n=n→∃m∈(eQ T b full a ns σ).1,dx (eQ T b full a ns σ).2 m (aL (aa b n) (ar a (aa b n)))
 |[],_,_,h,_=>by cases h
 |k::ns,σ,n,h,he=>by
  rw [eQ];rcases List.mem_cons.1 h with rfl|h;rw [if_pos he];exact ⟨_,List.mem_cons_self ..,r8.le lg⟩;split;obtain ⟨m,h1,h2⟩:=pE (σ:=(lX T a (aa b k) σ).2) h he;exact ⟨m,List.mem_cons_of_mem _ h1,h2⟩;exact pE h he
theorem yn {goal:Tr} {full:aE} {a:Int} {ns:List Nat} {tg:Nat} {own:List Nat} {isK:Bool} {line:Nat}:σ.Le (wQ T b goal full a ns tg own isK line σ).2:=by
 have h1:=Es (T:=T) (σ:=σ) (a:=a) (h:=aF (aa b tg)) (ts:=ns.map (aa b)) (n:=line);have h2:=lg (T:=T) (b:=b) (full:=full) (a:=a) (ns:=own) (σ:=(m7 T a (ns.map (aa b)) (aF (aa b tg)) line σ).2);cases isK with
 |true=>exact (h1.trans h2).trans (jt.trans dA)
 |false=>exact (h1.trans h2).trans (dD.trans dA)
theorem u7 {tl:List SD} {full:aE} {x:SD} {last:List Nat}:σ.Le (ct T b tl full x last σ).2:=by
 unfold ct;dsimp only
 repeat' split
 exact dA;exact ic.trans dA;exact dA;exact dA;exact ic.trans dA;exact dD.trans dA;exact yn;exact yn
theorem y9 {tl:List SD} {full:aE} {x:SD} {last:List Nat}:dx (ct T b tl full x last σ).2 (ct T b tl full x last σ).1 (dM b x.set):=by
 unfold ct;dsimp only
 repeat' split
 all_goals exact ep
def pX (σ:Sg) (n:Nat):Prop:=σ.bad=false→n+1=σ.ls.length
theorem tJ {t:Tr} {r g:Int} {a c:Nat}:pX (bP T t r a c g σ).2 (bP T t r a c g σ).1:=by
 unfold bP;split;intro e;cases e;intro _;simp
theorem sX {g:Tr}:∀{ps:List (Nat×Tr)} {n:Nat} {σ:Sg},pX σ n→pX (jZ T g ps n σ).2 (jZ T g ps n σ).1
 |[],_,_,h=>h
 |_::ps,_,_,_=>sX (ps:=ps) tJ
theorem tG {g:Tr} {fr:List Nat}:pX (aT T g fr σ).2 (aT T g fr σ).1:=by
 unfold aT;split;rename_i h;intro e;rw [h] at e;cases e;exact sX tJ
theorem wB {tl:List SD} {full:aE} {x:SD} {last:List Nat}:pX (ct T b tl full x last σ).2 (ct T b tl full x last σ).1:=by
 unfold ct;dsimp only
 repeat' split
 all_goals exact tG
end
section
variable {l:Int} {b:List NV} {ss:List SD} {σ:Sg}
theorem yJ {a:Int} {h:Tr} (hi:0≤a∧a<4) (hh:fD h):∀{ts ds:List Tr} {r:Nat} {σ:Sg},(∀u∈ts,fD u)→(∀u∈ds,fD u)→Good l σ→dx σ r (cD (ds.map (ar a)) (ar a (cD ts h)))→uW l (fun T=>uM T a h ds ts r) σ
 |[],_,_,σ,_,_,hg,_=>⟨rfl,hg⟩
 |t::ts,ds,r,σ,hts,hds,hg,hr=>by
  have ht:=hts t (List.mem_cons_self ..);have hts':∀u∈ts,fD u:=fun u hu=>hts u (List.mem_cons_of_mem _ hu);have hc:=fD.ch hts' hh;have h1:=Fb (i:=a) (p:=t) (q:=cD ts h) hi hg ht hc;have k1:dx (kW ae a t (cD ts h) σ).2 (kW ae a t (cD ts h) σ).1 (aL (ar a (aL t (cD ts h))) (aL (ar a t) (ar a (cD ts h)))):=cz;have kr:=hr.le (vK (T:=ae) (i:=a) (p:=t) (q:=cD ts h));have hds':∀u∈ds++[t],fD u:=fun u hu=>by
   rcases List.mem_append.1 hu with hu|hu;exact hds u hu;rw [List.mem_singleton.1 hu];exact ht
  have h2:=ej (g:=cD ((ds++[t]).map (ar a)) (ar a (cD ts h))) (from_:=[r,(kW ae a t (cD ts h) σ).1]) h1.dQ (fD.ch (fun u hu=>by
    obtain ⟨w,hw,rfl⟩:=List.mem_map.1 hu;exact (hds' w hw).kw hi) (hc.kw hi)) (fun hb n hn=>by
   simp only [List.mem_cons,List.not_mem_nil,or_false] at hn;rcases hn with rfl|rfl;exact (kr hb).1;exact (k1 hb).1) (fun hb _ v hv=>by
   have e1:=hv _ (List.mem_cons_self ..);have e2:=hv _ (List.mem_cons_of_mem _ (List.mem_cons_self ..));rw [(kr hb).2,xh] at e1;rw [(k1 hb).2,p8,p8] at e2;rw [xh];intro hall;have e3:cC v (ar a (aL t (cD ts h)))=true:=e1 (fun u hu=>hall u (by rw [List.map_append];exact List.mem_append_left _ hu));have e4:cC v (ar a t)=true:=hall _ (by rw [List.map_append];exact List.mem_append_right _ (List.mem_singleton.2 rfl));rw [e3,e4] at e2;simpa using e2);have h3:=yJ hi hh (ts:=ts) (ds:=ds++[t]) hts' hds' h2.dQ ep;have s1:=h1.same;have s2:=h2.same;have s3:=h3.same;constructor;simp only [uM];rw [←s1,←s2];exact s3;exact h3.dQ
theorem Er {a:Int} {h t0:Tr} {ts:List Tr} {n:Nat} (hi:0≤a∧a<4) (hh:fD h) (hts:∀u∈ts,fD u) (hg:Good l σ) (hn:dx σ n t0) (he:∀v,cC v t0=true→cC v (cD ts h)=true):uW l (fun T=>m7 T a ts h n) σ:=by
 have hc:=fD.ch hts hh;have h1:=ej (g:=cD ts h) (from_:=[n]) hg hc (fun hb m hm=>by rw [List.mem_singleton.1 hm];exact (hn hb).1) (fun hb _ v hv=>by
  have:=hv n (List.mem_singleton.2 rfl);rw [(hn hb).2] at this;exact he v this);have h2:=ir (t:=ar a (cD ts h)) (r:=11) (a:=(aT ae (cD ts h) [n] σ).1) (b:=0) (g:=a) h1.dQ (fun _ _=>⟨hc.kw hi,G1 l (by omega),.inr (.inr (.inr ⟨rfl,rfl,hi,_,ep,rfl⟩))⟩);have h3:=yJ (ts:=ts) (ds:=[]) hi hh hts (fun u hu=>by cases hu) h2.dQ cz;have s1:=h1.same;have s2:=h2.same;have s3:=h3.same;constructor;simp only [m7];rw [←s1,←s2];exact s3;exact h3.dQ
structure Mf (l:Int) (P:(Tr→Prop)→Sg→List Nat×Sg) (σ:Sg):Prop where
  same:P ae σ=P bC σ
  dQ:Good l (P ae σ).2
theorem rZ {full:aE} {a:Int} (hi:0≤a∧a<4):∀{ns:List Nat} {σ:Sg},Good l σ→(∀n∈ns,fU b full a n=n→∃z,fD z∧((aa b n=ar a z∧cJ l 4=true)∨(aa b n=gp a z∧cJ l 5=true)))→Mf l (fun T=>eQ T b full a ns) σ
 |[],σ,hg,_=>⟨rfl,hg⟩
 |n::ns,σ,hg,h=>by
  have hns:=fun k hk=>h k (List.mem_cons_of_mem _ hk);by_cases e:fU b full a n=n;obtain ⟨z,hz,hf⟩:=h n (List.mem_cons_self ..) e;have h1:=Eu (i:=a) (f:=aa b n) (z:=z) hi hz hf hg;have h2:=rZ hi (ns:=ns) h1.dQ hns;have s1:=h1.same;have s2:=h2.same;constructor;simp only [eQ];rw [if_pos e,if_pos e,←s1,s2];simp only [eQ];rw [if_pos e];exact h2.dQ;have h2:=rZ hi (ns:=ns) hg hns;constructor;simp only [eQ];rw [if_neg e,if_neg e];exact h2.same;simp only [eQ];rw [if_neg e];exact h2.dQ
theorem ym {goal t0:Tr} {full:aE} {a:Int} {ns own:List Nat} {tg line:Nat} {isK:Bool} (hb:aX b) (hi:0≤a∧a<4) (hgl:fD goal) (hns:∀n∈ns,n<b.length) (htg:tg<b.length) (h6:isK=false→cJ l 6=true) (hg:Good l σ) (hn:dx σ line t0)
  (he:∀v,cC v t0=true→cC v (cD (ns.map (aa b)) (aF (aa b tg)))=true)
  (hc:∀n∈own,fU b full a n=n→∃z,fD z∧((aa b n=ar a z∧cJ l 4=true)∨(aa b n=gp a z∧cJ l 5=true)))
  (hlast:∀v,((∀n∈ns,cC v (ar a (aa b n))=true)→cC v (ar a (aF (aa b tg)))=true)→(∀n∈own,fU b full a n=n→cC v (aa b n)=true→cC v (ar a (aa b n))=true)→(if isK=true then cC v (gp a (aa b tg))=true→¬cC v (ar a (aF (aa b tg)))=true else cC v (ar a (aa b tg))=true→¬cC v (ar a (aF (aa b tg)))=true)→cC v goal=true):
  uW l (fun T=>wQ T b goal full a ns tg own isK line) σ:=by
 have ft:=hb.fr htg;have h1:=Er (ts:=ns.map (aa b)) (h:=aF (aa b tg)) hi ft.nt (fun u hu=>by
  obtain ⟨n,hn,rfl⟩:=List.mem_map.1 hu;exact hb.fr (hns n hn)) hg hn he;have k1:dx _ _ _:=v5 (T:=ae) (a:=a) (h:=aF (aa b tg)) (ts:=ns.map (aa b)) (n:=line) (σ:=σ);obtain ⟨σ1,e1⟩:∃s,s=m7 ae a (ns.map (aa b)) (aF (aa b tg)) line σ:=⟨_,rfl⟩;have g1:Good l σ1.2:=by rw [e1];exact h1.dQ
 rw [←e1] at k1;have h2:=rZ (b:=b) (full:=full) hi (ns:=own) g1 hc;obtain ⟨σ2,e2⟩:∃s,s=eQ ae b full a own σ1.2:=⟨_,rfl⟩;have g2:Good l σ2.2:=by rw [e2];exact h2.dQ
 have le2:σ1.2.Le σ2.2:=by rw [e2];exact lg
 obtain ⟨P3,hP3⟩:∃P3:(Tr→Prop)→Sg→Nat×Sg,P3=fun T s=>if isK=true then dT T a (aa b tg) s else bP T (aL (ar a (aa b tg)) (aF (ar a (aF (aa b tg))))) 6 0 0 0 s:=⟨_,rfl⟩;obtain ⟨t3,ht3⟩:∃t3,t3=if isK=true then nV (gp a (aa b tg)) (aF (ar a (aF (aa b tg)))) else aL (ar a (aa b tg)) (aF (ar a (aF (aa b tg)))):=⟨_,rfl⟩;have h3:uW l P3 σ2.2:=by
  rw [hP3];cases hk:isK with
  |true=>exact uc hi g2 ft
  |false=>exact ir g2 (fun _ _=>⟨(ft.kw hi).im (ft.nt.kw hi).nt,h6 hk,.inr (.inl ⟨by decide,by decide,rfl,rfl,rfl,⟨a,_,rfl⟩⟩)⟩)
 obtain ⟨σ3,e3⟩:∃s,s=P3 ae σ2.2:=⟨_,rfl⟩;have g3:Good l σ3.2:=by rw [e3];exact h3.dQ
 have le3:σ2.2.Le σ3.2:=by
  rw [e3,hP3];cases isK with
  |true=>exact jt
  |false=>exact dD
 have k3:dx σ3.2 σ3.1 t3:=by
  rw [e3,hP3,ht3];cases isK with
  |true=>exact cz
  |false=>exact cz
 have k1':=k1.le (le2.trans le3);have h4:=ej (g:=goal) (from_:=σ1.1::(σ2.1++[σ3.1])) g3 hgl (fun hbd n hn=>by
  simp only [List.mem_cons,List.mem_append,List.not_mem_nil,or_false] at hn;rcases hn with rfl|hn|rfl;exact (k1' hbd).1;rw [e2] at hn;obtain ⟨m,_,_,hm⟩:=pD n hn;rw [←e2] at hm;exact (hm.le le3 hbd).1;exact (k3 hbd).1) (fun hbd _ v hv=>by
  have q1:=hv _ (List.mem_cons_self ..);have q3:=hv σ3.1 (List.mem_cons_of_mem _ (List.mem_append_right _ (List.mem_singleton.2 rfl)));rw [(k1' hbd).2,xh] at q1;rw [(k3 hbd).2,ht3] at q3;refine hlast v (fun hall=>q1 (fun u hu=>?_)) (fun n hno hsn hvn=>?_) ?_;rw [List.map_map] at hu;obtain ⟨n,hn,rfl⟩:=List.mem_map.1 hu;exact hall n hn;obtain ⟨m,hm,hh⟩:=pE (T:=ae) (b:=b) (full:=full) (a:=a) (ns:=own) (σ:=σ1.2) hno hsn;rw [←e2] at hm hh;have q2:=hv m (List.mem_cons_of_mem _ (List.mem_append_left _ hm));rw [(hh.le le3 hbd).2,p8,hvn] at q2;simpa using q2;cases isK with
  |true=>
   rw [if_pos rfl] at q3⊢;rw [Ee,sD] at q3;intro hp hk;rw [hp,hk] at q3;cases q3
  |false=>
   rw [if_neg (by decide)] at q3⊢;rw [p8,sD] at q3;intro hp hk;rw [hp,hk] at q3;cases q3);have s1:=h1.same;have s2:=h2.same;have s3:=h3.same;have s4:=h4.same;rw [←e1] at s1;rw [←e2] at s2;rw [←e3] at s3;have hsp:∀T s,wQ T b goal full a ns tg own isK line s=aT T goal ((m7 T a (ns.map (aa b)) (aF (aa b tg)) line s).1::((eQ T b full a own (m7 T a (ns.map (aa b)) (aF (aa b tg)) line s).2).1++[(P3 T (eQ T b full a own (m7 T a (ns.map (aa b)) (aF (aa b tg)) line s).2).2).1])) (P3 T (eQ T b full a own (m7 T a (ns.map (aa b)) (aF (aa b tg)) line s).2).2).2:=fun T s=>by rw [hP3];rfl
 constructor;rw [hsp,hsp,←s1,←e1,←s2,←e2,←s3,←e3];exact s4;rw [hsp,←e1,←e2,←e3];exact h4.dQ
end
end Go.Proofs.Wit
