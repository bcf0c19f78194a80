/- Laws of walks, for any program, under the conditions that each theorem states. -/
import Derived.Test.YtnfmegcknckahaaGreatDoorXO23
import Derived.Test.YtnfmegcknckahaaGreatDoorXO13
import Derived.Test.YtnfmegcknckahaaGreatDoorXO15
import Derived.Test.YtnfmegcknckahaaGreatDoorXO02
import Derived.Test.YtnfmegcknckahaaGreatDoorXO25
import Derived.Test.YtnfmegcknckahaaGreatDoorXO01
namespace Go.Proofs.Wit
open Go
structure KM where
  n:Nat
  R:Nat→Nat→Nat→Prop
  V:Nat→Nat→Prop
  lt:∀k w u,w<n→R k w u→u<n
def KM.Gr (M:KM) (g:Nat) (w u:Nat):Prop:=∃k,k<4∧gb g k=1∧M.R k w u
inductive KM.Ho (M:KM) (g:Nat) (c:Nat→Bool):Nat→Nat→Prop
  |one {w u:Nat}:M.Gr g w u→c u=true→KM.Ho M g c w u
  |step {w u v:Nat}:KM.Ho M g c w u→M.Gr g u v→c v=true→KM.Ho M g c w v
section
variable {M:KM}
structure I4 (M:KM) (l:Int):Prop where
  t:cg l 3=true→∀k w,w<M.n→M.R k w w
  f:cg l 4=true→∀k w u v,w<M.n→M.R k w u→M.R k u v→M.R k w v
  v:cg l 5=true→∀k w u v,w<M.n→M.R k w u→M.R k w v→M.R k u v
  d:cg l 6=true→∀k w,w<M.n→∃u,M.R k w u
end
end Go.Proofs.Wit
namespace Go.Proofs.Wit
open Go Go.RowKit
section
variable {n:Nat} {val:List ax} {rel:List (List ax)}
structure IC (n:Nat) (val:List ax) (rel:List (List ax)) (f:List NV) (t:Tr):Prop where
  iY:aV f=0
  fit:FE f rel.length val.length=true
  IZ:kh (kM (aj f)) 1=0
  can:aj f=bS t
  top:aO f=t
  hold:Fw (n:Int) val rel f=0
  ok:t.ok
end
end Go.Proofs.Wit
namespace Go.Proofs.Wit
open Go Go.RowKit
end Go.Proofs.Wit
namespace Go.Proofs.Wit
open Go
structure I7 (n1:Nat) (v1:List ax) (r1:List (List ax)) (n:Nat) (v:List ax) (r:List (List ax)) (e:Nat→Nat):Prop where
  Ib:n≤64
  Ia:n1≤64
  lt:∀x,x<n1→e x<n
  val:∀i x,x<n1→((v.getD i 0#64).getLsbD (e x)=true↔(v1.getD i 0#64).getLsbD x=true)
  fwd:∀i x y,x<n1→Rl (r1.getD i []) x y→Rl (r.getD i []) (e x) (e y)
  bwd:∀i x z,x<n1→Rl (r.getD i []) (e x) z→∃y,y<n1∧z=e y∧Rl (r1.getD i []) x y
  IX:∀i x y,Rl (r1.getD i []) x y→y<n1
section
variable {n1 n:Nat} {v1 v:List ax} {r1 r:List (List ax)} {e:Nat→Nat}
end
end Go.Proofs.Wit
namespace Go.Proofs.Wit
open Go
section
variable {na nb:Nat} {va vb:List ax} {ra rb:List (List ax)}
structure I2 (na nb:Nat) (va vb:List ax) (ra rb:List (List ax)):Prop where
  a:FY (na:Int) va ra
  b:FY (nb:Int) vb rb
  rl:ra.length=rb.length
  vl:va.length=vb.length
  le:na+nb≤64
end
end Go.Proofs.Wit
namespace Go.Proofs.Wit
open Go Go.RowKit
section
variable {n:Nat} {val:List ax} {rel:List (List ax)}
theorem Bm {op:Int} (ho:1≤op∧op≤21):kh (xl op).toNat 11=0↔op≤11∨op=13:=
 yi (p:=fun op=>kh (xl op).toNat 11=0↔op≤11∨op=13) (by decide) ho
theorem mf {f:List NV}:fE f=0↔aV f=0∧jQ (fun op _ _=>op≤11∨op=13) (aO f):=by
 unfold fE
 by_cases h1:aV f=0
 ·rw [if_neg (by simp [h1]),dt h1,←Bk (aA.1 h1).top Bm]
  constructor
  ·intro h
   refine ⟨h1,Classical.byContradiction (fun h2=>?_)⟩
   rw [if_pos h2] at h;exact absurd h (by decide)
  intro h;rw [if_neg (by simp [h.2])]
 rw [if_pos h1];exact ⟨fun h=>absurd h h1,fun h=>absurd h.1 h1⟩
end
theorem gk {l:Int} {ls:List LV}:fB l ls=0↔(0≤l∧l≤6)∧0<ls.length∧ls.length≤400∧∀(k:Nat) (hk:k<ls.length),dJ l ls k ls[k]=0:=by
 have hs:∀{k:Nat},cU l ls k=0→∀hk:k<ls.length,cU l ls (k+1)=dJ l ls k ls[k]:=fun {k} h hk=>by
  show (if cU l ls k≠0 then cU l ls k else match ls[k]? with|some x=>dJ l ls k x|none=>0)=_
  rw [if_neg (by simp [h]),List.getElem?_eq_getElem hk]
 have hb:∀{k:Nat},cU l ls k≠0→cU l ls (k+1)=cU l ls k:=fun {k} h=>by
  show (if cU l ls k≠0 then cU l ls k else _)=_
  rw [if_pos h]
 have key:∀k,k≤ls.length→(cU l ls k=0↔∀(j:Nat) (hj:j<ls.length),j<k→dJ l ls j ls[j]=0):=by
  intro k
  induction k with
  |zero=>exact fun _=>⟨fun _ j _ h=>absurd h (Nat.not_lt_zero _),fun _=>rfl⟩
  |succ k ih=>
   intro hk
   have ih:=ih (by omega)
   constructor
   ·intro h
    have h0:cU l ls k=0:=Classical.byContradiction (fun hne=>hne (by rw [←hb hne];exact h))
    intro j hj hjk
    by_cases e:j=k
    ·subst e;rw [←hs h0 hj];exact h
    exact ih.1 h0 j hj (by omega)
   intro h
   have h0:=ih.2 (fun j hj hjk=>h j hj (by omega))
   rw [hs h0 (by omega)]
   exact h k (by omega) (by omega)
 unfold fB
 by_cases h1:¬(0≤l∧l≤6)
 ·rw [if_pos h1];exact ⟨fun h=>absurd h (by decide),fun h=>absurd h.1 h1⟩
 rw [if_neg h1]
 by_cases h2:ls.length=0
 ·rw [if_pos h2];exact ⟨fun h=>absurd h (by decide),fun h=>absurd h.2.1 (by omega)⟩
 rw [if_neg h2]
 by_cases h3:400<ls.length
 ·rw [if_pos h3];exact ⟨fun h=>absurd h (by decide),fun h=>absurd h.2.2.1 (by omega)⟩
 rw [if_neg h3,key _ (Nat.le_refl _)]
 exact ⟨fun h=>⟨Classical.not_not.1 h1,by omega,by omega,fun k hk=>h k hk hk⟩,fun h j hj _=>h.2.2.2 j hj⟩
theorem wI {l:Int} {ls:List LV} (h:fB l ls=0) (k:Nat) (hk:k<ls.length):fE ls[k].f.f=0:=by
 have h4:=(gk.1 h).2.2.2 k hk
 unfold dJ at h4
 by_cases h1:fE ls[k].f.f=0
 ·exact h1
 rw [if_pos h1] at h4;exact h4
end Go.Proofs.Wit
namespace Go.Proofs.Wit
open Go Go.RowKit
/-- what a line says -/
structure LD where
  f:List NV
  r:Int
  a:Int
  b:Int
  g:Int
def LV.d (x:LV):LD:=⟨x.f.f,x.r,x.a,x.b,x.g⟩
def LD.v (x:LD):LV:=⟨⟨none,0,x.f⟩,x.r,x.a,x.b,x.g⟩
section
variable {l:Int} {ls ls':List LV}
theorem Bv (h:ls.map LV.d=ls'.map LV.d):ls.length=ls'.length:=by have:=congrArg List.length h;simpa using this
theorem DR (h:ls.map LV.d=ls'.map LV.d) {k:Nat} (hk:k<ls.length) (hk':k<ls'.length):ls[k].d=ls'[k].d:=by
 have h1:(ls.map LV.d)[k]'(by simpa using hk)=(ls'.map LV.d)[k]'(by simpa using hk'):=by simp only [h]
 simpa using h1
theorem A4 (h:ls.map LV.d=ls'.map LV.d) (k:Int):rO ls k=rO ls' k:=by
 have e:ls.map (fun x=>aO x.f.f)=ls'.map (fun x=>aO x.f.f):=by
  have h1:∀l:List LV,l.map (fun x=>aO x.f.f)=(l.map LV.d).map (fun x=>aO x.f):=fun l=>by rw [List.map_map];rfl
  rw [h1,h1,h]
 unfold rO
 rw [e]
theorem zP (h:ls.map LV.d=ls'.map LV.d) {x y:LV} (e:x.d=y.d):jR ls x↔jR ls' y:=by
 obtain ⟨⟨xa,xc,xf⟩,xr,x1,x2,x3⟩:=x
 obtain ⟨⟨ya,yc,yf⟩,yr,y1,y2,y3⟩:=y
 simp only [LV.d,LD.mk.injEq] at e
 obtain ⟨rfl,rfl,rfl,rfl,rfl⟩:=e
 unfold jR
 simp only [A4 h]
theorem wK (h:ls.map LV.d=ls'.map LV.d) {i:Nat} {x y:LV} (e:x.d=y.d):dJ l ls i x=dJ l ls' i y:=by
 have h2:=zP h e
 have en:iM i x=iM i y:=by
  obtain ⟨⟨xa,xc,xf⟩,xr,x1,x2,x3⟩:=x
  obtain ⟨⟨ya,yc,yf⟩,yr,y1,y2,y3⟩:=y
  simp only [LV.d,LD.mk.injEq] at e
  obtain ⟨rfl,rfl,rfl,rfl,rfl⟩:=e
  rfl
 have ef:x.f.f=y.f.f:=congrArg LD.f e
 have er:x.r=y.r:=congrArg LD.r e
 unfold dJ
 rw [en,ef,er]
 by_cases k:jR ls x
 ·rw [if_pos k,if_pos (h2.1 k)]
 rw [if_neg k,if_neg (fun k'=>k (h2.2 k'))]
theorem uV (h:ls.map LV.d=ls'.map LV.d) (h0:fB l ls=0):fB l ls'=0:=by
 obtain ⟨h1,h2,h3,h4⟩:=gk.1 h0
 have hl:=Bv h
 exact gk.2 ⟨h1,by omega,by omega,fun k hk=>by
  have:=h4 k (by omega)
  rw [←wK h (DR h (by omega) hk)];exact this⟩
end
theorem l9 {l:Int} {ls:List LV} {i:Nat} {x:LV}:dJ l ls i x=0↔fE x.f.f=0∧(1≤x.r∧x.r≤12)∧iM i x=0∧cg l x.r=true∧jR ls x:=by
 constructor
 ·intro h
  unfold dJ at h
  by_cases h1:fE x.f.f=0
  rotate_left
  ·rw [if_pos h1] at h;exact absurd h h1
  rw [if_neg (by simp [h1])] at h
  by_cases h2:x.r<1∨12<x.r
  ·rw [if_pos h2] at h;exact absurd h (by decide)
  rw [if_neg h2] at h
  by_cases h3:iM i x=0
  rotate_left
  ·rw [if_pos h3] at h;exact absurd h h3
  rw [if_neg (by simp [h3])] at h
  by_cases h4:cg l x.r=false
  ·rw [if_pos h4] at h;exact absurd h (by decide)
  rw [if_neg h4] at h
  by_cases h5:jR ls x
  rotate_left
  ·rw [if_neg h5] at h;exact absurd h (by decide)
  exact ⟨h1,by omega,h3,by simpa using h4,h5⟩
 rintro ⟨h1,h2,h3,h4,h5⟩
 exact yE h1 h2 h3 h4 h5
theorem qA {i:Int} {x:LV} (h1:1≤x.r) (h12:x.r≤12):iM i x=0↔¬pD x∧¬pC i x∧0≤x.g∧x.g<4:=by
 constructor
 ·intro h
  have k1:¬pD x:=fun k=>by rw [yj h1 h12 (.inl k)] at h;exact absurd h (by decide)
  have k2:¬pC i x:=fun k=>by rw [yj h1 h12 (.inr k)] at h;exact absurd h (by decide)
  rw [yk h1 h12 k1 k2] at h
  refine ⟨k1,k2,?_⟩
  by_cases h3:x.g<0∨x.g≥4
  ·rw [if_pos h3] at h;exact absurd h (by decide)
  omega
 rintro ⟨k1,k2,k3⟩
 rw [yk h1 h12 k1 k2,if_neg (by omega)]
inductive ED (ls:List LV):Nat→Prop
  |last {k:Nat}:k+1=ls.length→ED ls k
  |a {k:Nat} (hk:k<ls.length):ED ls k→10≤ls[k].r→ED ls ls[k].a.toNat
  |b {k:Nat} (hk:k<ls.length):ED ls k→ls[k].r=10→ED ls ls[k].b.toNat
def bJ (p:Nat→Bool) (k:Nat):Nat:=((List.range k).filter p).length
theorem gY {p:Nat→Bool} {k:Nat}:bJ p (k+1)=bJ p k+(if p k=true then 1 else 0):=by
 unfold bJ
 rw [List.range_succ,List.filter_append,List.length_append]
 cases h:p k<;>simp [h]
theorem sd {p:Nat→Bool}:∀{k:Nat},bJ p k≤k
 |0=>Nat.le_refl _
 |k+1=>by have:=sd (p:=p) (k:=k);rw [gY];split<;>omega
theorem wZ {p:Nat→Bool} {j k:Nat} (h:j≤k):bJ p j≤bJ p k:=by
 induction h with
 |refl=>exact Nat.le_refl _
 |step _ ih=>rw [gY];omega
theorem BB {p:Nat→Bool} {j k:Nat} (h:j<k) (hp:p j=true):bJ p j<bJ p k:=by
 have:=wZ (p:=p) (show j+1≤k from h)
 rw [gY,if_pos hp] at this;omega
theorem DU {p:Nat→Bool} {n q:Nat} (h:q<bJ p n):∃j,j<n∧p j=true∧bJ p j=q:=by
 induction n with
 |zero=>exact absurd h (Nat.not_lt_zero _)
 |succ n ih=>
  rw [gY] at h
  by_cases h1:q<bJ p n
  ·obtain ⟨j,h2,h3⟩:=ih h1;exact ⟨j,by omega,h3⟩
  by_cases h2:p n=true
  ·rw [if_pos h2] at h;exact ⟨n,by omega,h2,by omega⟩
  rw [if_neg h2] at h;omega
section
variable {l:Int} {ls:List LV}
end
end Go.Proofs.Wit
namespace Go.Proofs.Wit
open Go Go.RowKit
theorem kF {t:Tr}:Fit t↔bT t≠[]:=by unfold Fit;exact Ck.symm
open Classical in
noncomputable def eR (t:Tr):Tr:=if Fit (aE t) then (aN t).2 else aE t
theorem nL {t:Tr} (h:t.ok):(eR t).ok:=by
 unfold eR;split
 ·exact (k0 h).2
 exact bA h
structure TL where
  t:Tr
  r:Int
  a:Nat
  b:Nat
  g:Int
def TL.v (x:TL):LV:=⟨⟨none,0,bT x.t⟩,x.r,x.a,x.b,x.g⟩
structure Sg where
  ls:List TL
  bad:Bool
def fM (σ:Sg) (n:Nat):Tr:=(σ.ls.map TL.t).getD n (.leaf 0 0 0 0)
def ct (ts:List Tr) (g:Tr):Tr:=ts.foldr aR g
theorem lu:∀{ts:List Tr} {g:Tr},(∀u∈ts,u.ok)→g.ok→(ct ts g).ok
 |[],_,_,h=>h
 |t::ts,_,h,hg=>dB (h t (List.mem_cons_self ..)) (lu (ts:=ts) (fun u hu=>h u (List.mem_cons_of_mem _ hu)) hg)
section
variable (T:Tr→Prop)
open Classical in
noncomputable def bQ (t:Tr) (r:Int) (a b:Nat) (g:Int) (σ:Sg):Nat×Sg:=
 if σ.bad=true∨¬Fit t∨400≤σ.ls.length∨(r=1∧¬T t) then (0,⟨σ.ls,true⟩) else (σ.ls.length,⟨σ.ls++[⟨t,r,a,b,g⟩],false⟩)
noncomputable def lg (g:Tr):List (Nat×Tr)→Nat→Sg→Nat×Sg
 |[],n,σ=>(n,σ)
 |p::ps,n,σ=>lg g ps (bQ T (ct (ps.map (·.2)) g) 10 p.1 n 0 σ).1 (bQ T (ct (ps.map (·.2)) g) 10 p.1 n 0 σ).2
noncomputable def aX (g:Tr) (from_:List Nat) (σ:Sg):Nat×Sg:=
 if σ.bad=true then (0,σ) else
  lg T g (from_.map (fun n=>(n,fM σ n))) (bQ T (ct (from_.map (fM σ)) g) 1 0 0 0 σ).1 (bQ T (ct (from_.map (fM σ)) g) 1 0 0 0 σ).2
noncomputable def kW (i:Int) (p q:Tr) (σ:Sg):Nat×Sg:=bQ T (aR (ar i (aR p q)) (aR (ar i p) (ar i q))) 2 0 0 0 σ
noncomputable def gH (i:Int) (p q:Tr) (line:Nat) (σ:Sg):Nat×Sg:=
 let n:=bQ T (ar i (aR p q)) 11 line 0 i σ
 let k:=kW T i p q n.2
 bQ T (aR (ar i p) (ar i q)) 10 n.1 k.1 0 k.2
noncomputable def dS (i:Int) (v:Tr) (σ:Sg):Nat×Sg:=bQ T (nF (gi i v) (aE (ar i (aE v)))) 7 0 0 0 σ
noncomputable def jt (ei:Bool) (t:Tr):Tr:=if ei=true then .bin 6 0 0 0 t (eR t) else aE (ju t (eR t))
noncomputable def uT (op:Int) (a:Tr):Tr:=if op=9 then a else eR a
noncomputable def vT (op:Int) (a:Tr):Tr:=if op=9 then eR a else a
noncomputable def oH (ei:Bool) (op:Int) (a:Tr):Tr:=if ei=true then aE (vT op a) else uT op a
noncomputable def oG (ei:Bool) (op:Int) (a:Tr):Tr:=if ei=true then uT op a else aE (vT op a)
noncomputable def pJ (ei:Bool) (op i:Int) (a t:Tr) (x:Nat) (σ:Sg):Nat×Sg:=
 let l:=aX T (aR (oH ei op a) (oG ei op a)) [x] σ
 let d:=gH T i (oH ei op a) (oG ei op a) l.1 l.2
 let s:=dS T i (vT op a) d.2
 aX T (jt ei t) [d.1,s.1] s.2
noncomputable def aF (ei:Bool):Tr→Sg→Nat×Sg
 |.leaf op i e g,σ=>aX T (jt ei (.leaf op i e g)) [] σ
 |.un op i e g a,σ=>if op=9∨op=10 then pJ T ei op i a (.un op i e g a) (aF ei a σ).1 (aF ei a σ).2 else aX T (jt ei (.un op i e g a)) [] σ
 |.bin op i e g a b,σ=>aX T (jt ei (.bin op i e g a b)) [(aF ei a σ).1,(aF ei b (aF ei a σ).2).1] (aF ei b (aF ei a σ).2).2
noncomputable def kN (i:Int) (f:Tr) (σ:Sg):Nat×Sg:=
 match f with
 |.un 10 _ _ _ z=>
  let nz:=aE (ar i (aE z))
  let s:=dS T i z σ
  let f5:=bQ T (aR nz (ar i nz)) 5 0 0 0 s.2
  let bk:=aX T (aR nz f) [s.1] f5.2
  let kn:=gH T i nz f bk.1 bk.2
  aX T (aR f (ar i f)) [s.1,f5.1,kn.1] kn.2
 |_=>bQ T (aR f (ar i f)) 4 0 0 0 σ
end
structure Sg.Le (σ σ':Sg):Prop where
  pre:σ.ls<+:σ'.ls
  ok:σ'.bad=false→σ.bad=false
theorem Sg.Le.refl (σ:Sg):σ.Le σ:=⟨List.prefix_refl _,id⟩
theorem Sg.Le.trans {σ σ' σ'':Sg} (h:σ.Le σ') (g:σ'.Le σ''):σ.Le σ'':=⟨h.pre.trans g.pre,fun e=>h.ok (g.ok e)⟩
def di (σ:Sg) (n:Nat) (t:Tr):Prop:=σ.bad=false→n<σ.ls.length∧fM σ n=t
theorem Ai {σ σ':Sg} (h:σ.Le σ') {n:Nat} (hn:n<σ.ls.length):fM σ' n=fM σ n:=by
 obtain ⟨u,hu⟩:=h.pre
 unfold fM
 rw [←hu,List.map_append]
 simp [List.getD_eq_getElem?_getD,List.getElem?_append_left (show n<(σ.ls.map TL.t).length by simpa using hn)]
theorem di.le {σ σ':Sg} {n:Nat} {t:Tr} (h:di σ n t) (g:σ.Le σ'):di σ' n t:=fun e=>by
 obtain ⟨h1,h2⟩:=h (g.ok e)
 exact ⟨Nat.lt_of_lt_of_le h1 g.pre.length_le,by rw [Ai g h1];exact h2⟩
section
variable {T:Tr→Prop} {t g:Tr} {r i:Int} {a b n:Nat} {σ:Sg}
theorem jq (h:σ.bad=true) {gg:Int}:bQ T t r a b gg σ=(0,σ):=by
 rw [bQ,if_pos (.inl h),←h]
theorem da {gg:Int}:σ.Le (bQ T t r a b gg σ).2:=by
 unfold bQ;split
 ·exact ⟨List.prefix_refl _,fun e=>by cases e⟩
 rename_i h
 exact ⟨List.prefix_append _ _,fun _=>by
  cases hb:σ.bad with
  |false=>rfl
  |true=>exact absurd (.inl hb) h⟩
theorem bM {gg:Int}:di (bQ T t r a b gg σ).2 (bQ T t r a b gg σ).1 t:=by
 unfold bQ;split
 ·intro e;cases e
 intro _;exact ⟨by simp,by simp [fM,List.getD_eq_getElem?_getD]⟩
theorem AZ {ps:List (Nat×Tr)}:∀{n:Nat} {σ:Sg},σ.Le (lg T g ps n σ).2:=by
 induction ps with
 |nil=>intro n σ;exact Sg.Le.refl _
 |cons p ps ih=>intro n σ;exact da.trans ih
theorem cX {from_:List Nat}:σ.Le (aX T g from_ σ).2:=by
 unfold aX;split
 ·exact Sg.Le.refl _
 exact da.trans AZ
theorem yu {ps:List (Nat×Tr)}:∀{n:Nat} {σ:Sg},di σ n (ct (ps.map (·.2)) g)→di (lg T g ps n σ).2 (lg T g ps n σ).1 g:=by
 induction ps with
 |nil=>intro n σ h;exact h
 |cons p ps ih=>intro n σ _;exact ih bM
theorem eB {from_:List Nat}:di (aX T g from_ σ).2 (aX T g from_ σ).1 g:=by
 unfold aX;split
 ·rename_i h;intro e;rw [h] at e;cases e
 refine yu ?_
 rw [List.map_map]
 exact bM
theorem gy {from_:List Nat} (h:σ.bad=true):aX T g from_ σ=(0,σ):=by rw [aX,if_pos h]
theorem tv {p q:Tr}:σ.Le (kW T i p q σ).2:=da
theorem m7 {p q:Tr} {l:Nat}:σ.Le (gH T i p q l σ).2:=da.trans (da.trans da)
theorem lq {p q:Tr} {l:Nat}:di (gH T i p q l σ).2 (gH T i p q l σ).1 (aR (ar i p) (ar i q)):=bM
theorem za {p q:Tr} {l:Nat} (h:σ.bad=true):gH T i p q l σ=(0,σ):=by simp only [gH,kW];rw [jq h];dsimp only;rw [jq h];dsimp only;rw [jq h]
theorem jC {v:Tr}:σ.Le (dS T i v σ).2:=da
theorem A1 {ei:Bool} {op:Int} {a t:Tr} {x:Nat}:σ.Le (pJ T ei op i a t x σ).2:=cX.trans (m7.trans (jC.trans cX))
theorem yw {ei:Bool} {op:Int} {a t:Tr} {x:Nat} (h:σ.bad=true):pJ T ei op i a t x σ=(0,σ):=by
 simp only [pJ]
 rw [gy h];dsimp only
 rw [za h];dsimp only
 rw [dS,jq h];dsimp only
 rw [gy h]
theorem yv {ei:Bool} {op:Int} {a t:Tr} {x:Nat}:di (pJ T ei op i a t x σ).2 (pJ T ei op i a t x σ).1 (jt ei t):=eB
theorem ll {ei:Bool}:∀{t:Tr} {σ:Sg},σ.bad=true→aF T ei t σ=(0,σ)
 |.leaf op i e g,σ,h=>by rw [aF,gy h]
 |.un op i e g a,σ,h=>by
  rw [aF];split
  ·rw [ll (t:=a) h,yw h]
  rw [gy h]
 |.bin op i e g a b,σ,h=>by rw [aF,ll (t:=a) h];dsimp only;rw [ll (t:=b) h];dsimp only;rw [gy h]
theorem ig {ei:Bool}:∀{t:Tr} {σ:Sg},σ.Le (aF T ei t σ).2
 |.leaf op i e g,σ=>by rw [aF];exact cX
 |.un op i e g a,σ=>by
  rw [aF];split
  ·exact (ig (t:=a)).trans A1
  exact cX
 |.bin op i e g a b,σ=>by rw [aF];exact (ig (t:=a)).trans ((ig (t:=b)).trans cX)
theorem dU {ei:Bool}:∀{t:Tr} {σ:Sg},di (aF T ei t σ).2 (aF T ei t σ).1 (jt ei t)
 |.leaf op i e g,σ=>by rw [aF];exact eB
 |.un op i e g a,σ=>by
  rw [aF];split
  ·exact yv
  exact eB
 |.bin op i e g a b,σ=>by rw [aF];exact eB
theorem sf {f:Tr}:σ.Le (kN T i f σ).2:=by
 unfold kN;split
 ·exact jC.trans (da.trans (cX.trans (m7.trans cX)))
 exact da
theorem qd {f:Tr}:di (kN T i f σ).2 (kN T i f σ).1 (aR f (ar i f)):=by
 unfold kN;split
 ·exact eB
 exact bM
end
end Go.Proofs.Wit
namespace Go.Proofs.Wit
open Go Go.RowKit
/-- no more than ten atoms -/
def af (t:Tr):Prop:=∃l:List Tr,l.Nodup∧(∀u,u∈l↔u∈kH t)∧l.length≤10
def eV (t:Tr):Prop:=t.ok∧jQ (fun op _ _=>op≤11∨op=13) t
theorem eV.im {a b:Tr} (h:eV a) (g:eV b):eV (aR a b):=⟨dB h.1 g.1,.inl (by decide),h.2,g.2⟩
theorem eV.ad {a b:Tr} (h:eV a) (g:eV b):eV (ju a b):=⟨fU h.1 g.1,.inl (by decide),h.2,g.2⟩
theorem eV.or {a b:Tr} (h:eV a) (g:eV b):eV (.bin 6 0 0 0 a b):=⟨jD h.1 g.1,.inl (by decide),h.2,g.2⟩
theorem eV.if {a b:Tr} (h:eV a) (g:eV b):eV (nF a b):=⟨tC h.1 g.1,.inl (by decide),h.2,g.2⟩
theorem eV.nt {a:Tr} (h:eV a):eV (aE a):=⟨bA h.1,.inl (by decide),h.2⟩
theorem eV.kw {a:Tr} {i:Int} (hi:0≤i∧i<4) (h:eV a):eV (ar i a):=⟨bt hi h.1,.inl (by decide),h.2⟩
theorem eV.po {a:Tr} {i:Int} (hi:0≤i∧i<4) (h:eV a):eV (gi i a):=⟨gX (.inr rfl) hi h.1,.inl (by decide),h.2⟩
theorem eV.ch:∀{ts:List Tr} {g:Tr},(∀u∈ts,eV u)→eV g→eV (ct ts g)
 |[],_,_,h=>h
 |t::ts,_,h,hg=>(h t (List.mem_cons_self ..)).im (eV.ch (ts:=ts) (fun u hu=>h u (List.mem_cons_of_mem _ hu)) hg)
def mr:Tr→Prop
 |.leaf op _ _ _=>op≤3
 |.un op _ _ _ a=>(op=4∧∃i e g,a=.leaf 3 i e g)∨((op=9∨op=10)∧mr a)
 |.bin op _ _ _ a b=>(op=5∨op=6)∧mr a∧mr b
theorem mr.yO:∀{t:Tr},mr t→jQ (fun op _ _=>op≤11∨op=13) t
 |.leaf op _ _ _,h=>.inl (by have:op≤3:=h;omega)
 |.un op _ _ _ a,h=>by
  rcases h with ⟨h1,i,e,g,rfl⟩|⟨h1,h2⟩
  ·exact ⟨.inl (by omega),.inl (by decide)⟩
  exact ⟨.inl (by omega),h2.yO⟩
 |.bin op _ _ _ a b,h=>⟨.inl (by have:=h.1;omega),h.2.1.yO,h.2.2.yO⟩
theorem vv:∀{t:Tr},mr t→t.ok→eV (aN t).2
 |.leaf op i e g,h,hok=>by
  have ho:op≤3:=h
  rw [aN];dsimp only
  split
  ·exact ⟨⟨by decide,rfl,by decide⟩,.inl (by decide)⟩
  split
  ·exact ⟨⟨by decide,rfl,by decide⟩,.inl (by decide)⟩
  exact eV.nt ⟨hok,.inl (by omega)⟩
 |.un op i e g a,h,hok=>by
  rcases h with ⟨rfl,j,e',g',rfl⟩|⟨h1,h2⟩
  ·rw [aN,if_pos rfl]
   exact ⟨(k0 hok.2.2.2.2).1,.inl (by decide)⟩
  have hf:=vv h2 hok.2.2.2.2
  have hi:=(mQ hok h1).1
  rcases h1 with rfl|rfl
  ·rw [aN,if_neg (by decide),if_pos rfl];exact hf.po hi
  rw [aN,if_neg (by decide),if_neg (by decide),if_pos rfl];exact hf.kw hi
 |.bin op i e g a b,h,hok=>by
  have ha:=vv h.2.1 hok.2.2.2.1
  have hb:=vv h.2.2 hok.2.2.2.2
  rcases h.1 with rfl|rfl
  ·rw [aN,if_pos rfl];exact ha.or hb
  rw [aN,if_neg (by decide),if_pos rfl];exact ha.ad hb
theorem mr.fr {t:Tr} (h:mr t) (hok:t.ok):eV t:=⟨hok,h.yO⟩
theorem mr.op {t:Tr} (h:mr t) (hok:t.ok):eV (eR t):=by
 unfold eR;split
 ·exact vv h hok
 exact (h.fr hok).nt
theorem oK {r:Tr→Bool} {a b:Tr}:bV r (aR a b)=(!bV r a||bV r b):=rfl
theorem GU {r:Tr→Bool} {a b:Tr}:bV r (ju a b)=(bV r a && bV r b):=rfl
theorem FF {r:Tr→Bool} {a b:Tr} {i e g:Int}:bV r (.bin 6 i e g a b)=(bV r a||bV r b):=rfl
theorem Br {r:Tr→Bool} {a b:Tr}:bV r (nF a b)=(bV r a==bV r b):=rfl
theorem qC {r:Tr→Bool} {a:Tr}:bV r (aE a)=!bV r a:=rfl
theorem uO {r:Tr→Bool}:∀{ts:List Tr} {g:Tr},bV r (ct ts g)=true↔((∀u∈ts,bV r u=true)→bV r g=true)
 |[],g=>by simp [ct]
 |t::ts,g=>by
  show bV r (aR t (ct ts g))=true↔_
  rw [oK,Bool.or_eq_true,uO]
  cases ht:bV r t with
  |false=>simp [ht]
  |true=>simp [ht]
def HD (l:Int) (σ:Sg) (t:Tr) (r:Int) (a b:Nat) (g:Int):Prop:=
 eV t∧cg l r=true∧((r=1∧a=0∧b=0∧g=0∧∀v,bV v t=true)∨(2≤r∧r<10∧a=0∧b=0∧g=0∧oD r t)∨(r=10∧g=0∧∃A,di σ a A∧di σ b (aR A t))∨(r=11∧b=0∧(0≤g∧g<4)∧∃A,di σ a A∧t=ar g A))
structure Good (l:Int) (σ:Sg):Prop where
  len:σ.ls.length≤400
  tok:∀(k:Nat) (hk:k<σ.ls.length),σ.ls[k].t.ok
  ok:∀(k:Nat) (hk:k<(σ.ls.map TL.v).length),dJ l (σ.ls.map TL.v) k (σ.ls.map TL.v)[k]=0
structure su (l:Int) (P:(Tr→Prop)→Sg→Nat×Sg) (σ:Sg):Prop where
  same:P af σ=P lD σ
  dF:Good l (P af σ).2
theorem wJ {l:Int} {ls:List LV} {i:Nat} {x:LV} (us:List LV) (hi:i≤ls.length) (h:dJ l ls i x=0):dJ l (ls++us) i x=0:=by
 rw [l9] at h⊢
 obtain ⟨h1,h2,h3,h4,h5⟩:=h
 refine ⟨h1,h2,h3,h4,?_⟩
 have hp:=kY h2.1 h2.2
 obtain ⟨n1,n2,_⟩:=qQ h3
 have hget:∀k:Int,0≤k→k<i→rO (ls++us) k=rO ls k:=fun k h0 hk=>by
  unfold rO
  rw [List.map_append]
  simp only [List.getD_eq_getElem?_getD]
  rw [List.getElem?_append_left (by rw [List.length_map];omega)]
 unfold jR at h5⊢
 split at h5
 ·rename_i e
  rw [if_pos e]
  have ha:=jH n1 (by omega)
  have hb:=jH n2 (by omega)
  rw [hget _ hb.1 hb.2,hget _ ha.1 ha.2];exact h5
 rename_i e
 rw [if_neg e]
 split at h5
 ·rename_i e1
  rw [if_pos e1,hget _ (jH n1 (by omega)).1 (jH n1 (by omega)).2];exact h5
 rename_i e1
 rw [if_neg e1]
 split at h5
 ·rename_i e2
  rw [if_pos e2,hget _ (jH n1 (by omega)).1 (jH n1 (by omega)).2];exact h5
 rename_i e2
 rw [if_neg e2];exact h5
theorem oS {t:Tr} (h:t.ok) (hf:Fit t):aO (bT t)=t:=(Cf.wz h (kF.1 hf)).top
theorem yU {t:Tr} (h:eV t) (hf:Fit t):fE (bT t)=0:=mf.2 ⟨(Cf.wz h.1 (kF.1 hf)).iY,by rw [oS h.1 hf];exact h.2⟩
section
variable {l:Int} {σ:Sg}
theorem Good.line (h:Good l σ) {k:Nat} (hk:k<σ.ls.length):eV σ.ls[k].t∧Fit σ.ls[k].t:=by
 have h1:=h.ok k (by simpa using hk)
 have h2:fE (bT σ.ls[k].t)=0:=by
  have:=(l9.1 h1).1
  simpa [TL.v] using this
 have hc:=mf.1 h2
 have hne:bT σ.ls[k].t≠[]:=fun e=>by rw [e] at h2;exact absurd h2 (by decide)
 have hfit:=kF.2 hne
 refine ⟨?_,hfit⟩
 have htop:aO (bT σ.ls[k].t)=σ.ls[k].t:=oS (h.tok k hk) hfit
 exact ⟨h.tok k hk,by rw [←htop];exact hc.2⟩
theorem vd {k:Nat} (hk:k<σ.ls.length):fM σ k=σ.ls[k].t:=by simp [fM,List.getD_eq_getElem?_getD,hk]
theorem Good.has (h:Good l σ) (hb:σ.bad=false) {n:Nat} {t:Tr} (ht:di σ n t):eV t∧Fit t:=by
 obtain ⟨h1,h2⟩:=ht hb
 rw [←h2,vd h1];exact h.line h1
theorem uB (h:Good l σ) {k:Nat} (hk:k<σ.ls.length) {us:List LV}:rO (σ.ls.map TL.v++us) (k:Int)=fM σ k:=by
 rw [mT (k:=k) (by simp;omega) rfl,List.getElem_append_left (by simpa using hk),vd hk]
 simp only [List.getElem_map,TL.v]
 exact oS (h.line hk).1.1 (h.line hk).2
theorem Bn {ls:List LV} {x:LV} {t:Tr} (ht:aO x.f.f=t) (h:(x.r=10∧rO ls x.b=aR (rO ls x.a) t)∨(x.r=11∧t=ar x.g (rO ls x.a))∨(x.r<10∧oD x.r t)):jR ls x:=by
 subst ht
 unfold jR
 rcases h with ⟨h1,h2⟩|⟨h1,h2⟩|⟨h1,h2⟩
 ·rw [if_pos h1];exact h2
 ·rw [if_neg (by omega),if_pos h1];exact h2
 rw [if_neg (by omega),if_neg (by omega),if_neg (by omega)];exact h2
theorem gA {t:Tr} {r g:Int} {a b:Nat} (h:Good l σ) (ha:σ.bad=false→Fit t→HD l σ t r a b g):su l (fun T=>bQ T t r a b g) σ:=by
 have hsame:bQ af t r a b g σ=bQ lD t r a b g σ:=by
  cases hb:σ.bad with
  |true=>rw [jq hb,jq hb]
  |false=>
   by_cases hf:Fit t
   ·obtain ⟨_,_,hc⟩:=ha hb hf
    by_cases hr:r=1
    ·have:af t=lD t:=by
      rcases hc with ⟨h1,_,_,_,h2⟩|⟨h1,_⟩|⟨h1,_⟩|⟨h1,_⟩
      ·exact propext ⟨fun h=>⟨h,h2⟩,fun h=>h.1⟩
      all_goals omega
     unfold bQ;rw [this]
    have e:∀T:Tr→Prop,(σ.bad=true∨¬Fit t∨400≤σ.ls.length∨(r=1∧¬T t))↔(400≤σ.ls.length):=fun T=>
     ⟨fun h=>by
      rcases h with h|h|h|h
      ·rw [hb] at h;cases h
      ·exact absurd hf h
      ·exact h
      exact absurd h.1 hr,fun h=>.inr (.inr (.inl h))⟩
    unfold bQ
    by_cases h4:400≤σ.ls.length
    ·rw [if_pos ((e _).2 h4),if_pos ((e _).2 h4)]
    rw [if_neg (fun h=>h4 ((e _).1 h)),if_neg (fun h=>h4 ((e _).1 h))]
   unfold bQ;rw [if_pos (.inr (.inl hf)),if_pos (.inr (.inl hf))]
 refine ⟨hsame,?_⟩
 unfold bQ
 split
 ·exact ⟨h.len,h.tok,h.ok⟩
 rename_i hn
 have hb:σ.bad=false:=by
  cases e:σ.bad with
  |false=>rfl
  |true=>exact absurd (.inl e) hn
 have hf:Fit t:=Classical.byContradiction fun e=>hn (.inr (.inl e))
 have hlen:σ.ls.length<400:=by
  have:¬400≤σ.ls.length:=fun e=>hn (.inr (.inr (.inl e)))
  omega
 have hT:r=1→af t:=fun e=>Classical.byContradiction fun e'=>hn (.inr (.inr (.inr ⟨e,e'⟩)))
 obtain ⟨hfr,hl,hc⟩:=ha hb hf
 refine ⟨by simp;omega,fun k hk=>?_,fun k hk=>?_⟩
 ·by_cases hkl:k<σ.ls.length
  ·rw [List.getElem_append_left hkl];exact h.tok k hkl
  ·rw [List.getElem_append_right (by omega)]
   simp only [List.length_append,List.length_cons,List.length_nil] at hk
   have:k - σ.ls.length=0:=by omega
   simp only [this,List.getElem_cons_zero];exact hfr.1
 simp only [List.map_append,List.map_cons,List.map_nil] at hk⊢
 simp only [List.length_append,List.length_map,List.length_cons,List.length_nil] at hk
 by_cases hkl:k<σ.ls.length
 ·rw [List.getElem_append_left (by simpa using hkl)]
  exact wJ _ (by simp;omega) (h.ok k (by simpa using hkl))
 have hke:k=σ.ls.length:=by omega
 subst hke
 rw [List.getElem_append_right (by simp)]
 simp only [List.length_map,Nat.sub_self,List.getElem_cons_zero]
 have htop:aO (TL.v ⟨t,r,a,b,g⟩).f.f=t:=oS hfr.1 hf
 rw [l9]
 refine ⟨yU hfr hf,?_,?_,hl,?_⟩
 ·show 1≤r∧r≤12
  rcases hc with ⟨h1,_⟩|⟨h1,h2,_⟩|⟨h1,_⟩|⟨h1,_⟩<;>omega
 ·rw [qA (by show 1≤r;rcases hc with ⟨h1,_⟩|⟨h1,h2,_⟩|⟨h1,_⟩|⟨h1,_⟩<;>omega) (by show r≤12;rcases hc with ⟨h1,_⟩|⟨h1,h2,_⟩|⟨h1,_⟩|⟨h1,_⟩<;>omega)]
  unfold pD pC
  simp only [TL.v]
  rcases hc with ⟨h1,h2,h3,h4,_⟩|⟨h1,h2,h3,h4,h5,_⟩|⟨h1,h2,A,hA,hB⟩|⟨h1,h2,h3,A,hA,_⟩
  ·subst h2 h3 h4 h1;omega
  ·subst h3 h4 h5;omega
  ·have:=(hA hb).1;have:=(hB hb).1;omega
  have:=(hA hb).1;omega
 refine Bn htop ?_
 rcases hc with ⟨h1,h2,h3,h4,h5⟩|⟨h1,h2,h3,h4,h5,h6⟩|⟨h1,h2,A,hA,hB⟩|⟨h1,h2,h3,A,hA,h4⟩
 ·refine .inr (.inr ⟨show r<10 by omega,?_⟩)
  show oD r t
  rw [h1];exact ⟨hT h1,h5⟩
 ·exact .inr (.inr ⟨h2,h6⟩)
 ·refine .inl ⟨h1,?_⟩
  show rO _ (b:Int)=aR (rO _ (a:Int)) t
  rw [uB h (hA hb).1,uB h (hB hb).1,(hA hb).2,(hB hb).2]
 refine .inr (.inl ⟨h1,?_⟩)
 show t=ar g (rO _ (a:Int))
 rw [uB h (hA hb).1,(hA hb).2];exact h4
theorem vz {g:Tr} (hg:eV g):∀{ps:List (Nat×Tr)} {n:Nat} {σ:Sg},Good l σ→cg l 10=true→(∀p∈ps,di σ p.1 p.2)→di σ n (ct (ps.map (·.2)) g)→su l (fun T=>lg T g ps n) σ
 |[],n,σ,h,_,_,_=>⟨rfl,h⟩
 |p::ps,n,σ,h,h10,hps,hn=>by
  have hadm:σ.bad=false→Fit (ct (ps.map (·.2)) g)→HD l σ (ct (ps.map (·.2)) g) 10 p.1 n 0:=fun hb _=>
   ⟨eV.ch (fun u hu=>by
    obtain ⟨q,hq,rfl⟩:=List.mem_map.1 hu
    exact (h.has hb (hps q (List.mem_cons_of_mem _ hq))).1) hg,h10,.inr (.inr (.inl ⟨rfl,rfl,p.2,hps p (List.mem_cons_self ..),hn⟩))⟩
  have h1:=gA h hadm
  have h2:=vz hg (ps:=ps) (n:=(bQ af (ct (ps.map (·.2)) g) 10 p.1 n 0 σ).1) h1.dF h10 (fun q hq=>(hps q (List.mem_cons_of_mem _ hq)).le da) bM
  refine ⟨?_,h2.dF⟩
  show lg af g ps _ _=lg lD g ps _ _
  have e:=h1.same
  rw [←e]
  exact h2.same
theorem DI (l:Int) {r:Int} (h:r=1∨r=2∨r=7∨r=10∨r=11):cg l r=true:=by
 unfold cg;rw [if_neg (by omega),if_neg (by omega),if_neg (by omega),if_neg (by omega)]
theorem dW {g:Tr} {from_:List Nat} (h:Good l σ) (hg:eV g) (hf:σ.bad=false→∀n∈from_,n<σ.ls.length) (ht:σ.bad=false→Fit g→∀v,(∀n∈from_,bV v (fM σ n)=true)→bV v g=true):su l (fun T=>aX T g from_) σ:=by
 cases hb:σ.bad with
 |true=>exact ⟨by rw [gy hb,gy hb],by rw [gy hb];exact h⟩
 |false=>
  have hhas:∀n∈from_,di σ n (fM σ n):=fun n hn=>fun _=>⟨hf hb n hn,rfl⟩
  have hfit:∀ts:List Tr,Fit (ct ts g)→Fit g:=fun ts=>by
   induction ts with
   |nil=>exact id
   |cons t ts ih=>exact fun h=>ih (Fit.r h)
  have hadm:σ.bad=false→Fit (ct (from_.map (fM σ)) g)→HD l σ (ct (from_.map (fM σ)) g) 1 0 0 0:=fun _ hft=>
   ⟨eV.ch (fun u hu=>by
    obtain ⟨q,hq,rfl⟩:=List.mem_map.1 hu
    exact (h.has hb (hhas q hq)).1) hg,DI l (.inl rfl),.inl ⟨rfl,rfl,rfl,rfl,fun v=>uO.2 fun hall=>ht hb (hfit _ hft) v (fun n hn=>hall _ (List.mem_map_of_mem hn))⟩⟩
  have h1:=gA h hadm
  have h2:=vz hg (ps:=from_.map (fun n=>(n,fM σ n))) (n:=(bQ af (ct (from_.map (fM σ)) g) 1 0 0 0 σ).1) h1.dF (DI l (by omega)) (fun q hq=>by
   obtain ⟨n,hn,rfl⟩:=List.mem_map.1 hq
   exact (hhas n hn).le da) (by rw [List.map_map];exact bM)
  have e:=h1.same
  have e2:=h2.same
  have g2:=h2.dF
  constructor
  ·unfold aX
   rw [if_neg (by rw [hb];decide),if_neg (by rw [hb];decide),←e]
   exact e2
  unfold aX
  rw [if_neg (by rw [hb];decide)]
  exact g2
theorem Ca {i:Int} {p q:Tr} (hi:0≤i∧i<4) (h:Good l σ) (hp:eV p) (hq:eV q):su l (fun T=>kW T i p q) σ:=
 gA h (fun _ _=>⟨(hp.im hq|>.kw hi).im ((hp.kw hi).im (hq.kw hi)),DI l (by omega),.inr (.inl ⟨by decide,by decide,rfl,rfl,rfl,⟨i,p,q,rfl⟩⟩)⟩)
theorem rH {i:Int} {v:Tr} (hi:0≤i∧i<4) (h:Good l σ) (hv:eV v):su l (fun T=>dS T i v) σ:=
 gA h (fun _ _=>⟨(hv.po hi).if (hv.nt.kw hi).nt,DI l (by omega),.inr (.inl ⟨by decide,by decide,rfl,rfl,rfl,⟨i,v,rfl⟩⟩)⟩)
theorem vN {i:Int} {p q:Tr} {n:Nat} (hi:0≤i∧i<4) (h:Good l σ) (hp:eV p) (hq:eV q) (hn:di σ n (aR p q)):su l (fun T=>gH T i p q n) σ:=by
 have h1:su l (fun T=>bQ T (ar i (aR p q)) 11 n 0 i) σ:=gA h (fun _ _=>⟨(hp.im hq).kw hi,DI l (by omega),.inr (.inr (.inr ⟨rfl,rfl,hi,_,hn,rfl⟩))⟩)
 have h2:=Ca (i:=i) (p:=p) (q:=q) hi h1.dF hp hq
 have a1:di _ _ (ar i (aR p q)):=bM (T:=af) (σ:=σ) (t:=ar i (aR p q)) (r:=11) (a:=n) (b:=0) (gg:=i)
 have a2:di _ _ (aR (ar i (aR p q)) (aR (ar i p) (ar i q))):=bM (T:=af) (σ:=(bQ af (ar i (aR p q)) 11 n 0 i σ).2) (t:=aR (ar i (aR p q)) (aR (ar i p) (ar i q))) (r:=2) (a:=0) (b:=0) (gg:=0)
 have h3:=gA (t:=aR (ar i p) (ar i q)) (r:=10) (a:=(bQ af (ar i (aR p q)) 11 n 0 i σ).1) (b:=(kW af i p q (bQ af (ar i (aR p q)) 11 n 0 i σ).2).1) (g:=0) h2.dF (fun _ _=>⟨(hp.kw hi).im (hq.kw hi),DI l (by omega),.inr (.inr (.inl ⟨rfl,rfl,_,a1.le tv,a2⟩))⟩)
 have e1:=h1.same;have e2:=h2.same;have e3:=h3.same
 constructor
 ·simp only [gH]
  rw [←e1,←e2];exact e3
 exact h3.dF
end
end Go.Proofs.Wit
namespace Go.Proofs.Wit
open Go Go.RowKit
theorem mM {t:Tr} (h:Fit (eR t)):Fit (aE t)∧eR t=(aN t).2:=by
 unfold eR at*
 split at h
 ·rename_i hf;rw [if_pos hf];exact ⟨hf,rfl⟩
 rename_i hf;exact absurd h hf
theorem uM {t c:Tr} (h:Fit (aE t)) (hc:c∈kids t):Fit (aE c):=by
 have h1:=jg hc
 have h2:(bS (aE t)).length=(bS t).length+1:=sg
 have h3:(bS (aE c)).length=(bS c).length+1:=sg
 unfold Fit at*;omega
theorem pB {t:Tr} (h:Fit (aE t)):eR t=(aN t).2:=if_pos h
theorem nW {ei:Bool} {t:Tr} (h:Fit (jt ei t)):Fit (eR t):=by
 unfold jt at h
 split at h
 ·exact Fit.r h
 exact Fit.r (Fit.u h)
theorem oB {ei:Bool} {t:Tr} {v:Tr→Bool}:bV v (jt ei t)=if ei=true then (bV v t||bV v (eR t)) else !(bV v t && bV v (eR t)):=by
 unfold jt
 split<;>rfl
theorem zj {ei:Bool} {t:Tr} {v:Tr→Bool} (h:bV v (eR t)=!bV v t):bV v (jt ei t)=true:=by
 rw [oB,h];cases bV v t<;>cases ei<;>rfl
theorem tK {ei:Bool} {t:Tr} (h:mr t) (hok:t.ok):eV (jt ei t):=by
 unfold jt;split
 ·exact (h.fr hok).or (h.op hok)
 exact ((h.fr hok).ad (h.op hok)).nt
theorem yt {op i e g:Int} {v:Tr→Bool} (h:op≤3) (h1:1≤op):bV v (aN (.leaf op i e g)).2=!bV v (.leaf op i e g):=by
 rw [aN];dsimp only
 rcases (by omega:op=1∨op=2∨op=3) with rfl|rfl|rfl
 ·rw [if_pos rfl];rfl
 ·rw [if_neg (by decide),if_pos rfl];rfl
 rw [if_neg (by decide),if_neg (by decide)];rfl
section
variable {l:Int} {σ:Sg}
theorem A0 {ei:Bool} {op i e g:Int} {a:Tr} {x:Nat} (ho:op=9∨op=10) (ha:mr a) (hok:(Tr.un op i e g a).ok) (h:Good l σ) (hx:di σ x (jt ei a)):su l (fun T=>pJ T ei op i a (.un op i e g a) x) σ:=by
 obtain ⟨hi,rfl,rfl⟩:=mQ hok ho
 have hao:a.ok:=hok.2.2.2.2
 have fa:=ha.fr hao
 have fo:=ha.op hao
 have fu:eV (uT op a):=by unfold uT;split<;>assumption
 have fv:eV (vT op a):=by unfold vT;split<;>assumption
 have fp:eV (oH ei op a):=by
  unfold oH;split
  ·exact fv.nt
  exact fu
 have fq:eV (oG ei op a):=by
  unfold oG;split
  ·exact fu
  exact fv.nt
 have h1:su l (fun T=>aX T (aR (oH ei op a) (oG ei op a)) [x]) σ:=dW h (fp.im fq) (fun hb n hn=>by rw [List.mem_singleton.1 hn];exact (hx hb).1) (fun hb hf v hv=>by
  have h2:=hv x (List.mem_singleton.2 rfl)
  rw [(hx hb).2,oB] at h2
  rw [oK]
  unfold oH oG uT vT
  rcases ho with rfl|rfl
  ·simp only [if_true]
   cases ei
   ·simp only [Bool.false_eq_true,if_false,qC] at h2⊢
    cases e1:bV v a<;>cases e2:bV v (eR a)<;>simp_all
   simp only [if_true,qC] at h2⊢
   cases e1:bV v a<;>cases e2:bV v (eR a)<;>simp_all
  simp only [show ¬(10:Int)=9 from by decide,if_false]
  cases ei
  ·simp only [Bool.false_eq_true,if_false,qC] at h2⊢
   cases e1:bV v a<;>cases e2:bV v (eR a)<;>simp_all
  simp only [if_true,qC] at h2⊢
  cases e1:bV v a<;>cases e2:bV v (eR a)<;>simp_all)
 have h2:=vN (i:=i) (p:=oH ei op a) (q:=oG ei op a) (n:=(aX af (aR (oH ei op a) (oG ei op a)) [x] σ).1) hi h1.dF fp fq eB
 have h3:=rH (i:=i) (v:=vT op a) hi h2.dF fv
 have k1:di _ _ (aR (ar i (oH ei op a)) (ar i (oG ei op a))):=lq (T:=af) (i:=i) (p:=oH ei op a) (q:=oG ei op a) (l:=(aX af (aR (oH ei op a) (oG ei op a)) [x] σ).1) (σ:=(aX af (aR (oH ei op a) (oG ei op a)) [x] σ).2)
 have k2:di _ _ (nF (gi i (vT op a)) (aE (ar i (aE (vT op a))))):=bM (T:=af) (t:=nF (gi i (vT op a)) (aE (ar i (aE (vT op a))))) (r:=7) (a:=0) (b:=0) (gg:=0) (σ:=(gH af i (oH ei op a) (oG ei op a) (aX af (aR (oH ei op a) (oG ei op a)) [x] σ).1 (aX af (aR (oH ei op a) (oG ei op a)) [x] σ).2).2)
 have k1':=k1.le (jC (T:=af) (i:=i) (v:=vT op a))
 have hnf:mr (.un op i 0 0 a):=.inr ⟨ho,ha⟩
 have h4:=dW (g:=jt ei (.un op i 0 0 a)) (from_:=[(gH af i (oH ei op a) (oG ei op a) (aX af (aR (oH ei op a) (oG ei op a)) [x] σ).1 (aX af (aR (oH ei op a) (oG ei op a)) [x] σ).2).1,(dS af i (vT op a) (gH af i (oH ei op a) (oG ei op a) (aX af (aR (oH ei op a) (oG ei op a)) [x] σ).1 (aX af (aR (oH ei op a) (oG ei op a)) [x] σ).2).2).1]) h3.dF (tK hnf hok) (fun hb n hn=>by
   simp only [List.mem_cons,List.not_mem_nil,or_false] at hn
   rcases hn with rfl|rfl
   ·exact (k1' hb).1
   exact (k2 hb).1) (fun hb hf v hv=>by
  have e1:=hv _ (List.mem_cons_self ..)
  have e2:=hv _ (List.mem_cons_of_mem _ (List.mem_cons_self ..))
  have g1:=(k1' hb).2
  have g2:=(k2 hb).2
  rw [g1] at e1
  have e2:bV v (nF (gi i (vT op a)) (aE (ar i (aE (vT op a)))))=true:=g2 ▸ e2
  obtain ⟨f1,f2⟩:=mM (nW hf)
  have f3:eR a=(aN a).2:=pB (uM f1 (List.mem_cons_self ..))
  rw [oB,f2]
  rw [oK] at e1
  rw [Br,qC] at e2
  rcases ho with rfl|rfl
  ·have f4:(aN (.un 9 i 0 0 a)).2=gi i (eR a):=by rw [aN,if_neg (by decide),if_pos rfl,f3]
   rw [f4]
   have u1:uT 9 a=a:=if_pos rfl
   have u2:vT 9 a=eR a:=if_pos rfl
   unfold oH oG at e1
   rw [u2] at e2
   rw [u1,u2] at e1
   cases ei
   ·simp only [Bool.false_eq_true,if_false] at e1⊢
    cases x1:bV v (.un 9 i 0 0 a)<;>cases x2:bV v (gi i (eR a))<;>cases x3:bV v (ar i (aE (eR a)))<;>simp_all
   simp only [if_true] at e1⊢
   cases x1:bV v (.un 9 i 0 0 a)<;>cases x2:bV v (gi i (eR a))<;>cases x3:bV v (ar i (aE (eR a)))<;>simp_all
  have f4:(aN (.un 10 i 0 0 a)).2=ar i (eR a):=by rw [aN,if_neg (by decide),if_neg (by decide),if_pos rfl,f3]
  rw [f4]
  have u1:uT 10 a=eR a:=if_neg (by decide)
  have u2:vT 10 a=a:=if_neg (by decide)
  unfold oH oG at e1
  rw [u2] at e2
  rw [u1,u2] at e1
  cases ei
  ·simp only [Bool.false_eq_true,if_false] at e1⊢
   cases x1:bV v (.un 10 i 0 0 a)<;>cases x2:bV v (ar i (eR a))<;>cases x3:bV v (ar i (aE a))<;>simp_all
  simp only [if_true] at e1⊢
  cases x1:bV v (.un 10 i 0 0 a)<;>cases x2:bV v (ar i (eR a))<;>cases x3:bV v (ar i (aE a))<;>simp_all)
 have s1:=h1.same;have s2:=h2.same;have s3:=h3.same;have s4:=h4.same
 constructor
 ·simp only [pJ]
  rw [←s1,←s2,←s3];exact s4
 exact h4.dF
theorem kz {ei:Bool}:∀{t:Tr},mr t→t.ok→∀{σ:Sg},Good l σ→su l (fun T=>aF T ei t) σ
 |.leaf op i e g,hn,hok,σ,h=>by
  have h1:su l (fun T=>aX T (jt ei (.leaf op i e g)) []) σ:=dW h (tK hn hok) (fun _ n hn=>by cases hn) (fun _ hf v _=>zj (by
   rw [(mM (nW hf)).2];exact yt hn hok.1.1))
  exact ⟨by simp only [aF];exact h1.same,by simp only [aF];exact h1.dF⟩
 |.un op i e g a,hn,hok,σ,h=>by
  by_cases ho:op=9∨op=10
  ·have ha:mr a:=by
    rcases hn with ⟨h1,_⟩|⟨_,h1⟩
    ·omega
    exact h1
   have h1:=kz (ei:=ei) ha hok.2.2.2.2 h
   have h2:=A0 (ei:=ei) (i:=i) (e:=e) (g:=g) (x:=(aF af ei a σ).1) ho ha hok h1.dF dU
   have s1:=h1.same;have s2:=h2.same
   constructor
   ·simp only [aF]
    rw [if_pos ho,if_pos ho,←s1];exact s2
   simp only [aF]
   rw [if_pos ho];exact h2.dF
  have h1:su l (fun T=>aX T (jt ei (.un op i e g a)) []) σ:=dW h (tK hn hok) (fun _ n hn=>by cases hn) (fun _ hf v _=>zj (by
   rw [(mM (nW hf)).2]
   rcases hn with ⟨rfl,j,e',g',rfl⟩|⟨h1,_⟩
   ·rw [aN,if_pos rfl,aN]
    show _=!(!_)
    rw [Bool.not_not]
   exact absurd h1 ho))
  exact ⟨by simp only [aF];rw [if_neg ho,if_neg ho];exact h1.same,by simp only [aF];rw [if_neg ho];exact h1.dF⟩
 |.bin op i e g a b,hn,hok,σ,h=>by
  have h1:=kz (ei:=ei) hn.2.1 hok.2.2.2.1 h
  have h2:=kz (ei:=ei) hn.2.2 hok.2.2.2.2 h1.dF
  have k1:di _ _ (jt ei a):=dU (T:=af) (ei:=ei) (t:=a) (σ:=σ)
  have k2:di _ _ (jt ei b):=dU (T:=af) (ei:=ei) (t:=b) (σ:=(aF af ei a σ).2)
  have k1':=k1.le (ig (T:=af) (ei:=ei) (t:=b))
  have h3:=dW (g:=jt ei (.bin op i e g a b)) (from_:=[(aF af ei a σ).1,(aF af ei b (aF af ei a σ).2).1]) h2.dF (tK hn hok) (fun hb n hn=>by
   simp only [List.mem_cons,List.not_mem_nil,or_false] at hn
   rcases hn with rfl|rfl
   ·exact (k1' hb).1
   exact (k2 hb).1) (fun hb hf v hv=>by
   have e1:=hv _ (List.mem_cons_self ..)
   have e2:=hv _ (List.mem_cons_of_mem _ (List.mem_cons_self ..))
   rw [(k1' hb).2,oB] at e1
   rw [(k2 hb).2,oB] at e2
   obtain ⟨f1,f2⟩:=mM (nW hf)
   have fa:eR a=(aN a).2:=pB (uM f1 (List.mem_cons_self ..))
   have fb:eR b=(aN b).2:=pB (uM f1 (List.mem_cons_of_mem _ (List.mem_cons_self ..)))
   rw [oB,f2]
   rcases hn.1 with rfl|rfl
   ·have f4:(aN (.bin 5 i e g a b)).2=.bin 6 0 0 0 (eR a) (eR b):=by rw [aN,if_pos rfl,fa,fb]
    have f5:bV v (.bin 5 i e g a b)=(bV v a && bV v b):=rfl
    rw [f4,FF,f5]
    cases ei<;>cases x1:bV v a<;>cases x2:bV v b<;>cases x3:bV v (eR a)<;>cases x4:bV v (eR b)<;>simp_all
   have f4:(aN (.bin 6 i e g a b)).2=ju (eR a) (eR b):=by rw [aN,if_neg (by decide),if_pos rfl,fa,fb]
   rw [f4,FF,GU]
   cases ei<;>cases x1:bV v a<;>cases x2:bV v b<;>cases x3:bV v (eR a)<;>cases x4:bV v (eR b)<;>simp_all)
  have s1:=h1.same;have s2:=h2.same;have s3:=h3.same
  constructor
  ·simp only [aF]
   rw [←s1,←s2];exact s3
  simp only [aF];exact h3.dF
theorem BG {i:Int} {f z:Tr} (hi:0≤i∧i<4) (hz:eV z) (hf:(f=ar i z∧cg l 4=true)∨(f=gi i z∧cg l 5=true)) (h:Good l σ):su l (fun T=>kN T i f) σ:=by
 rcases hf with ⟨rfl,h4⟩|⟨rfl,h5⟩
 ·exact gA h (fun _ _=>⟨(hz.kw hi).im ((hz.kw hi).kw hi),h4,.inr (.inl ⟨by decide,by decide,rfl,rfl,rfl,⟨i,z,rfl⟩⟩)⟩)
 have fnz:eV (aE (ar i (aE z))):=(hz.nt.kw hi).nt
 have h1:=rH (i:=i) (v:=z) hi h hz
 have k1:di _ _ (nF (gi i z) (aE (ar i (aE z)))):=bM (T:=af) (t:=nF (gi i z) (aE (ar i (aE z)))) (r:=7) (a:=0) (b:=0) (gg:=0) (σ:=σ)
 have h2:=gA (t:=aR (aE (ar i (aE z))) (ar i (aE (ar i (aE z))))) (r:=5) (a:=0) (b:=0) (g:=0) h1.dF (fun _ _=>⟨fnz.im (fnz.kw hi),h5,.inr (.inl ⟨by decide,by decide,rfl,rfl,rfl,⟨i,aE z,rfl⟩⟩)⟩)
 have k2:=bM (T:=af) (t:=aR (aE (ar i (aE z))) (ar i (aE (ar i (aE z))))) (r:=5) (a:=0) (b:=0) (gg:=0) (σ:=(dS af i z σ).2)
 obtain ⟨σ1,e1⟩:∃s,s=dS af i z σ:=⟨_,rfl⟩
 obtain ⟨σ2,e2⟩:∃s,s=bQ af (aR (aE (ar i (aE z))) (ar i (aE (ar i (aE z))))) 5 0 0 0 σ1.2:=⟨_,rfl⟩
 have k1a:di σ1.2 σ1.1 (nF (gi i z) (aE (ar i (aE z)))):=by rw [e1];exact k1
 have g1:Good l σ1.2:=by rw [e1];exact h1.dF
 have le2:σ1.2.Le σ2.2:=by rw [e2];exact da
 have k2a:di σ2.2 σ2.1 (aR (aE (ar i (aE z))) (ar i (aE (ar i (aE z))))):=by rw [e2,e1];exact k2
 have g2:Good l σ2.2:=by rw [e2,e1];exact h2.dF
 have h3:=dW (g:=aR (aE (ar i (aE z))) (gi i z)) (from_:=[σ1.1]) g2 (fnz.im (hz.po hi)) (fun hb n hn=>by rw [List.mem_singleton.1 hn];exact ((k1a.le le2) hb).1) (fun hb _ v hv=>by
  have q:=hv _ (List.mem_singleton.2 rfl)
  rw [((k1a.le le2) hb).2,Br] at q
  rw [oK]
  cases x1:bV v (gi i z)<;>cases x2:bV v (aE (ar i (aE z)))<;>simp_all)
 obtain ⟨σ3,e3⟩:∃s,s=aX af (aR (aE (ar i (aE z))) (gi i z)) [σ1.1] σ2.2:=⟨_,rfl⟩
 have le3:σ2.2.Le σ3.2:=by rw [e3];exact cX
 have g3:Good l σ3.2:=by rw [e3];exact h3.dF
 have k3:di σ3.2 σ3.1 (aR (aE (ar i (aE z))) (gi i z)):=by rw [e3];exact eB
 have h4:=vN (i:=i) (p:=aE (ar i (aE z))) (q:=gi i z) (n:=σ3.1) hi g3 fnz (hz.po hi) k3
 obtain ⟨σ4,e4⟩:∃s,s=gH af i (aE (ar i (aE z))) (gi i z) σ3.1 σ3.2:=⟨_,rfl⟩
 have le4:σ3.2.Le σ4.2:=by rw [e4];exact m7
 have g4:Good l σ4.2:=by rw [e4];exact h4.dF
 have k4:di σ4.2 σ4.1 (aR (ar i (aE (ar i (aE z)))) (ar i (gi i z))):=by rw [e4];exact lq
 have k1b:=k1a.le (le2.trans (le3.trans le4))
 have k2b:=k2a.le (le3.trans le4)
 have h5':=dW (g:=aR (gi i z) (ar i (gi i z))) (from_:=[σ1.1,σ2.1,σ4.1]) g4 ((hz.po hi).im ((hz.po hi).kw hi)) (fun hb n hn=>by
  simp only [List.mem_cons,List.not_mem_nil,or_false] at hn
  rcases hn with rfl|rfl|rfl
  ·exact (k1b hb).1
  ·exact (k2b hb).1
  exact (k4 hb).1) (fun hb _ v hv=>by
  have q1:=hv _ (List.mem_cons_self ..)
  have q2:=hv _ (List.mem_cons_of_mem _ (List.mem_cons_self ..))
  have q3:=hv _ (List.mem_cons_of_mem _ (List.mem_cons_of_mem _ (List.mem_cons_self ..)))
  rw [(k1b hb).2,Br] at q1
  rw [(k2b hb).2,oK] at q2
  rw [(k4 hb).2,oK] at q3
  rw [oK]
  cases x1:bV v (gi i z)<;>cases x2:bV v (aE (ar i (aE z)))<;>cases x3:bV v (ar i (aE (ar i (aE z))))<;>cases x4:bV v (ar i (gi i z))<;>simp_all)
 have s1:=h1.same;have s2:=h2.same;have s3:=h3.same;have s4:=h4.same;have s5:=h5'.same
 rw [←e1] at s1 s2
 rw [←e2] at s2
 rw [←e3] at s3
 rw [←e4] at s4
 constructor
 ·simp only [kN]
  rw [←s1,←e1,←s2,←e2,←s3,←e3,←s4,←e4];exact s5
 simp only [kN]
 rw [←e1,←e2,←e3,←e4];exact h5'.dF
end
end Go.Proofs.Wit
namespace Go.Proofs.Wit
open Go Go.RowKit
structure SD where
  set:ax
  av:Int
  on:Int
  e:Int
  fr:List Int
structure SV where
  d:SD
  fa:Option Addr
  fc:Nat
def nd (b:List NV) (i:Int):NV:=b.getD i.toNat ⟨0,0,0,0,0,0⟩
def tA (b:List NV) (i:Int):Tr:=aa b i.toNat
def eT (s:ax) (i:Int):Bool:=decide (0≤i∧i<64) && s.getLsbD i.toNat
def bW (i:Int):ax:=1#64<<<i.toNat
theorem pP {s:ax} {i:Nat}:eT s i=true↔s.getLsbD i=true:=by
 unfold eT
 simp only [Bool.and_eq_true,decide_eq_true_eq,Int.toNat_natCast]
 exact ⟨fun h=>h.2,fun h=>⟨⟨by omega,by have:=BitVec.lt_of_getLsbD h;omega⟩,h⟩⟩
theorem fP {s:ax} {i:Int}:eT s i=true↔∃k:Nat,i=k∧k<64∧s.getLsbD k=true:=by
 unfold eT
 simp only [Bool.and_eq_true,decide_eq_true_eq]
 exact ⟨fun h=>⟨i.toNat,by omega,by omega,h.2⟩,fun ⟨k,h1,h2,h3⟩=>⟨by omega,by subst h1;exact h3⟩⟩
theorem od {i:Int} {k:Nat} (h:0≤i∧i<64):(bW i).getLsbD k=true↔(k:Int)=i:=by
 unfold bW
 rw [vq (by omega)];omega
noncomputable def jw (b:List NV) (i:Int):Int:=match (List.range b.length).find? (fun j=>decide (aa b j=eR (tA b i))) with
 |some j=>(j:Int)
 |none=>-1
theorem qT {b:List NV} {i:Int} {j:Nat} (hj:j<b.length) (h:aa b j=eR (tA b i)) (hf:∀k,k<j→aa b k≠eR (tA b i)):jw b i=j:=by
 have:(List.range b.length).find? (fun j=>decide (aa b j=eR (tA b i)))=some j:=by
  rw [List.find?_range_eq_some]
  exact ⟨by simpa using h,by simpa using hj,fun k hk=>by simpa using hf k hk⟩
 unfold jw;rw [this]
theorem wE {b:List NV} {i:Int} (hf:∀k,k<b.length→aa b k≠eR (tA b i)):jw b i=-1:=by
 have:(List.range b.length).find? (fun j=>decide (aa b j=eR (tA b i)))=none:=by
  rw [List.find?_eq_none]
  intro k hk
  simpa using hf k (List.mem_range.1 hk)
 unfold jw;rw [this]
theorem vy {b:List NV} {i:Int} (h:0≤jw b i):∃j:Nat,jw b i=j∧j<b.length∧aa b j=eR (tA b i):=by
 cases e:(List.range b.length).find? (fun j=>decide (aa b j=eR (tA b i))) with
 |none=>unfold jw at h;rw [e] at h;exact absurd h (by decide)
 |some j=>
  have h1:=List.mem_of_find?_eq_some e
  have h2:=List.find?_some e
  exact ⟨j,by unfold jw;rw [e],List.mem_range.1 h1,by simpa using h2⟩
def tq (l:Int):Prop:=l=3∨l=4∨l=5∨l=6
def uP (l:Int):Prop:=l=5∨l=6
instance {l:Int}:Decidable (tq l):=by unfold tq;infer_instance
instance {l:Int}:Decidable (uP l):=by unfold uP;infer_instance
def w4 (l:Int) (b:List NV) (i:Int):ax:=(if (nd b i).op=9 then bW (nd b i).x else 0#64)|||(if ((nd b i).op=9∧tq l)∨((nd b i).op=10∧uP l) then bW i else 0#64)
def ly (l:Int) (b:List NV) (s:ax) (ag:Int):Nat→ax
 |0=>0#64
 |k+1=>if eT s k=true∧(nd b k).i=ag then ly l b s ag k|||w4 l b k else ly l b s ag k
def lz (l:Int) (b:List NV) (s:ax) (ag:Int):ax:=ly l b s ag b.length
def js (b:List NV) (s:ax):Prop:=∀k,s.getLsbD k=true→k<b.length
def dc (ss:List SD) (k:Int):ax:=(ss.map SD.set).getD k.toNat 0#64
def eE (ss:List SD) (k:Nat):List Int→List ax→Prop
 |[],[]=>True
 |f::fs,s::us=>((0≤f∧f<k)∧dc ss f &&& ~~~ s=0#64)∧eE ss k fs us
 |_,_=>False
def zV (b:List NV) (x:SD) (op:Int):Prop:=x.on<b.length∧eT x.set x.on=true∧(nd b x.on).op=op
def ej (l:Int) (b:List NV) (ss:List SD) (k:Nat) (x:SD):Prop:=
 js b x.set∧(
 (x.av=1∧x.fr=[]∧((zV b x 2∧x.e=0)∨(eT x.set x.on=true∧x.on<b.length∧eT x.set x.e=true∧jw b x.on=x.e)))∨
 (x.av=2∧x.e=0∧zV b x 5∧eE ss k x.fr [x.set|||bW (nd b x.on).x|||bW (nd b x.on).y])∨
 (x.av=3∧x.e=0∧zV b x 6∧eE ss k x.fr [x.set|||bW (nd b x.on).x,x.set|||bW (nd b x.on).y])∨
 (x.av=4∧(0≤x.on∧x.on<b.length)∧0≤x.e∧jw b x.on=x.e∧eE ss k x.fr [x.set|||bW x.on,x.set|||bW x.e])∨
 (x.av=5∧x.e=0∧(l=2∨l=4∨l=6)∧zV b x 9∧eE ss k x.fr [x.set|||bW (nd b x.on).x])∨
 (x.av=6∧x.e=0∧zV b x 10∧eE ss k x.fr [bW (nd b x.on).x|||lz l b x.set (nd b x.on).i])∨
 (x.av=7∧x.e=0∧(l=1∨l=5)∧(0≤x.on∧x.on<4)∧eE ss k x.fr [lz l b x.set x.on]))
def ew (b:List NV) (n:NV):Prop:=(n.op=1∨n.op=2∨n.op=3∨n.op=5∨n.op=6∨n.op=9∨n.op=10)∨(n.op=4∧(nd b n.x).op=3)
open Classical in
noncomputable def kf (b:List NV):Int:=if aV b≠0 then aV b else if 64<b.length then 8 else if ∀n∈b,ew b n then 0 else 10
noncomputable def eG (l:Int) (b:List NV) (m:Nat):Int:=if ¬(0≤l∧l≤6) then 2 else if kf b≠0 then kf b else if m=0∨4096<m then 3 else 0
open Classical in
noncomputable def qu (l:Int) (b:List NV) (ss:List SD):Int:=if eG l b ss.length≠0 then eG l b ss.length else if ∀(k:Nat) (hk:k<ss.length),ej l b ss k ss[k] then 0 else 13
theorem mm {b:List NV}:kf b=0↔aV b=0∧b.length≤64∧∀n∈b,ew b n:=by
 unfold kf
 by_cases h2:aV b=0
 ·rw [if_neg (by simp [h2])]
  by_cases h3:64<b.length
  ·rw [if_pos h3];exact ⟨fun h=>absurd h (by decide),fun h=>by omega⟩
  rw [if_neg h3]
  by_cases h4:∀n∈b,ew b n
  ·rw [if_pos h4];exact ⟨fun _=>⟨h2,by omega,h4⟩,fun _=>rfl⟩
  rw [if_neg h4];exact ⟨fun h=>absurd h (by decide),fun h=>absurd h.2.2 h4⟩
 rw [if_pos h2];exact ⟨fun h=>absurd h h2,fun h=>absurd h.1 h2⟩
theorem me {l:Int} {b:List NV} {m:Nat}:eG l b m=0↔(0≤l∧l≤6)∧kf b=0∧0<m∧m≤4096:=by
 unfold eG
 by_cases h1:0≤l∧l≤6
 ·rw [if_neg (by simp [h1])]
  by_cases h2:kf b=0
  ·rw [if_neg (by simp [h2])]
   by_cases h3:m=0∨4096<m
   ·rw [if_pos h3];exact ⟨fun h=>absurd h (by decide),fun h=>by omega⟩
   rw [if_neg h3];exact ⟨fun _=>⟨h1,h2,by omega⟩,fun _=>rfl⟩
  rw [if_pos h2];exact ⟨fun h=>absurd h h2,fun h=>absurd h.2.1 h2⟩
 rw [if_pos h1];exact ⟨fun h=>absurd h (by decide),fun h=>absurd h.1 h1⟩
theorem xU {l:Int} {b:List NV} {ss:List SD}:qu l b ss=0↔(0≤l∧l≤6)∧(aV b=0∧b.length≤64∧∀n∈b,ew b n)∧(0<ss.length∧ss.length≤4096)∧∀(k:Nat) (hk:k<ss.length),ej l b ss k ss[k]:=by
 unfold qu
 by_cases h1:eG l b ss.length=0
 ·rw [if_neg (by simp [h1])]
  have h2:=me.1 h1
  have h3:=mm.1 h2.2.1
  by_cases h6:∀(k:Nat) (hk:k<ss.length),ej l b ss k ss[k]
  ·rw [if_pos h6];exact ⟨fun _=>⟨h2.1,h3,h2.2.2,h6⟩,fun _=>rfl⟩
  rw [if_neg h6];exact ⟨fun h=>absurd h (by decide),fun h=>absurd h.2.2.2 h6⟩
 rw [if_pos h1]
 exact ⟨fun h=>absurd h h1,fun ⟨a,c,d,_⟩=>absurd (me.2 ⟨a,mm.2 c,d⟩) h1⟩
def fz (b:List NV) (s:ax) (ag:Int) (n:Nat):Nat:=((List.range b.length).find? (fun i=>s.getLsbD i && ((nd b i).op==9 && ((nd b i).i==ag && (nd b i).x==(n:Int))))).getD n
def xK (b:List NV) (s:ax) (ag:Int) (p:ax):ax:=(dX p).foldl (fun o n=>o|||1#64<<<fz b s ag n) 0#64
def jK (b:List NV) (x:SD) (bf:List ax):ax:=
 let p:=bf.getD (x.fr.getD 0 0).toNat 0#64
 let q:=bf.getD (x.fr.getD 1 0).toNat 0#64
 let n:=nd b x.on
 if x.av=1 then (if n.op=2 then bW x.on else bW x.on|||bW x.e)
 else if x.av=4 then p &&& ~~~ bW x.on|||q &&& ~~~ bW x.e
 else if x.av=7 then xK b x.set x.on p
 else if x.av=2 then p &&& ~~~ (bW n.x|||bW n.y)|||bW x.on
 else if x.av=3 then p &&& ~~~ bW n.x|||q &&& ~~~ bW n.y|||bW x.on
 else if x.av=5 then p &&& ~~~ bW n.x|||bW x.on
 else xK b x.set n.i (p &&& ~~~ bW n.x)|||bW x.on
def eQ (b:List NV) (ss:List SD):Nat→List ax
 |0=>[]
 |k+1=>match ss[k]? with
  |some x=>eQ b ss k++[jK b x (eQ b ss k)]
  |none=>eQ b ss k
theorem lE {b:List NV} {ss:List SD} {k:Nat} (hk:k<ss.length):eQ b ss (k+1)=eQ b ss k++[jK b ss[k] (eQ b ss k)]:=by
 rw [eQ,List.getElem?_eq_getElem hk]
theorem kS {b:List NV} {ss:List SD}:∀{k:Nat},k≤ss.length→(eQ b ss k).length=k
 |0,_=>rfl
 |k+1,h=>by rw [lE (by omega),List.length_append,kS (by omega)];rfl
theorem sE {b:List NV} {ss:List SD} {j:Nat}:∀{k:Nat},j≤k→k≤ss.length→eQ b ss j<+:eQ b ss k
 |0,h,_=>by rw [show j=0 by omega];exact List.prefix_refl _
 |k+1,h,h2=>by
  by_cases e:j=k+1
  ·rw [e];exact List.prefix_refl _
  rw [lE (by omega)]
  exact (sE (by omega) (by omega)).trans (List.prefix_append _ _)
def oQ (b:List NV) (ss:List SD) (k:Nat):ax:=(eQ b ss ss.length).getD k 0#64
theorem mu {b:List NV} {ss:List SD} {j k:Nat} (hj:j<k) (hk:k≤ss.length):(eQ b ss k).getD j 0#64=oQ b ss j:=by
 obtain ⟨u,hu⟩:=sE (b:=b) (ss:=ss) hk (Nat.le_refl _)
 unfold oQ
 rw [←hu,List.getD_eq_getElem?_getD,List.getD_eq_getElem?_getD,List.getElem?_append_left (by rw [kS hk];exact hj)]
theorem CC {b:List NV} {ss:List SD} {k:Nat} (hk:k<ss.length):oQ b ss k=jK b ss[k] (eQ b ss k):=by
 rw [←mu (Nat.lt_succ_self k) (by omega),lE hk,List.getD_eq_getElem?_getD,List.getElem?_append_right (by rw [kS (by omega)];exact Nat.le_refl _)]
 simp [kS (Nat.le_of_lt hk)]
inductive zX (ss:List SD):Nat→Prop
  |last {k:Nat}:k+1=ss.length→zX ss k
  |fr {k j:Nat} (hk:k<ss.length):zX ss k→(j:Int)∈ss[k].fr→zX ss j
open Classical in
noncomputable def dO (ss:List SD) (k:Nat):Bool:=decide (zX ss k)
theorem ic {ss:List SD} {k:Nat}:dO ss k=true↔zX ss k:=by unfold dO;exact @decide_eq_true_iff _ (Classical.propDecidable _)
noncomputable def gD (b:List NV) (ss:List SD) (k:Nat) (x:SD):SD:=
 ⟨oQ b ss k,x.av,x.on,if x.av=1∧(nd b x.on).op=2 then 0 else x.e,x.fr.map (fun j=>((bJ (dO ss) j.toNat:Nat):Int))⟩
noncomputable def mx (b:List NV) (ss:List SD):Nat→List SD
 |0=>[]
 |k+1=>match ss[k]? with
  |some x=>if dO ss k=true then mx b ss k++[gD b ss k x] else mx b ss k
  |none=>mx b ss k
noncomputable def dz (b:List NV) (ss:List SD):List SD:=mx b ss ss.length
theorem jW {b:List NV} {ss:List SD} {k:Nat} (hk:k<ss.length):mx b ss (k+1)=if dO ss k=true then mx b ss k++[gD b ss k ss[k]] else mx b ss k:=by
 rw [mx,List.getElem?_eq_getElem hk]
theorem kV {b:List NV} {ss:List SD}:∀{k:Nat},k≤ss.length→(mx b ss k).length=bJ (dO ss) k
 |0,_=>by simp [mx,bJ]
 |k+1,h=>by
  have h1:=kV (b:=b) (ss:=ss) (k:=k) (by omega)
  rw [jW (by omega),gY]
  split<;>simp [h1]
theorem u9 {b:List NV} {ss:List SD} {j:Nat} (hn:dO ss j=true):∀{k:Nat},k≤ss.length→j<k→∀hj:j<ss.length,(mx b ss k)[bJ (dO ss) j]?=some (gD b ss j ss[j])
 |0,_,h,_=>by omega
 |k+1,h,h2,hj=>by
  rw [jW (by omega)]
  by_cases e:j=k
  ·subst e
   rw [if_pos hn,List.getElem?_append_right (by rw [kV (by omega)];exact Nat.le_refl _),kV (by omega)]
   simp
  have h3:=u9 (b:=b) hn (k:=k) (by omega) (by omega) hj
  split
  ·rw [List.getElem?_append_left (List.getElem?_eq_some_iff.1 h3).1];exact h3
  exact h3
end Go.Proofs.Wit
namespace Go.Proofs.Wit
open Go Go.RowKit
theorem my {s t:ax}:s &&& ~~~ t=0#64↔∀k,s.getLsbD k=true→t.getLsbD k=true:=by
 constructor
 ·intro h k hk
  have:=congrArg (fun x=>x.getLsbD k) h
  simp only [BitVec.getLsbD_and,BitVec.getLsbD_not,hk,BitVec.getLsbD_zero,Bool.true_and] at this
  have h64:=BitVec.lt_of_getLsbD hk
  simpa [h64] using this
 intro h
 apply BitVec.eq_of_getLsbD_eq
 intro i hi
 simp only [BitVec.getLsbD_and,BitVec.getLsbD_not,BitVec.getLsbD_zero]
 cases hs:s.getLsbD i with
 |false=>rfl
 |true=>simp [h i hs]
theorem cR {s t:ax} {k:Nat}:(s|||t).getLsbD k=true↔s.getLsbD k=true∨t.getLsbD k=true:=by simp
theorem gv {s t:ax} {k:Nat}:(s &&& ~~~ t).getLsbD k=true↔s.getLsbD k=true∧¬t.getLsbD k=true:=by
 simp only [BitVec.getLsbD_and,BitVec.getLsbD_not,Bool.and_eq_true,decide_eq_true_eq,Bool.not_eq_true',Bool.not_eq_true]
 exact ⟨fun h=>⟨h.1,h.2.2⟩,fun h=>⟨h.1,BitVec.lt_of_getLsbD h.1,h.2⟩⟩
structure aY (b:List NV):Prop where
  iY:aV b=0
  len:b.length≤64
  B7:∀n∈b,ew b n
section
variable {l:Int} {b:List NV} {ss:List SD}
theorem dI {i:Nat} (hi:i<b.length):nd b i=b[i]:=by simp [nd,List.getD_eq_getElem?_getD,hi]
theorem aY.x (h:aY b) {i:Nat} (hi:i<b.length) (hX:4≤(nd b i).op):0≤(nd b i).x∧(nd b i).x<i:=by
 rw [dI hi] at*
 have ho:=(aA.1 h.iY).nodes i hi
 have h1:=h.B7 _ (List.getElem_mem hi)
 have hu:cF b[i].op=true:=by unfold cF;unfold ew at h1;simp;omega
 have:=ho.x hu;omega
theorem aY.y (h:aY b) {i:Nat} (hi:i<b.length) (hX:(nd b i).op=5∨(nd b i).op=6):0≤(nd b i).y∧(nd b i).y<i:=by
 rw [dI hi] at*
 have ho:=(aA.1 h.iY).nodes i hi
 have hu:cm b[i].op=true:=by unfold cm;rcases hX with e|e<;>rw [e]<;>rfl
 have:=ho.y hu;omega
theorem fy {s:ax} {ag:Int} {n:Nat}:(∃i,fz b s ag n=i∧i<b.length∧s.getLsbD i=true∧(nd b i).op=9∧(nd b i).i=ag∧(nd b i).x=n∧∀j,j<i→s.getLsbD j=true→(nd b j).op=9→(nd b j).i=ag→(nd b j).x≠n)∨(fz b s ag n=n∧∀j,j<b.length→s.getLsbD j=true→(nd b j).op=9→(nd b j).i=ag→(nd b j).x≠n):=by
 cases e:(List.range b.length).find? (fun i=>s.getLsbD i && ((nd b i).op==9 && ((nd b i).i==ag && (nd b i).x==(n:Int)))) with
 |none=>
  refine .inr ⟨by unfold fz;rw [e];rfl,fun j hj h1 h2 h3 h4=>?_⟩
  rw [List.find?_eq_none] at e
  exact e j (List.mem_range.2 hj) (by simp [h1,h2,h3,h4])
 |some i=>
  rw [List.find?_range_eq_some] at e
  obtain ⟨e1,e2,e3⟩:=e
  simp only [Bool.and_eq_true,beq_iff_eq] at e1
  refine .inl ⟨i,?_,List.mem_range.1 e2,e1.1,e1.2.1,e1.2.2.1,e1.2.2.2,fun j hj h1 h2 h3 h4=>?_⟩
  ·have:(List.range b.length).find? (fun i=>s.getLsbD i && ((nd b i).op==9 && ((nd b i).i==ag && (nd b i).x==(n:Int))))=some i:=by
    rw [List.find?_range_eq_some]
    exact ⟨by simp [e1],e2,e3⟩
   unfold fz;rw [this];rfl
  have:=e3 j hj
  simp [h1,h2,h3,h4] at this
theorem Au (hl:b.length≤64) {s:ax} {ag:Int} {n:Nat} (hn:n<64):fz b s ag n<64:=by
 rcases fy (b:=b) (s:=s) (ag:=ag) (n:=n) with ⟨i,h1,h2,_⟩|⟨h1,_⟩
 ·omega
 omega
theorem vo {f:Nat→Nat}:∀{ns:List Nat} {o:ax} {k:Nat},(∀n∈ns,f n<64)→((ns.foldl (fun o n=>o|||1#64<<<f n) o).getLsbD k=true↔o.getLsbD k=true∨∃n∈ns,f n=k)
 |[],o,k,_=>by simp
 |n::ns,o,k,h=>by
  rw [List.foldl_cons,vo (fun m hm=>h m (List.mem_cons_of_mem _ hm)),cR,vq (h n (List.mem_cons_self ..))]
  simp only [List.mem_cons,exists_eq_or_imp]
  constructor
  ·rintro ((h1|h1)|h1)
   ·exact .inl h1
   ·exact .inr (.inl h1.symm)
   ·exact .inr (.inr h1)
  rintro (h1|h1|h1)
  ·exact .inl (.inl h1)
  ·exact .inl (.inr h1.symm)
  exact .inr h1
theorem cW {s:ax} {k:Nat}:k∈dX s↔s.getLsbD k=true:=by
 unfold dX
 rw [List.mem_filter,List.mem_range]
 exact ⟨fun h=>h.2,fun h=>⟨BitVec.lt_of_getLsbD h,h⟩⟩
theorem sJ (hl:b.length≤64) {s p:ax} {ag:Int} {k:Nat}:(xK b s ag p).getLsbD k=true↔∃n,p.getLsbD n=true∧fz b s ag n=k:=by
 unfold xK
 rw [vo (fun n hn=>Au hl (BitVec.lt_of_getLsbD (cW.1 hn)))]
 simp only [BitVec.getLsbD_zero,Bool.false_eq_true,false_or,cW]
theorem nZ (h:aY b) {s:ax} {ag:Int} {k:Nat}:∀{m:Nat},m≤b.length→((ly l b s ag m).getLsbD k=true↔∃i:Nat,i<m∧s.getLsbD i=true∧(nd b i).i=ag∧(((nd b i).op=9∧(nd b i).x=k)∨(k=i∧(((nd b i).op=9∧tq l)∨((nd b i).op=10∧uP l)))))
 |0,_=>by simp [ly]
 |m+1,hm=>by
  have hcn:(w4 l b m).getLsbD k=true↔(((nd b m).op=9∧(nd b m).x=k)∨(k=m∧(((nd b m).op=9∧tq l)∨((nd b m).op=10∧uP l)))):=by
   unfold w4
   rw [cR]
   apply or_congr
   ·by_cases h9:(nd b m).op=9
    ·have:=h.x (i:=m) (by omega) (by omega)
     have:=h.len
     rw [if_pos h9,od (by omega)]
     exact ⟨fun e=>⟨h9,e.symm⟩,fun e=>e.2.symm⟩
    ·rw [if_neg h9];simp [h9]
   by_cases h9:((nd b m).op=9∧tq l)∨((nd b m).op=10∧uP l)
   ·have:=h.len
    rw [if_pos h9,od (by omega)]
    exact ⟨fun e=>⟨by omega,h9⟩,fun e=>by omega⟩
   rw [if_neg h9];simp [h9]
  rw [ly]
  by_cases h1:eT s m=true∧(nd b m).i=ag
  ·rw [if_pos h1,cR,nZ h (by omega),hcn]
   constructor
   ·rintro (⟨i,h2,h3⟩|h2)
    ·exact ⟨i,by omega,h3⟩
    ·exact ⟨m,by omega,pP.1 h1.1,h1.2,h2⟩
   rintro ⟨i,h2,h3,h4,h5⟩
   by_cases e:i=m
   ·subst e;exact .inr h5
   exact .inl ⟨i,by omega,h3,h4,h5⟩
  rw [if_neg h1,nZ h (by omega)]
  constructor
  ·rintro ⟨i,h2,h3⟩
   exact ⟨i,by omega,h3⟩
  rintro ⟨i,h2,h3,h4,h5⟩
  by_cases e:i=m
  ·subst e;exact absurd ⟨pP.2 h3,h4⟩ h1
  exact ⟨i,by omega,h3,h4,h5⟩
theorem j9 (h:aY b) {s:ax} {ag:Int} {k:Nat}:(lz l b s ag).getLsbD k=true↔∃i:Nat,i<b.length∧s.getLsbD i=true∧(nd b i).i=ag∧(((nd b i).op=9∧(nd b i).x=k)∨(k=i∧(((nd b i).op=9∧tq l)∨((nd b i).op=10∧uP l)))):=nZ h (Nat.le_refl _)
theorem eE.one {k:Nat} {fs:List Int} {s:ax} (h:eE ss k fs [s]):∃j:Nat,fs=[(j:Int)]∧j<k∧∀n,(dc ss j).getLsbD n=true→s.getLsbD n=true:=by
 cases fs with
 |nil=>exact h.elim
 |cons f fs=>
  cases fs with
  |cons _ _=>exact h.2.elim
  |nil=>
   obtain ⟨⟨h1,h2⟩,_⟩:=h
   refine ⟨f.toNat,by rw [show ((f.toNat:Nat):Int)=f by omega],by omega,?_⟩
   rw [show ((f.toNat:Nat):Int)=f by omega];exact my.1 h2
theorem eE.two {k:Nat} {fs:List Int} {s u:ax} (h:eE ss k fs [s,u]):∃j i:Nat,fs=[(j:Int),(i:Int)]∧j<k∧i<k∧(∀n,(dc ss j).getLsbD n=true→s.getLsbD n=true)∧∀n,(dc ss i).getLsbD n=true→u.getLsbD n=true:=by
 cases fs with
 |nil=>exact h.elim
 |cons f fs=>
  obtain ⟨⟨h1,h2⟩,h3⟩:=h
  obtain ⟨i,rfl,hi,hu⟩:=eE.one h3
  refine ⟨f.toNat,i,by rw [show ((f.toNat:Nat):Int)=f by omega],by omega,hi,?_,hu⟩
  rw [show ((f.toNat:Nat):Int)=f by omega];exact my.1 h2
theorem eE.Fh {k j:Nat} {s:ax} (hj:j<k) (h:∀n,(dc ss j).getLsbD n=true→s.getLsbD n=true):eE ss k [(j:Int)] [s]:=⟨⟨by omega,my.2 h⟩,trivial⟩
theorem eE.HJ {k j i:Nat} {s u:ax} (hj:j<k) (hi:i<k) (h:∀n,(dc ss j).getLsbD n=true→s.getLsbD n=true) (h2:∀n,(dc ss i).getLsbD n=true→u.getLsbD n=true):eE ss k [(j:Int),(i:Int)] [s,u]:=⟨⟨by omega,my.2 h⟩,eE.Fh hi h2⟩
theorem ej.mZ {k:Nat} {x:SD} (h:ej l b ss k x) {f:Int} (hf:f∈x.fr):0≤f∧f<k:=by
 have one:∀{s:ax},eE ss k x.fr [s]→0≤f∧f<k:=fun h=>by
  obtain ⟨j,e,hj,_⟩:=h.one
  rw [e,List.mem_singleton] at hf;omega
 have two:∀{s u:ax},eE ss k x.fr [s,u]→0≤f∧f<k:=fun h=>by
  obtain ⟨j,i,e,hj,hi,_⟩:=h.two
  rw [e] at hf
  simp only [List.mem_cons,List.not_mem_nil,or_false] at hf
  omega
 rcases h.2 with ⟨_,h,_⟩|⟨_,_,_,h⟩|⟨_,_,_,h⟩|⟨_,_,_,_,h⟩|⟨_,_,_,_,h⟩|⟨_,_,_,h⟩|⟨_,_,_,_,h⟩
 ·rw [h] at hf;cases hf
 ·exact one h
 ·exact two h
 ·exact two h
 ·exact one h
 ·exact one h
 exact one h
theorem zV.nat (_h:aY b) {x:SD} {op:Int} (g:zV b x op):∃o:Nat,x.on=o∧o<b.length∧x.set.getLsbD o=true∧(nd b x.on).op=op:=by
 obtain ⟨h1,h2,h3⟩:=g
 obtain ⟨k,h4,h5,h6⟩:=fP.1 h2
 exact ⟨k,h4,by omega,h6,h3⟩
end
end Go.Proofs.Wit
namespace Go.Proofs.Wit
open Go Go.RowKit
section
variable {l:Int} {b:List NV} {ss:List SD}
abbrev Us (b:List NV) (ss:List SD) (k n:Nat):Prop:=(oQ b ss k).getLsbD n=true
inductive qE (l:Int) (b:List NV) (ss:List SD) (k:Nat) (x:SD):Prop
  |Ch (o:Nat):x.av=1→x.fr=[]→x.on=o→o<b.length→x.set.getLsbD o=true→(nd b o).op=2→(∀n,Us b ss k n↔n=o)→qE l b ss k x
  |neg (o e:Nat):x.av=1→x.fr=[]→x.on=o→o<b.length→x.set.getLsbD o=true→(nd b o).op≠2→x.e=e→e<b.length→x.set.getLsbD e=true→jw b o=e→aa b e=eR (aa b o)→(∀n,Us b ss k n↔n=o∨n=e)→qE l b ss k x
  |and (o j:Nat):x.av=2→x.e=0→x.fr=[(j:Int)]→j<k→x.on=o→o<b.length→x.set.getLsbD o=true→(nd b o).op=5→(∀n:Nat,(dc ss j).getLsbD n=true→x.set.getLsbD n=true∨(n:Int)=(nd b o).x∨(n:Int)=(nd b o).y)→(∀n:Nat,Us b ss k n↔(Us b ss j n∧(n:Int)≠(nd b o).x∧(n:Int)≠(nd b o).y)∨n=o)→qE l b ss k x
  |or (o j i:Nat):x.av=3→x.e=0→x.fr=[(j:Int),(i:Int)]→j<k→i<k→x.on=o→o<b.length→x.set.getLsbD o=true→(nd b o).op=6→(∀n:Nat,(dc ss j).getLsbD n=true→x.set.getLsbD n=true∨(n:Int)=(nd b o).x)→(∀n:Nat,(dc ss i).getLsbD n=true→x.set.getLsbD n=true∨(n:Int)=(nd b o).y)→(∀n:Nat,Us b ss k n↔(Us b ss j n∧(n:Int)≠(nd b o).x)∨(Us b ss i n∧(n:Int)≠(nd b o).y)∨n=o)→qE l b ss k x
  |cut (o e j i:Nat):x.av=4→x.fr=[(j:Int),(i:Int)]→j<k→i<k→x.on=o→o<b.length→x.e=e→e<b.length→jw b o=e→aa b e=eR (aa b o)→(∀n:Nat,(dc ss j).getLsbD n=true→x.set.getLsbD n=true∨n=o)→(∀n:Nat,(dc ss i).getLsbD n=true→x.set.getLsbD n=true∨n=e)→(∀n:Nat,Us b ss k n↔(Us b ss j n∧n≠o)∨(Us b ss i n∧n≠e))→qE l b ss k x
  |t (o j:Nat):x.av=5→x.e=0→(l=2∨l=4∨l=6)→x.fr=[(j:Int)]→j<k→x.on=o→o<b.length→x.set.getLsbD o=true→(nd b o).op=9→(∀n:Nat,(dc ss j).getLsbD n=true→x.set.getLsbD n=true∨(n:Int)=(nd b o).x)→(∀n:Nat,Us b ss k n↔(Us b ss j n∧(n:Int)≠(nd b o).x)∨n=o)→qE l b ss k x
  |k (o j:Nat):x.av=6→x.e=0→x.fr=[(j:Int)]→j<k→x.on=o→o<b.length→x.set.getLsbD o=true→(nd b o).op=10→(∀n:Nat,(dc ss j).getLsbD n=true→(lz l b x.set (nd b o).i).getLsbD n=true∨(n:Int)=(nd b o).x)→(∀n:Nat,Us b ss k n↔(∃m,Us b ss j m∧(m:Int)≠(nd b o).x∧fz b x.set (nd b o).i m=n)∨n=o)→qE l b ss k x
  |d (j:Nat):x.av=7→x.e=0→(l=1∨l=5)→x.fr=[(j:Int)]→j<k→(0≤x.on∧x.on<4)→(∀n:Nat,(dc ss j).getLsbD n=true→(lz l b x.set x.on).getLsbD n=true)→(∀n:Nat,Us b ss k n↔∃m,Us b ss j m∧fz b x.set x.on m=n)→qE l b ss k x
theorem CN (hb:aY b) {k:Nat} (hk:k<ss.length) (h:ej l b ss k ss[k]):qE l b ss k ss[k]:=by
 obtain ⟨x,hx⟩:∃x,x=ss[k]:=⟨_,rfl⟩
 have hu:=CC (b:=b) hk
 rw [←hx] at h hu⊢
 have hlen:=hb.len
 have hbw:∀{i:Int} {n:Nat},0≤i→i<64→((bW i).getLsbD n=true↔(n:Int)=i):=fun h1 h2=>od ⟨h1,h2⟩
 have hp0:∀{j:Nat} {fs:List Int},j<k→x.fr=(j:Int)::fs→(eQ b ss k).getD (x.fr.getD 0 0).toNat 0#64=oQ b ss j:=fun hj e=>by
  rw [e];exact mu hj (Nat.le_of_lt hk)
 have hp1:∀{j i:Nat},i<k→x.fr=[(j:Int),(i:Int)]→(eQ b ss k).getD (x.fr.getD 1 0).toNat 0#64=oQ b ss i:=fun hj e=>by
  rw [e];exact mu hj (Nat.le_of_lt hk)
 rcases h.2 with ⟨h1,h2,h3⟩|⟨h1,h2,h3,h4⟩|⟨h1,h2,h3,h4⟩|⟨h1,h2,h3,h4,h5⟩|⟨h1,h2,h3,h4,h5⟩|⟨h1,h2,h3,h4⟩|⟨h1,h2,h3,h4,h5⟩
 ·unfold jK at hu
  rw [if_pos h1] at hu
  rcases h3 with ⟨h3,h4⟩|⟨h3,h4,h5,h6⟩
  ·obtain ⟨o,e1,e2,e3,e4⟩:=h3.nat hb
   rw [if_pos e4] at hu
   rw [e1] at e4
   exact .Ch o h1 h2 e1 e2 e3 e4 (fun n=>by unfold Us;rw [hu,e1,hbw (by omega) (by omega)];omega)
  obtain ⟨o,e1,e2,e3⟩:=fP.1 h3
  obtain ⟨e,f1,f2,f3⟩:=fP.1 h5
  have ho:o<b.length:=by omega
  obtain ⟨j,g1,g2,g3⟩:=vy (b:=b) (i:=x.on) (by omega)
  have hje:j=e:=by omega
  subst hje
  by_cases h2':(nd b x.on).op=2
  ·rw [if_pos h2'] at hu
   rw [e1] at h2'
   exact .Ch o h1 h2 e1 ho e3 h2' (fun n=>by unfold Us;rw [hu,e1,hbw (by omega) (by omega)];omega)
  rw [if_neg h2'] at hu
  rw [e1] at h2' g3 g1
  refine .neg o j h1 h2 e1 ho e3 h2' f1 g2 f3 g1 (by rw [g3];rfl) (fun n=>?_)
  unfold Us
  rw [hu,cR,e1,f1,hbw (by omega) (by omega),hbw (by omega) (by omega)];omega
 ·obtain ⟨o,e1,e2,e3,e4⟩:=h3.nat hb
  obtain ⟨j,f1,f2,f3⟩:=h4.one
  rw [e1] at e4 f3
  have hx1:=hb.x e2 (by omega)
  have hy1:=hb.y e2 (by omega)
  unfold jK at hu
  rw [if_neg (by omega),if_neg (by omega),if_neg (by omega),if_pos h1,hp0 f2 f1,e1] at hu
  refine .and o j h1 h2 f1 f2 e1 e2 e3 e4 (fun n hn=>?_) (fun n=>?_)
  ·have:=f3 n hn
   rw [cR,cR,hbw (by omega) (by omega),hbw (by omega) (by omega)] at this
   rcases this with (h|h)|h
   ·exact .inl h
   ·exact .inr (.inl h)
   exact .inr (.inr h)
  unfold Us
  rw [hu,cR,gv,cR,hbw (by omega) (by omega),hbw (by omega) (by omega),hbw (by omega) (by omega),not_or]
  exact or_congr Iff.rfl (by omega)
 ·obtain ⟨o,e1,e2,e3,e4⟩:=h3.nat hb
  obtain ⟨j,i,f1,f2,f3,f4,f5⟩:=h4.two
  rw [e1] at e4 f4 f5
  have hx1:=hb.x e2 (by omega)
  have hy1:=hb.y e2 (by omega)
  unfold jK at hu
  rw [if_neg (by omega),if_neg (by omega),if_neg (by omega),if_neg (by omega),if_pos h1,hp0 f2 f1,hp1 f3 f1,e1] at hu
  refine .or o j i h1 h2 f1 f2 f3 e1 e2 e3 e4 (fun n hn=>?_) (fun n hn=>?_) (fun n=>?_)
  ·have:=f4 n hn
   rwa [cR,hbw (by omega) (by omega)] at this
  ·have:=f5 n hn
   rwa [cR,hbw (by omega) (by omega)] at this
  unfold Us
  rw [hu,cR,cR,gv,gv,hbw (by omega) (by omega),hbw (by omega) (by omega),hbw (by omega) (by omega),or_assoc]
  exact or_congr Iff.rfl (or_congr Iff.rfl (by omega))
 ·obtain ⟨j,i,f1,f2,f3,f4,f5⟩:=h5.two
  obtain ⟨e,g1,g2,g3⟩:=vy (b:=b) (i:=x.on) (by omega)
  obtain ⟨o,e1⟩:∃o:Nat,x.on=o:=⟨x.on.toNat,by omega⟩
  have ee:x.e=e:=by omega
  rw [e1] at h2 h4 f4 g1 g3
  rw [ee] at f5
  unfold jK at hu
  rw [if_neg (by omega),if_pos h1,hp0 f2 f1,hp1 f3 f1,e1,ee] at hu
  refine .cut o e j i h1 f1 f2 f3 e1 (by omega) ee g2 g1 (by rw [g3];rfl) (fun n hn=>?_) (fun n hn=>?_) (fun n=>?_)
  ·have:=f4 n hn
   rw [cR,hbw (by omega) (by omega)] at this
   exact this.imp id (fun h=>by omega)
  ·have:=f5 n hn
   rw [cR,hbw (by omega) (by omega)] at this
   exact this.imp id (fun h=>by omega)
  unfold Us
  rw [hu,cR,gv,gv,hbw (by omega) (by omega),hbw (by omega) (by omega)]
  exact or_congr (and_congr Iff.rfl (by omega)) (and_congr Iff.rfl (by omega))
 ·obtain ⟨o,e1,e2,e3,e4⟩:=h4.nat hb
  obtain ⟨j,f1,f2,f3⟩:=h5.one
  rw [e1] at e4 f3
  have hx1:=hb.x e2 (by omega)
  unfold jK at hu
  rw [if_neg (by omega),if_neg (by omega),if_neg (by omega),if_neg (by omega),if_neg (by omega),if_pos h1,hp0 f2 f1,e1] at hu
  refine .t o j h1 h2 h3 f1 f2 e1 e2 e3 e4 (fun n hn=>?_) (fun n=>?_)
  ·have:=f3 n hn
   rwa [cR,hbw (by omega) (by omega)] at this
  unfold Us
  rw [hu,cR,gv,hbw (by omega) (by omega),hbw (by omega) (by omega)]
  exact or_congr Iff.rfl (by omega)
 ·obtain ⟨o,e1,e2,e3,e4⟩:=h3.nat hb
  obtain ⟨j,f1,f2,f3⟩:=h4.one
  rw [e1] at e4 f3
  have hx1:=hb.x e2 (by omega)
  unfold jK at hu
  rw [if_neg (by omega),if_neg (by omega),if_neg (by omega),if_neg (by omega),if_neg (by omega),if_neg (by omega),hp0 f2 f1,e1] at hu
  refine .k o j h1 h2 f1 f2 e1 e2 e3 e4 (fun n hn=>?_) (fun n=>?_)
  ·have:=f3 n hn
   rw [cR,hbw (by omega) (by omega)] at this
   exact this.symm
  unfold Us
  rw [hu,cR,sJ hlen,hbw (by omega) (by omega)]
  refine or_congr (exists_congr fun m=>?_) (by omega)
  rw [gv,hbw (by omega) (by omega)]
  exact and_assoc
 obtain ⟨j,f1,f2,f3⟩:=h5.one
 unfold jK at hu
 rw [if_neg (by omega),if_neg (by omega),if_pos h1,hp0 f2 f1] at hu
 refine .d j h1 h2 h3 f1 f2 h4 f3 (fun n=>?_)
 unfold Us
 rw [hu,sJ hlen]
theorem eJ {j:Nat} (hj:j<ss.length):dc ss j=ss[j].set:=by simp [dc,List.getD_eq_getElem?_getD,hj]
structure iA (l:Int) (b:List NV) (ss:List SD):Prop where
  log:0≤l∧l≤6
  base:aY b
  pos:0<ss.length
  len:ss.length≤4096
  lQ:∀(k:Nat) (hk:k<ss.length),ej l b ss k ss[k]
theorem kX:qu l b ss=0↔iA l b ss:=by
 rw [xU]
 exact ⟨fun ⟨h1,⟨h2,h3,h4⟩,⟨h5,h6⟩,h7⟩=>⟨h1,⟨h2,h3,h4⟩,h5,h6,h7⟩,fun h=>⟨h.log,⟨h.base.iY,h.base.len,h.base.B7⟩,⟨h.pos,h.len⟩,h.lQ⟩⟩
theorem iA.ER (h:iA l b ss) {k:Nat} (hk:k<ss.length):qE l b ss k ss[k]:=CN h.base hk (h.lQ k hk)
theorem xM (hb:aY b) {s:ax} {ag:Int} {n:Nat} (hn:(lz l b s ag).getLsbD n=true):s.getLsbD (fz b s ag n)=true:=by
 rcases fy (b:=b) (s:=s) (ag:=ag) (n:=n) with ⟨i,h1,h2,h3,_⟩|⟨h1,h2⟩
 ·rw [h1];exact h3
 rw [h1]
 obtain ⟨i,g1,g2,g3,g4⟩:=(j9 hb).1 hn
 rcases g4 with ⟨g4,g5⟩|⟨g4,g5⟩
 ·exact absurd g5 (h2 i g1 g2 g4 g3)
 rw [g4];exact g2
theorem iA.sub (h:iA l b ss):∀(k:Nat) (hk:k<ss.length) (n:Nat),Us b ss k n→ss[k].set.getLsbD n=true:=by
 intro k
 induction k using Nat.strongRecOn with
 |_ k ih=>
 intro hk n hn
 have ihS:∀(j:Nat),j<k→∀m,Us b ss j m→(dc ss j).getLsbD m=true:=fun j hj m hm=>by
  rw [eJ (by omega)];exact ih j hj (by omega) m hm
 cases h.ER hk with
 |Ch o h1 h2 h3 h4 h5 h6 h7=>rw [(h7 n).1 hn];exact h5
 |neg o e h1 h2 h3 h4 h5 h6 h7 h8 h9 h10 h11 h12=>
  rcases (h12 n).1 hn with e|e
  ·rw [e];exact h5
  rw [e];exact h9
 |and o j h1 h2 h3 h4 h5 h6 h7 h8 h9 h10=>
  rcases (h10 n).1 hn with ⟨e1,e2,e3⟩|e
  ·rcases h9 n (ihS j h4 n e1) with g|g|g
   ·exact g
   ·exact absurd g e2
   ·exact absurd g e3
  rw [e];exact h7
 |or o j i h1 h2 h3 h4 h5 h6 h7 h8 h9 h10 h11 h12=>
  rcases (h12 n).1 hn with ⟨e1,e2⟩|⟨e1,e2⟩|e
  ·exact (h10 n (ihS j h4 n e1)).resolve_right e2
  ·exact (h11 n (ihS i h5 n e1)).resolve_right e2
  rw [e];exact h8
 |cut o e j i h1 h2 h3 h4 h5 h6 h7 h8 h9 h10 h11 h12 h13=>
  rcases (h13 n).1 hn with ⟨e1,e2⟩|⟨e1,e2⟩
  ·exact (h11 n (ihS j h3 n e1)).resolve_right e2
  exact (h12 n (ihS i h4 n e1)).resolve_right e2
 |t o j h1 h2 h3 h4 h5 h6 h7 h8 h9 h10 h11=>
  rcases (h11 n).1 hn with ⟨e1,e2⟩|e
  ·exact (h10 n (ihS j h5 n e1)).resolve_right e2
  rw [e];exact h8
 |k o j h1 h2 h3 h4 h5 h6 h7 h8 h9 h10=>
  rcases (h10 n).1 hn with ⟨m,e1,e2,e3⟩|e
  ·rw [←e3]
   exact xM h.base ((h9 m (ihS j h4 m e1)).resolve_right e2)
  rw [e];exact h7
 |d j h1 h2 h3 h4 h5 h6 h7 h8=>
  obtain ⟨m,e1,e2⟩:=(h8 n).1 hn
  rw [←e2]
  exact xM h.base (h7 m (ihS j h5 m e1))
theorem oR:(dz b ss).length=bJ (dO ss) ss.length:=kV (Nat.le_refl _)
theorem rB {k:Nat} (hk:k<ss.length) (hn:dO ss k=true):∃hc:bJ (dO ss) k<(dz b ss).length,(dz b ss)[bJ (dO ss) k]=gD b ss k ss[k]:=by
 have:=u9 (b:=b) hn (Nat.le_refl _) hk hk
 exact List.getElem?_eq_some_iff.1 this
theorem ub {q:Nat} (hq:q<(dz b ss).length):∃(k:Nat) (hk:k<ss.length),dO ss k=true∧bJ (dO ss) k=q∧(dz b ss)[q]=gD b ss k ss[k]:=by
 rw [oR] at hq
 obtain ⟨k,h1,h2,h3⟩:=DU hq
 subst h3
 exact ⟨k,h1,h2,rfl,(rB h1 h2).2⟩
theorem rD {k:Nat} (hk:k<ss.length) (hn:dO ss k=true):dc (dz b ss) (bJ (dO ss) k:Nat)=oQ b ss k:=by
 obtain ⟨h1,h2⟩:=rB (b:=b) hk hn
 rw [eJ h1,h2];rfl
theorem iA.pre (h:iA l b ss) {k j:Nat} (hk:k<ss.length) (hn:dO ss k=true) (hj:(j:Int)∈ss[k].fr):dO ss j=true∧j<k∧bJ (dO ss) j<bJ (dO ss) k:=by
 have h1:dO ss j=true:=ic.2 (.fr hk (ic.1 hn) hj)
 have h2:=(h.lQ k hk).mZ hj
 exact ⟨h1,by omega,BB (by omega) h1⟩
theorem zo (hb:aY b) {s u:ax} {ag:Int} {n:Nat} (hn:(lz l b s ag).getLsbD n=true) (hu:u.getLsbD (fz b s ag n)=true):(lz l b u ag).getLsbD n=true:=by
 rw [j9 hb]
 rcases fy (b:=b) (s:=s) (ag:=ag) (n:=n) with ⟨j,g1,g2,g3,g4,g5,g6,g7⟩|⟨g1,g2⟩
 ·rw [g1] at hu;exact ⟨j,g2,hu,g5,.inl ⟨g4,g6⟩⟩
 rw [g1] at hu
 obtain ⟨i,k1,k2,k3,k4⟩:=(j9 hb).1 hn
 rcases k4 with ⟨k4,k5⟩|⟨k4,k5⟩
 ·exact absurd k5 (g2 i k1 k2 k4 k3)
 subst k4;exact ⟨n,k1,hu,k3,.inr ⟨rfl,k5⟩⟩
theorem iA.CH (h:iA l b ss) {k:Nat} (hk:k<ss.length) (hn:dO ss k=true):ej l b (dz b ss) (bJ (dO ss) k) (gD b ss k ss[k]):=by
 have hb:=h.base
 have hlen:=hb.len
 have hbw:∀{i:Int} {n:Nat},0≤i→i<64→((bW i).getLsbD n=true↔(n:Int)=i):=fun h1 h2=>od ⟨h1,h2⟩
 have hsub:=h.sub k hk
 have hsb:∀(j:Nat),(j:Int)∈ss[k].fr→∀m,Us b ss j m→(dc ss j).getLsbD m=true:=fun j hj m hm=>by
  have:=(h.pre hk hn hj).2.1
  rw [eJ (by omega)];exact h.sub j (by omega) m hm
 have hset:∀(j:Nat),(j:Int)∈ss[k].fr→dc (dz b ss) (bJ (dO ss) j:Nat)=oQ b ss j:=fun j hj=>
  rD (by have:=(h.pre hk hn hj).2.1;omega) (h.pre hk hn hj).1
 refine ⟨fun n hn=>(h.lQ k hk).1 n (hsub n hn),?_⟩
 have hin:∀{o:Nat},Us b ss k o→eT (gD b ss k ss[k]).set o=true:=fun h=>pP.2 h
 cases h.ER hk with
 |Ch o h1 h2 h3 h4 h5 h6 h7=>
  have e0:(nd b ss[k].on).op=2:=by rw [h3];exact h6
  refine .inl ⟨h1,by simp [gD,h2],.inl ⟨⟨by show ss[k].on<_;omega,by show eT _ ss[k].on=true;rw [h3];exact hin ((h7 o).2 rfl),e0⟩,?_⟩⟩
  show (if _ then _ else _)=_
  rw [if_pos ⟨h1,e0⟩]
 |neg o e h1 h2 h3 h4 h5 h6 h7 h8 h9 h10 h11 h12=>
  have e0:¬(nd b ss[k].on).op=2:=by rw [h3];exact h6
  have ee:(gD b ss k ss[k]).e=e:=by
   show (if _ then _ else _)=_
   rw [if_neg (fun h=>e0 h.2)];exact h7
  have eo:(gD b ss k ss[k]).on=o:=h3
  refine .inl ⟨h1,by simp [gD,h2],.inr ⟨?_,?_,?_,?_⟩⟩
  ·rw [eo];exact hin ((h12 o).2 (.inl rfl))
  ·rw [eo];omega
  ·rw [ee];exact hin ((h12 e).2 (.inr rfl))
  rw [eo,ee];exact h10
 |and o j h1 h2 h3 h4 h5 h6 h7 h8 h9 h10=>
  have hm:(j:Int)∈ss[k].fr:=by rw [h3];exact List.mem_singleton.2 rfl
  have ee:(gD b ss k ss[k]).e=0:=by show (if _ then _ else _)=_;rw [if_neg (by omega)];exact h2
  have eo:(gD b ss k ss[k]).on=o:=h5
  have ef:(gD b ss k ss[k]).fr=[((bJ (dO ss) j:Nat):Int)]:=by simp [gD,h3]
  have hx1:=hb.x h6 (by omega)
  have hy1:=hb.y h6 (by omega)
  refine .inr (.inl ⟨h1,ee,⟨by rw [eo];omega,by rw [eo];exact hin ((h10 o).2 (.inr rfl)),by rw [eo];exact h8⟩,?_⟩)
  rw [ef,eo]
  refine eE.Fh (h.pre hk hn hm).2.2 (fun n hn=>?_)
  rw [hset j hm] at hn
  rw [cR,cR,hbw (by omega) (by omega),hbw (by omega) (by omega)]
  by_cases c1:(n:Int)=(nd b o).x
  ·exact .inl (.inr c1)
  by_cases c2:(n:Int)=(nd b o).y
  ·exact .inr c2
  exact .inl (.inl ((h10 n).2 (.inl ⟨hn,c1,c2⟩)))
 |or o j i h1 h2 h3 h4 h5 h6 h7 h8 h9 h10 h11 h12=>
  have hm:(j:Int)∈ss[k].fr:=by rw [h3];simp
  have hm2:(i:Int)∈ss[k].fr:=by rw [h3];simp
  have ee:(gD b ss k ss[k]).e=0:=by show (if _ then _ else _)=_;rw [if_neg (by omega)];exact h2
  have eo:(gD b ss k ss[k]).on=o:=h6
  have ef:(gD b ss k ss[k]).fr=[((bJ (dO ss) j:Nat):Int),((bJ (dO ss) i:Nat):Int)]:=by simp [gD,h3]
  have hx1:=hb.x h7 (by omega)
  have hy1:=hb.y h7 (by omega)
  refine .inr (.inr (.inl ⟨h1,ee,⟨by rw [eo];omega,by rw [eo];exact hin ((h12 o).2 (.inr (.inr rfl))),by rw [eo];exact h9⟩,?_⟩))
  rw [ef,eo]
  refine eE.HJ (h.pre hk hn hm).2.2 (h.pre hk hn hm2).2.2 (fun n hn=>?_) (fun n hn=>?_)
  ·rw [hset j hm] at hn
   rw [cR,hbw (by omega) (by omega)]
   by_cases c1:(n:Int)=(nd b o).x
   ·exact .inr c1
   exact .inl ((h12 n).2 (.inl ⟨hn,c1⟩))
  rw [hset i hm2] at hn
  rw [cR,hbw (by omega) (by omega)]
  by_cases c1:(n:Int)=(nd b o).y
  ·exact .inr c1
  exact .inl ((h12 n).2 (.inr (.inl ⟨hn,c1⟩)))
 |cut o e j i h1 h2 h3 h4 h5 h6 h7 h8 h9 h10 h11 h12 h13=>
  have hm:(j:Int)∈ss[k].fr:=by rw [h2];simp
  have hm2:(i:Int)∈ss[k].fr:=by rw [h2];simp
  have ee:(gD b ss k ss[k]).e=e:=by show (if _ then _ else _)=_;rw [if_neg (by omega)];exact h7
  have eo:(gD b ss k ss[k]).on=o:=h5
  have ef:(gD b ss k ss[k]).fr=[((bJ (dO ss) j:Nat):Int),((bJ (dO ss) i:Nat):Int)]:=by simp [gD,h2]
  refine .inr (.inr (.inr (.inl ⟨h1,by rw [eo];omega,by rw [ee];omega,by rw [eo,ee];exact h9,?_⟩)))
  rw [ef,eo,ee]
  refine eE.HJ (h.pre hk hn hm).2.2 (h.pre hk hn hm2).2.2 (fun n hn=>?_) (fun n hn=>?_)
  ·rw [hset j hm] at hn
   rw [cR,hbw (by omega) (by omega)]
   by_cases c1:n=o
   ·exact .inr (by omega)
   exact .inl ((h13 n).2 (.inl ⟨hn,c1⟩))
  rw [hset i hm2] at hn
  rw [cR,hbw (by omega) (by omega)]
  by_cases c1:n=e
  ·exact .inr (by omega)
  exact .inl ((h13 n).2 (.inr ⟨hn,c1⟩))
 |t o j h1 h2 h3 h4 h5 h6 h7 h8 h9 h10 h11=>
  have hm:(j:Int)∈ss[k].fr:=by rw [h4];exact List.mem_singleton.2 rfl
  have ee:(gD b ss k ss[k]).e=0:=by show (if _ then _ else _)=_;rw [if_neg (by omega)];exact h2
  have eo:(gD b ss k ss[k]).on=o:=h6
  have ef:(gD b ss k ss[k]).fr=[((bJ (dO ss) j:Nat):Int)]:=by simp [gD,h4]
  have hx1:=hb.x h7 (by omega)
  refine .inr (.inr (.inr (.inr (.inl ⟨h1,ee,h3,⟨by rw [eo];omega,by rw [eo];exact hin ((h11 o).2 (.inr rfl)),by rw [eo];exact h9⟩,?_⟩))))
  rw [ef,eo]
  refine eE.Fh (h.pre hk hn hm).2.2 (fun n hn=>?_)
  rw [hset j hm] at hn
  rw [cR,hbw (by omega) (by omega)]
  by_cases c1:(n:Int)=(nd b o).x
  ·exact .inr c1
  exact .inl ((h11 n).2 (.inl ⟨hn,c1⟩))
 |k o j h1 h2 h3 h4 h5 h6 h7 h8 h9 h10=>
  have hm:(j:Int)∈ss[k].fr:=by rw [h3];exact List.mem_singleton.2 rfl
  have ee:(gD b ss k ss[k]).e=0:=by show (if _ then _ else _)=_;rw [if_neg (by omega)];exact h2
  have eo:(gD b ss k ss[k]).on=o:=h5
  have ef:(gD b ss k ss[k]).fr=[((bJ (dO ss) j:Nat):Int)]:=by simp [gD,h3]
  have hx1:=hb.x h6 (by omega)
  refine .inr (.inr (.inr (.inr (.inr (.inl ⟨h1,ee,⟨by rw [eo];omega,by rw [eo];exact hin ((h10 o).2 (.inr rfl)),by rw [eo];exact h8⟩,?_⟩)))))
  rw [ef,eo]
  refine eE.Fh (h.pre hk hn hm).2.2 (fun n hn=>?_)
  rw [hset j hm] at hn
  rw [cR,hbw (by omega) (by omega)]
  by_cases c1:(n:Int)=(nd b o).x
  ·exact .inl c1
  exact .inr (zo hb ((h9 n (hsb j hm n hn)).resolve_right c1) ((h10 _).2 (.inl ⟨n,hn,c1,rfl⟩)))
 |d j h1 h2 h3 h4 h5 h6 h7 h8=>
  have hm:(j:Int)∈ss[k].fr:=by rw [h4];exact List.mem_singleton.2 rfl
  have ee:(gD b ss k ss[k]).e=0:=by show (if _ then _ else _)=_;rw [if_neg (by omega)];exact h2
  have ef:(gD b ss k ss[k]).fr=[((bJ (dO ss) j:Nat):Int)]:=by simp [gD,h4]
  refine .inr (.inr (.inr (.inr (.inr (.inr ⟨h1,ee,h3,h6,?_⟩)))))
  rw [ef]
  refine eE.Fh (h.pre hk hn hm).2.2 (fun n hn=>?_)
  rw [hset j hm] at hn
  exact zo hb (h7 n (hsb j hm n hn)) ((h8 _).2 ⟨n,hn,rfl⟩)
theorem iA.tr (h:iA l b ss):iA l b (dz b ss):=by
 have hlast:dO ss (ss.length - 1)=true:=ic.2 (.last (by have:=h.pos;omega))
 refine ⟨h.log,h.base,?_,?_,fun q hq=>?_⟩
 ·obtain ⟨h1,_⟩:=rB (b:=b) (k:=ss.length - 1) (by have:=h.pos;omega) hlast
  omega
 ·rw [oR];have:=sd (p:=dO ss) (k:=ss.length);have:=h.len;omega
 obtain ⟨k,hk,h1,h2,h3⟩:=ub hq
 rw [h3,←h2];exact h.CH hk h1
end
end Go.Proofs.Wit
namespace Go.Proofs.Wit
open Go Go.RowKit
section
variable {l:Int} {b:List NV} {ss:List SD}
theorem iA.Ad (h:iA l b ss):∃(h1:(dz b ss).length - 1<(dz b ss).length) (h2:ss.length - 1<ss.length),(dz b ss)[(dz b ss).length - 1]=gD b ss (ss.length - 1) ss[ss.length - 1]∧dO ss (ss.length - 1)=true:=by
 have hp:=h.pos
 have hlast:dO ss (ss.length - 1)=true:=ic.2 (.last (by omega))
 have hl:ss.length - 1<ss.length:=by omega
 obtain ⟨h1,h2⟩:=rB (b:=b) hl hlast
 have e:(dz b ss).length=bJ (dO ss) (ss.length - 1)+1:=by
  rw [oR]
  conv=>lhs;rw [show ss.length=(ss.length - 1)+1 by omega]
  rw [gY,if_pos hlast]
 refine ⟨by omega,hl,?_,hlast⟩
 rw [←h2];congr 1;omega
def sA:Tr→Bool
 |.leaf op _ _ _=>op==1
 |.un op _ _ _ a=>if op=4 then !sA a else sA a
 |.bin op _ _ _ a c=>if op=5 then sA a && sA c else sA a||sA c
theorem oY:∀{t:Tr},mr t→t.ok→sA (aN t).2=!sA t
 |.leaf op i e g,h,hok=>by
  have h1:op≤3:=h
  have h2:=hok.1.1
  rw [aN];dsimp only
  rcases (by omega:op=1∨op=2∨op=3) with rfl|rfl|rfl
  ·rfl
  ·rfl
  rfl
 |.un op i e g a,h,hok=>by
  rcases h with ⟨rfl,j,e',g',rfl⟩|⟨h1,h2⟩
  ·rfl
  have ih:=oY h2 hok.2.2.2.2
  rcases h1 with rfl|rfl
  ·rw [aN,if_neg (by decide),if_pos rfl];exact ih
  rw [aN,if_neg (by decide),if_neg (by decide),if_pos rfl];exact ih
 |.bin op i e g a c,h,hok=>by
  have iha:=oY h.2.1 hok.2.2.2.1
  have ihc:=oY h.2.2 hok.2.2.2.2
  rcases h.1 with rfl|rfl
  ·rw [aN,if_pos rfl]
   show (if (6:Int)=5 then _ else _)=!(if (5:Int)=5 then _ else _)
   rw [if_neg (by decide),if_pos rfl,iha,ihc]
   cases sA a<;>cases sA c<;>rfl
  rw [aN,if_neg (by decide),if_pos rfl]
  show (if (5:Int)=5 then _ else _)=!(if (6:Int)=5 then _ else _)
  rw [if_pos rfl,if_neg (by decide),iha,ihc]
  cases sA a<;>cases sA c<;>rfl
theorem aY.node (h:aY b) {i:Nat} (hi:i<b.length):((nd b i).op≤3∧aa b i=.leaf (nd b i).op (nd b i).i (nd b i).e (nd b i).g)∨(((nd b i).op=4∨(nd b i).op=9∨(nd b i).op=10)∧aa b i=.un (nd b i).op (nd b i).i (nd b i).e (nd b i).g (aa b (nd b i).x.toNat))∨(((nd b i).op=5∨(nd b i).op=6)∧aa b i=.bin (nd b i).op (nd b i).i (nd b i).e (nd b i).g (aa b (nd b i).x.toNat) (aa b (nd b i).y.toNat)):=by
 rw [dI hi]
 have hO:=(aA.1 h.iY).nodes
 have hn:=h.B7 _ (List.getElem_mem hi)
 unfold ew at hn
 have hX:cF b[i].op=true↔4≤b[i].op:=by
  unfold cF;simp;omega
 have hY:cm b[i].op=true↔b[i].op=5∨b[i].op=6:=by
  unfold cm;simp;omega
 rcases dE hi hO with ⟨h1,h2⟩|⟨h1,h2,h3⟩|⟨h1,h2⟩
 ·refine .inl ⟨?_,h2⟩
  have:¬4≤b[i].op:=fun e=>by rw [hX.2 e] at h1;cases h1
  omega
 ·refine .inr (.inl ⟨?_,h3⟩)
  have:=hX.1 h1
  have:¬(b[i].op=5∨b[i].op=6):=fun e=>by rw [hY.2 e] at h2;cases h2
  omega
 exact .inr (.inr ⟨hY.1 h1,h2⟩)
theorem aY.ok (h:aY b) {i:Nat} (hi:i<b.length):(aa b i).ok:=(aA.1 h.iY).nodes.tree i hi
theorem aY.nf (h:aY b):∀(i:Nat),i<b.length→mr (aa b i):=by
 intro i
 induction i using Nat.strongRecOn with
 |_ i ih=>
 intro hi
 rcases h.node hi with ⟨h1,h2⟩|⟨h1,h2⟩|⟨h1,h2⟩
 ·rw [h2];exact h1
 ·have hx:=h.x hi (by omega)
  rw [h2]
  by_cases h4:(nd b i).op=4
  ·have hn:=h.B7 _ (List.getElem_mem hi)
   unfold ew at hn
   rw [←dI hi] at hn
   have h3:(nd b (nd b i).x).op=3:=by omega
   obtain ⟨k,hk⟩:∃k:Nat,(nd b i).x=k:=⟨(nd b i).x.toNat,by omega⟩
   rw [hk] at h3⊢
   have hkl:k<b.length:=by omega
   rcases h.node hkl with ⟨g1,g2⟩|⟨g1,g2⟩|⟨g1,g2⟩
   ·rw [Int.toNat_natCast,g2,h3]
    exact .inl ⟨h4,_,_,_,rfl⟩
   ·omega
   omega
  exact .inr ⟨by omega,ih _ (by omega) (by omega)⟩
 have hx:=h.x hi (by omega)
 have hy:=h.y hi h1
 rw [h2]
 exact ⟨h1,ih _ (by omega) (by omega),ih _ (by omega) (by omega)⟩
theorem aY.fit (h:aY b) {i:Nat} (hi:i<b.length):Fit (aE (aa b i))∧Fit (aa b i):=by
 have h1:=oc (aA.1 h.iY).nodes.ord hi
 have h2:=h.len
 have h3:(bS (aE (aa b i))).length=(bS (aa b i)).length+1:=sg
 unfold Fit;omega
theorem aY.y6 (h:aY b) {i:Nat} (hi:i<b.length):sA (eR (aa b i))=!sA (aa b i):=by
 rw [pB (h.fit hi).1];exact oY (h.nf i hi) (h.ok hi)
theorem iA.yW (h:iA l b ss):∀(k:Nat),k<ss.length→∃n,Us b ss k n∧sA (aa b n)=false:=by
 have hb:=h.base
 intro k
 induction k using Nat.strongRecOn with
 |_ k ih=>
 intro hk
 have hsrc:∀{j:Nat} {s:ax} {ag:Int} {m:Nat},j<ss.length→Us b ss j m→sA (aa b m)=false→sA (aa b (fz b s ag m))=false:=fun {j s ag m} hj hm he=>by
  rcases fy (b:=b) (s:=s) (ag:=ag) (n:=m) with ⟨i,h1,h2,h3,h4,h5,h6,_⟩|⟨h1,_⟩
  ·rw [h1]
   rcases hb.node h2 with ⟨g1,g2⟩|⟨g1,g2⟩|⟨g1,g2⟩
   ·omega
   ·rw [g2,h6]
    show (if _ then _ else _)=_
    rw [if_neg (by omega)];exact he
   omega
  rw [h1];exact he
 cases h.ER hk with
 |Ch o h1 h2 h3 h4 h5 h6 h7=>
  refine ⟨o,(h7 o).2 rfl,?_⟩
  rcases hb.node h4 with ⟨g1,g2⟩|⟨g1,g2⟩|⟨g1,g2⟩
  ·rw [g2,h6];rfl
  ·omega
  omega
 |neg o e h1 h2 h3 h4 h5 h6 h7 h8 h9 h10 h11 h12=>
  cases hv:sA (aa b o) with
  |false=>exact ⟨o,(h12 o).2 (.inl rfl),hv⟩
  |true=>exact ⟨e,(h12 e).2 (.inr rfl),by rw [h11,hb.y6 h4,hv];rfl⟩
 |and o j h1 h2 h3 h4 h5 h6 h7 h8 h9 h10=>
  obtain ⟨n,hn,hv⟩:=ih j h4 (by omega)
  have hx:=hb.x h6 (by omega)
  have hy:=hb.y h6 (by omega)
  by_cases c1:(n:Int)=(nd b o).x∨(n:Int)=(nd b o).y
  ·refine ⟨o,(h10 o).2 (.inr rfl),?_⟩
   rcases hb.node h6 with ⟨g1,g2⟩|⟨g1,g2⟩|⟨g1,g2⟩
   ·omega
   ·omega
   rw [g2,h8]
   show (if (5:Int)=5 then _ else _)=_
   rw [if_pos rfl]
   rcases c1 with c1|c1
   ·rw [←c1,Int.toNat_natCast,hv];rfl
   rw [←c1,Int.toNat_natCast,hv,Bool.and_false]
  exact ⟨n,(h10 n).2 (.inl ⟨hn,fun e=>c1 (.inl e),fun e=>c1 (.inr e)⟩),hv⟩
 |or o j i h1 h2 h3 h4 h5 h6 h7 h8 h9 h10 h11 h12=>
  obtain ⟨n,hn,hv⟩:=ih j h4 (by omega)
  obtain ⟨m,hm,hw⟩:=ih i h5 (by omega)
  by_cases c1:(n:Int)=(nd b o).x
  ·by_cases c2:(m:Int)=(nd b o).y
   ·refine ⟨o,(h12 o).2 (.inr (.inr rfl)),?_⟩
    rcases hb.node h7 with ⟨g1,g2⟩|⟨g1,g2⟩|⟨g1,g2⟩
    ·omega
    ·omega
    rw [g2,h9]
    show (if (6:Int)=5 then _ else _)=_
    rw [if_neg (by decide),←c1,←c2,Int.toNat_natCast,Int.toNat_natCast,hv,hw];rfl
   ·exact ⟨m,(h12 m).2 (.inr (.inl ⟨hm,c2⟩)),hw⟩
  exact ⟨n,(h12 n).2 (.inl ⟨hn,c1⟩),hv⟩
 |cut o e j i h1 h2 h3 h4 h5 h6 h7 h8 h9 h10 h11 h12 h13=>
  obtain ⟨n,hn,hv⟩:=ih j h3 (by omega)
  obtain ⟨m,hm,hw⟩:=ih i h4 (by omega)
  by_cases c1:n=o
  ·by_cases c2:m=e
   ·subst c1 c2
    rw [h10,hb.y6 h6,hv] at hw;cases hw
   ·exact ⟨m,(h13 m).2 (.inr ⟨hm,c2⟩),hw⟩
  exact ⟨n,(h13 n).2 (.inl ⟨hn,c1⟩),hv⟩
 |t o j h1 h2 h3 h4 h5 h6 h7 h8 h9 h10 h11=>
  obtain ⟨n,hn,hv⟩:=ih j h5 (by omega)
  by_cases c1:(n:Int)=(nd b o).x
  ·refine ⟨o,(h11 o).2 (.inr rfl),?_⟩
   rcases hb.node h7 with ⟨g1,g2⟩|⟨g1,g2⟩|⟨g1,g2⟩
   ·omega
   ·rw [g2,h9,←c1,Int.toNat_natCast]
    show (if (9:Int)=4 then _ else _)=_
    rw [if_neg (by decide)];exact hv
   omega
  exact ⟨n,(h11 n).2 (.inl ⟨hn,c1⟩),hv⟩
 |k o j h1 h2 h3 h4 h5 h6 h7 h8 h9 h10=>
  obtain ⟨n,hn,hv⟩:=ih j h4 (by omega)
  by_cases c1:(n:Int)=(nd b o).x
  ·refine ⟨o,(h10 o).2 (.inr rfl),?_⟩
   rcases hb.node h6 with ⟨g1,g2⟩|⟨g1,g2⟩|⟨g1,g2⟩
   ·omega
   ·rw [g2,h8,←c1,Int.toNat_natCast]
    show (if (10:Int)=4 then _ else _)=_
    rw [if_neg (by decide)];exact hv
   omega
  exact ⟨_,(h10 _).2 (.inl ⟨n,hn,c1,rfl⟩),hsrc (by omega:j<ss.length) hn hv⟩
 |d j h1 h2 h3 h4 h5 h6 h7 h8=>
  obtain ⟨n,hn,hv⟩:=ih j h5 (by omega)
  exact ⟨_,(h8 _).2 ⟨n,hn,rfl⟩,hsrc (by omega:j<ss.length) hn hv⟩
end
end Go.Proofs.Wit
namespace Go.Proofs.Wit
open Go Go.RowKit
/-- not all of a set of nodes -/
def dA (b:List NV) (s:ax):Tr:=aE (kG ((dX s).map (aa b)))
section
variable (T:Tr→Prop)
noncomputable def se (a:Int) (h:Tr):List Tr→List Tr→Nat→Sg→Nat×Sg
 |_,[],r,σ=>(r,σ)
 |ds,t::ts,r,σ=>
  let k:=kW T a t (ct ts h) σ
  let d:=aX T (ct ((ds++[t]).map (ar a)) (ar a (ct ts h))) [r,k.1] k.2
  se a h (ds++[t]) ts d.1 d.2
noncomputable def lR (a:Int) (ts:List Tr) (h:Tr) (line:Nat) (σ:Sg):Nat×Sg:=
 let f:=aX T (ct ts h) [line] σ
 let r:=bQ T (ar a (ct ts h)) 11 f.1 0 a f.2
 se T a h [] ts r.1 r.2
noncomputable def eC (b:List NV) (full:ax) (a:Int):List Nat→Sg→List Nat×Sg
 |[],σ=>([],σ)
 |n::ns,σ=>if fz b full a n=n then ((kN T a (aa b n) σ).1::(eC b full a ns (kN T a (aa b n) σ).2).1,(eC b full a ns (kN T a (aa b n) σ).2).2) else eC b full a ns σ
noncomputable def uy (b:List NV) (goal:Tr) (full:ax) (a:Int) (ns:List Nat) (tg:Nat) (own:List Nat) (isK:Bool) (line:Nat) (σ:Sg):Nat×Sg:=
 let c:=lR T a (ns.map (aa b)) (aE (aa b tg)) line σ
 let d:=eC T b full a own c.2
 let e:=if isK=true then dS T a (aa b tg) d.2 else bQ T (aR (ar a (aa b tg)) (aE (ar a (aE (aa b tg))))) 6 0 0 0 d.2
 aX T goal (c.1::(d.1++[e.1])) e.2
noncomputable def bH (b:List NV) (tl:List SD) (full:ax) (x:SD) (last:List Nat) (σ:Sg):Nat×Sg:=
 let goal:=dA b x.set
 let p0:=last.getD (x.fr.getD 0 0).toNat 0
 let p1:=last.getD (x.fr.getD 1 0).toNat 0
 if x.av=1 then (if (nd b x.on).op=2 then aX T goal [] σ else aX T goal [(aF T false (tA b x.on) σ).1] (aF T false (tA b x.on) σ).2)
 else if x.av=2 then aX T goal [p0] σ
 else if x.av=3 then aX T goal [p0,p1] σ
 else if x.av=4 then aX T goal [(aF T true (tA b x.on) σ).1,p0,p1] (aF T true (tA b x.on) σ).2
 else if x.av=5 then aX T goal [(bQ T (aR (tA b x.on) (tA b (nd b x.on).x)) 3 0 0 0 σ).1,p0] (bQ T (aR (tA b x.on) (tA b (nd b x.on).x)) 3 0 0 0 σ).2
 else if x.av=6 then uy T b goal full (nd b x.on).i (dX (dc tl (x.fr.getD 0 0) &&& ~~~ bW (nd b x.on).x)) (nd b x.on).x.toNat (dX (dc tl (x.fr.getD 0 0) &&& ~~~ bW (nd b x.on).x)) true p0 σ
 else uy T b goal full x.on (dX (dc tl (x.fr.getD 0 0))).dropLast ((dX (dc tl (x.fr.getD 0 0))).getLastD 0) (dX (dc tl (x.fr.getD 0 0))) false p0 σ
noncomputable def aW (b:List NV) (tl:List SD) (fl:List ax):Nat→List Nat×Sg
 |0=>([],⟨[],false⟩)
 |q+1=>match tl[q]? with
  |some x=>((aW b tl fl q).1++[(bH T b tl (fl.getD q 0#64) x (aW b tl fl q).1 (aW b tl fl q).2).1],(bH T b tl (fl.getD q 0#64) x (aW b tl fl q).1 (aW b tl fl q).2).2)
  |none=>aW b tl fl q
end
noncomputable def cP (ss:List SD):Nat→List ax
 |0=>[]
 |k+1=>match ss[k]? with
  |some x=>if dO ss k=true then cP ss k++[x.set] else cP ss k
  |none=>cP ss k
noncomputable def gF (T:Tr→Prop) (b:List NV) (ss:List SD):Nat×Sg:=
 let tl:=dz b ss
 let p:=aW T b tl (cP ss ss.length) tl.length
 let ln:=p.1.getD (tl.length - 1) 0
 if dc tl ((tl.length - 1:Nat):Int)=dc ss ((ss.length - 1:Nat):Int) then (ln,p.2) else aX T (dA b (dc ss ((ss.length - 1:Nat):Int))) [ln] p.2
section
variable {l:Int} {b:List NV} {ss:List SD} {σ:Sg} {T:Tr→Prop}
theorem y5 {v:Tr→Bool}:∀{ts:List Tr},bV v (kG ts)=true↔∀u∈ts,bV v u=true
 |[]=>⟨fun _ _ h=>(by cases h),fun _=>rfl⟩
 |t::ts=>by
  have key:∀(us:List Tr) (a:Tr),bV v (us.foldl (fun a c=>.bin 5 0 0 0 a c) a)=true↔bV v a=true∧∀u∈us,bV v u=true:=by
   intro us
   induction us with
   |nil=>intro a;simp
   |cons u us ih=>
    intro a
    rw [List.foldl_cons,ih,show bV v (.bin 5 0 0 0 a u)=(bV v a && bV v u) from rfl,Bool.and_eq_true]
    simp only [List.mem_cons,forall_eq_or_imp,and_assoc]
  rw [show kG (t::ts)=ts.foldl (fun a c=>.bin 5 0 0 0 a c) t from rfl,key]
  simp
theorem eY {v:Tr→Bool} {s:ax}:bV v (dA b s)=true↔¬∀n,s.getLsbD n=true→bV v (aa b n)=true:=by
 unfold dA
 rw [qC,Bool.not_eq_true']
 constructor
 ·intro h hall
  have:bV v (kG ((dX s).map (aa b)))=true:=y5.2 (fun u hu=>by
   obtain ⟨n,hn,rfl⟩:=List.mem_map.1 hu
   exact hall n (cW.1 hn))
  rw [this] at h;cases h
 intro h
 cases e:bV v (kG ((dX s).map (aa b))) with
 |false=>rfl
 |true=>exact absurd (fun n hn=>y5.1 e _ (List.mem_map_of_mem (cW.2 hn))) h
theorem vO:∀{ts:List Tr},(∀u∈ts,eV u)→eV (kG ts)
 |[],_=>⟨⟨by decide,rfl,by decide⟩,.inl (by decide)⟩
 |t::ts,h=>by
  have key:∀(us:List Tr) (a:Tr),eV a→(∀u∈us,eV u)→eV (us.foldl (fun a c=>.bin 5 0 0 0 a c) a):=by
   intro us
   induction us with
   |nil=>intro a ha _;exact ha
   |cons u us ih=>intro a ha hu;exact ih _ (ha.ad (hu u (List.mem_cons_self ..))) (fun w hw=>hu w (List.mem_cons_of_mem _ hw))
  exact key ts t (h t (List.mem_cons_self ..)) (fun u hu=>h u (List.mem_cons_of_mem _ hu))
theorem aY.fr (h:aY b) {n:Nat} (hn:n<b.length):eV (aa b n):=(h.nf n hn).fr (h.ok hn)
theorem oW (h:aY b) {s:ax} (hs:js b s):eV (dA b s):=(vO (fun u hu=>by
 obtain ⟨n,hn,rfl⟩:=List.mem_map.1 hu
 exact h.fr (hs n (cW.1 hn)))).nt
theorem vR {a:Int} {h:Tr}:∀{ts ds:List Tr} {r:Nat} {σ:Sg},σ.Le (se T a h ds ts r σ).2
 |[],_,_,σ=>Sg.Le.refl σ
 |_t::ts,_ds,_r,_σ=>tv.trans (cX.trans (vR (ts:=ts)))
theorem BE {a:Int} {h:Tr} {ts:List Tr} {n:Nat}:σ.Le (lR T a ts h n σ).2:=cX.trans (da.trans vR)
theorem tN {a:Int} {h:Tr}:∀{ts ds:List Tr} {r:Nat} {σ:Sg},di σ r (ct (ds.map (ar a)) (ar a (ct ts h)))→di (se T a h ds ts r σ).2 (se T a h ds ts r σ).1 (ct ((ds++ts).map (ar a)) (ar a h))
 |[],ds,r,σ,hr=>by rw [List.append_nil];exact hr
 |t::ts,ds,r,σ,_=>by
  rw [show ds++t::ts=(ds++[t])++ts by simp]
  exact tN eB
theorem tM {a:Int} {h:Tr} {ts:List Tr} {n:Nat}:di (lR T a ts h n σ).2 (lR T a ts h n σ).1 (ct (ts.map (ar a)) (ar a h)):=tN (ds:=[]) bM
theorem j8 {full:ax} {a:Int}:∀{ns:List Nat} {σ:Sg},σ.Le (eC T b full a ns σ).2
 |[],σ=>Sg.Le.refl σ
 |n::ns,σ=>by
  rw [eC];split
  ·exact sf.trans j8
  exact j8
theorem nX {full:ax} {a:Int}:∀{ns:List Nat} {σ:Sg} (m:Nat),m∈(eC T b full a ns σ).1→∃n∈ns,fz b full a n=n∧di (eC T b full a ns σ).2 m (aR (aa b n) (ar a (aa b n)))
 |[],σ,m,h=>by cases h
 |n::ns,σ,m,h=>by
  rw [eC] at h⊢
  by_cases e:fz b full a n=n
  ·rw [if_pos e] at h⊢
   rcases List.mem_cons.1 h with rfl|h
   ·exact ⟨n,List.mem_cons_self ..,e,qd.le j8⟩
   obtain ⟨k,h1,h2,h3⟩:=nX m h
   exact ⟨k,List.mem_cons_of_mem _ h1,h2,h3⟩
  rw [if_neg e] at h⊢
  obtain ⟨k,h1,h2,h3⟩:=nX m h
  exact ⟨k,List.mem_cons_of_mem _ h1,h2,h3⟩
theorem nY {full:ax} {a:Int}:∀{ns:List Nat} {σ:Sg} {n:Nat},n∈ns→fz b full a n=n→∃m∈(eC T b full a ns σ).1,di (eC T b full a ns σ).2 m (aR (aa b n) (ar a (aa b n)))
 |[],_,_,h,_=>by cases h
 |k::ns,σ,n,h,he=>by
  rw [eC]
  rcases List.mem_cons.1 h with rfl|h
  ·rw [if_pos he]
   exact ⟨_,List.mem_cons_self ..,qd.le j8⟩
  split
  ·obtain ⟨m,h1,h2⟩:=nY (σ:=(kN T a (aa b k) σ).2) h he
   exact ⟨m,List.mem_cons_of_mem _ h1,h2⟩
  exact nY h he
theorem vD {goal:Tr} {full:ax} {a:Int} {ns:List Nat} {tg:Nat} {own:List Nat} {isK:Bool} {line:Nat}:σ.Le (uy T b goal full a ns tg own isK line σ).2:=by
 have h1:=BE (T:=T) (σ:=σ) (a:=a) (h:=aE (aa b tg)) (ts:=ns.map (aa b)) (n:=line)
 have h2:=j8 (T:=T) (b:=b) (full:=full) (a:=a) (ns:=own) (σ:=(lR T a (ns.map (aa b)) (aE (aa b tg)) line σ).2)
 cases isK with
 |true=>exact (h1.trans h2).trans (jC.trans cX)
 |false=>exact (h1.trans h2).trans (da.trans cX)
theorem sH {tl:List SD} {full:ax} {x:SD} {last:List Nat}:σ.Le (bH T b tl full x last σ).2:=by
 unfold bH
 dsimp only
 repeat' split
 ·exact cX
 ·exact ig.trans cX
 ·exact cX
 ·exact cX
 ·exact ig.trans cX
 ·exact da.trans cX
 ·exact vD
 exact vD
theorem wg {tl:List SD} {full:ax} {x:SD} {last:List Nat}:di (bH T b tl full x last σ).2 (bH T b tl full x last σ).1 (dA b x.set):=by
 unfold bH
 dsimp only
 repeat' split
 all_goals exact eB
def nC (σ:Sg) (n:Nat):Prop:=σ.bad=false→n+1=σ.ls.length
theorem rp {t:Tr} {r g:Int} {a c:Nat}:nC (bQ T t r a c g σ).2 (bQ T t r a c g σ).1:=by
 unfold bQ;split
 ·intro e;cases e
 intro _;simp
theorem qU {g:Tr}:∀{ps:List (Nat×Tr)} {n:Nat} {σ:Sg},nC σ n→nC (lg T g ps n σ).2 (lg T g ps n σ).1
 |[],_,_,h=>h
 |_::ps,_,_,_=>qU (ps:=ps) rp
theorem iW {g:Tr} {fr:List Nat}:nC (aX T g fr σ).2 (aX T g fr σ).1:=by
 unfold aX;split
 ·rename_i h;intro e;rw [h] at e;cases e
 exact qU rp
theorem wL {ei:Bool}:∀{t:Tr},nC (aF T ei t σ).2 (aF T ei t σ).1
 |.leaf op i e g=>by rw [aF];exact iW
 |.un op i e g a=>by
  rw [aF];split
  ·exact iW
  exact iW
 |.bin op i e g a c=>by rw [aF];exact iW
theorem ue {tl:List SD} {full:ax} {x:SD} {last:List Nat}:nC (bH T b tl full x last σ).2 (bH T b tl full x last σ).1:=by
 unfold bH
 dsimp only
 repeat' split
 all_goals exact iW
end
end Go.Proofs.Wit
