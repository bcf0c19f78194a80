/- Laws of walks, for any program, under the conditions that each theorem states. -/
import Derived.Test.YtnfmegcknckahaaGreatDoorXN23
import Derived.Test.YtnfmegcknckahaaGreatDoorXN13
import Derived.Test.YtnfmegcknckahaaGreatDoorXN15
import Derived.Test.YtnfmegcknckahaaGreatDoorXN02
import Derived.Test.YtnfmegcknckahaaGreatDoorXN25
import Derived.Test.YtnfmegcknckahaaGreatDoorXN01
namespace Go.Proofs.Wit
open Go
/-! soundness of Hilbert's proofs -/
structure KM where
  n:Nat
  R:Nat→Nat→Nat→Prop
  V:Nat→Nat→Prop
  lt:∀k w u,w<n→R k w u→u<n
def KM.Gr (M:KM) (g:Nat) (w u:Nat):Prop:=∃k,k<4∧gb g k=1∧M.R k w u
inductive KM.Hv (M:KM) (g:Nat) (c:Nat→Bool):Nat→Nat→Prop
  |one {w u:Nat}:M.Gr g w u→c u=true→KM.Hv M g c w u
  |step {w u v:Nat}:KM.Hv M g c w u→M.Gr g u v→c v=true→KM.Hv M g c w v
section
variable {M:KM}
structure I9 (M:KM) (l:Int):Prop where
  t:cm l 3=true→∀k w,w<M.n→M.R k w w
  f:cm l 4=true→∀k w u v,w<M.n→M.R k w u→M.R k u v→M.R k w v
  v:cm l 5=true→∀k w u v,w<M.n→M.R k w u→M.R k w v→M.R k u v
  d:cm l 6=true→∀k w,w<M.n→∃u,M.R k w u
end
end Go.Proofs.Wit
namespace Go.Proofs.Wit
open Go Go.RowKit
/-! characteristic sets -/
section
variable {n:Nat} {val:List ay} {rel:List (List ay)}
structure II (n:Nat) (val:List ay) (rel:List (List ay)) (f:List NV) (t:Tr):Prop where
  jF:aV f=0
  fit:FL f rel.length val.length=true
  I4:kl (kN (aj f)) 1=0
  can:aj f=bX t
  top:bh f=t
  hold:FE (n:Int) val rel f=0
  ok:t.ok
end
end Go.Proofs.Wit
namespace Go.Proofs.Wit
open Go Go.RowKit
end Go.Proofs.Wit
namespace Go.Proofs.Wit
open Go
structure Jc (n1:Nat) (v1:List ay) (r1:List (List ay)) (n:Nat) (v:List ay) (r:List (List ay)) (e:Nat→Nat):Prop where
  Ii:n≤64
  Ih:n1≤64
  lt:∀x,x<n1→e x<n
  val:∀i x,x<n1→((v.getD i 0#64).getLsbD (e x)=true↔(v1.getD i 0#64).getLsbD x=true)
  fwd:∀i x y,x<n1→Rl (r1.getD i []) x y→Rl (r.getD i []) (e x) (e y)
  bwd:∀i x z,x<n1→Rl (r.getD i []) (e x) z→∃y,y<n1∧z=e y∧Rl (r1.getD i []) x y
  I2:∀i x y,Rl (r1.getD i []) x y→y<n1
section
variable {n1 n:Nat} {v1 v:List ay} {r1 r:List (List ay)} {e:Nat→Nat}
end
end Go.Proofs.Wit
namespace Go.Proofs.Wit
open Go
/-! the union of two models: bisimulations -/
section
variable {na nb:Nat} {va vb:List ay} {ra rb:List (List ay)}
structure I7 (na nb:Nat) (va vb:List ay) (ra rb:List (List ay)):Prop where
  a:Gc (na:Int) va ra
  b:Gc (nb:Int) vb rb
  rl:ra.length=rb.length
  vl:va.length=vb.length
  le:na+nb≤64
end
end Go.Proofs.Wit
namespace Go.Proofs.Wit
open Go Go.RowKit
/-! soundness: the models of the program -/
section
variable {n:Nat} {val:List ay} {rel:List (List ay)}
theorem Bq {op:Int} (ho:1≤op∧op≤21):kl (xq op).toNat 11=0↔op≤11∨op=13:=
 yo (p:=fun op=>kl (xq op).toNat 11=0↔op≤11∨op=13) (by decide) ho
theorem pZ {f:List NV}:gi f=0↔aV f=0∧jS (fun op _ _=>op≤11∨op=13) (bh f):=by
 unfold gi
 by_cases h1:aV f=0
 ·rw [if_neg (by simp [h1]),dt h1,←Bo (aD.1 h1).top Bq]
  constructor
  ·intro h
   refine ⟨h1,Classical.byContradiction (fun h2=>?_)⟩
   rw [if_pos h2] at h;exact absurd h (by decide)
  intro h;rw [if_neg (by simp [h.2])]
 rw [if_pos h1];exact ⟨fun h=>absurd h h1,fun h=>absurd h.1 h1⟩
end
theorem lB {l:Int} {ls:List LV}:gz l ls=0↔(0≤l∧l≤6)∧0<ls.length∧ls.length≤400∧∀(k:Nat) (hk:k<ls.length),dP l ls k ls[k]=0:=by
 have hs:∀{k:Nat},cU l ls k=0→∀hk:k<ls.length,cU l ls (k+1)=dP l ls k ls[k]:=fun {k} h hk=>by
  show (if cU l ls k≠0 then cU l ls k else match ls[k]? with|some x=>dP l ls k x|none=>0)=_
  rw [if_neg (by simp [h]),List.getElem?_eq_getElem hk]
 have hb:∀{k:Nat},cU l ls k≠0→cU l ls (k+1)=cU l ls k:=fun {k} h=>by
  show (if cU l ls k≠0 then cU l ls k else _)=_
  rw [if_pos h]
 have key:∀k,k≤ls.length→(cU l ls k=0↔∀(j:Nat) (hj:j<ls.length),j<k→dP l ls j ls[j]=0):=by
  intro k
  induction k with
  |zero=>exact fun _=>⟨fun _ j _ h=>absurd h (Nat.not_lt_zero _),fun _=>rfl⟩
  |succ k ih=>
   intro hk
   have ih:=ih (by omega)
   constructor
   ·intro h
    have h0:cU l ls k=0:=Classical.byContradiction (fun hne=>hne (by rw [←hb hne];exact h))
    intro j hj hjk
    by_cases e:j=k
    ·subst e;rw [←hs h0 hj];exact h
    exact ih.1 h0 j hj (by omega)
   intro h
   have h0:=ih.2 (fun j hj hjk=>h j hj (by omega))
   rw [hs h0 (by omega)]
   exact h k (by omega) (by omega)
 unfold gz
 by_cases h1:¬(0≤l∧l≤6)
 ·rw [if_pos h1];exact ⟨fun h=>absurd h (by decide),fun h=>absurd h.1 h1⟩
 rw [if_neg h1]
 by_cases h2:ls.length=0
 ·rw [if_pos h2];exact ⟨fun h=>absurd h (by decide),fun h=>absurd h.2.1 (by omega)⟩
 rw [if_neg h2]
 by_cases h3:400<ls.length
 ·rw [if_pos h3];exact ⟨fun h=>absurd h (by decide),fun h=>absurd h.2.2.1 (by omega)⟩
 rw [if_neg h3,key _ (Nat.le_refl _)]
 exact ⟨fun h=>⟨Classical.not_not.1 h1,by omega,by omega,fun k hk=>h k hk hk⟩,fun h j hj _=>h.2.2.2 j hj⟩
end Go.Proofs.Wit
namespace Go.Proofs.Wit
open Go Go.RowKit
/-! proofs without superfluous lines, and joined proofs -/
/-- what a line says -/
structure LD where
  f:List NV
  r:Int
  a:Int
  b:Int
  g:Int
def LV.d (x:LV):LD:=⟨x.f.f,x.r,x.a,x.b,x.g⟩
def LD.v (x:LD):LV:=⟨⟨none,0,x.f⟩,x.r,x.a,x.b,x.g⟩
section
variable {l:Int} {ls ls':List LV}
theorem BA (h:ls.map LV.d=ls'.map LV.d):ls.length=ls'.length:=by have:=congrArg List.length h;simpa using this
theorem D0 (h:ls.map LV.d=ls'.map LV.d) {k:Nat} (hk:k<ls.length) (hk':k<ls'.length):ls[k].d=ls'[k].d:=by
 have h1:(ls.map LV.d)[k]'(by simpa using hk)=(ls'.map LV.d)[k]'(by simpa using hk'):=by simp only [h]
 simpa using h1
theorem A9 (h:ls.map LV.d=ls'.map LV.d) (k:Int):rV ls k=rV ls' k:=by
 have e:ls.map (fun x=>bh x.f.f)=ls'.map (fun x=>bh x.f.f):=by
  have h1:∀l:List LV,l.map (fun x=>bh x.f.f)=(l.map LV.d).map (fun x=>bh x.f):=fun l=>by rw [List.map_map];rfl
  rw [h1,h1,h]
 unfold rV
 rw [e]
theorem zV (h:ls.map LV.d=ls'.map LV.d) {x y:LV} (e:x.d=y.d):jT ls x↔jT ls' y:=by
 obtain ⟨⟨xa,xc,xf⟩,xr,x1,x2,x3⟩:=x
 obtain ⟨⟨ya,yc,yf⟩,yr,y1,y2,y3⟩:=y
 simp only [LV.d,LD.mk.injEq] at e
 obtain ⟨rfl,rfl,rfl,rfl,rfl⟩:=e
 unfold jT
 simp only [A9 h]
theorem wR (h:ls.map LV.d=ls'.map LV.d) {i:Nat} {x y:LV} (e:x.d=y.d):dP l ls i x=dP l ls' i y:=by
 have h2:=zV h e
 have en:iQ i x=iQ i y:=by
  obtain ⟨⟨xa,xc,xf⟩,xr,x1,x2,x3⟩:=x
  obtain ⟨⟨ya,yc,yf⟩,yr,y1,y2,y3⟩:=y
  simp only [LV.d,LD.mk.injEq] at e
  obtain ⟨rfl,rfl,rfl,rfl,rfl⟩:=e
  rfl
 have ef:x.f.f=y.f.f:=congrArg LD.f e
 have er:x.r=y.r:=congrArg LD.r e
 unfold dP
 rw [en,ef,er]
 by_cases k:jT ls x
 ·rw [if_pos k,if_pos (h2.1 k)]
 rw [if_neg k,if_neg (fun k'=>k (h2.2 k'))]
theorem uX (h:ls.map LV.d=ls'.map LV.d) (h0:gz l ls=0):gz l ls'=0:=by
 obtain ⟨h1,h2,h3,h4⟩:=lB.1 h0
 have hl:=BA h
 exact lB.2 ⟨h1,by omega,by omega,fun k hk=>by
  have:=h4 k (by omega)
  rw [←wR h (D0 h (by omega) hk)];exact this⟩
end
theorem mj {l:Int} {ls:List LV} {i:Nat} {x:LV}:dP l ls i x=0↔gi x.f.f=0∧(1≤x.r∧x.r≤12)∧iQ i x=0∧cm l x.r=true∧jT ls x:=by
 constructor
 ·intro h
  unfold dP at h
  by_cases h1:gi x.f.f=0
  rotate_left
  ·rw [if_pos h1] at h;exact absurd h h1
  rw [if_neg (by simp [h1])] at h
  by_cases h2:x.r<1∨12<x.r
  ·rw [if_pos h2] at h;exact absurd h (by decide)
  rw [if_neg h2] at h
  by_cases h3:iQ i x=0
  rotate_left
  ·rw [if_pos h3] at h;exact absurd h h3
  rw [if_neg (by simp [h3])] at h
  by_cases h4:cm l x.r=false
  ·rw [if_pos h4] at h;exact absurd h (by decide)
  rw [if_neg h4] at h
  by_cases h5:jT ls x
  rotate_left
  ·rw [if_neg h5] at h;exact absurd h (by decide)
  exact ⟨h1,by omega,h3,by simpa using h4,h5⟩
 rintro ⟨h1,h2,h3,h4,h5⟩
 exact yJ h1 h2 h3 h4 h5
theorem qH {i:Int} {x:LV} (h1:1≤x.r) (h12:x.r≤12):iQ i x=0↔¬pH x∧¬pG i x∧0≤x.g∧x.g<4:=by
 constructor
 ·intro h
  have k1:¬pH x:=fun k=>by rw [yp h1 h12 (.inl k)] at h;exact absurd h (by decide)
  have k2:¬pG i x:=fun k=>by rw [yp h1 h12 (.inr k)] at h;exact absurd h (by decide)
  rw [yq h1 h12 k1 k2] at h
  refine ⟨k1,k2,?_⟩
  by_cases h3:x.g<0∨x.g≥4
  ·rw [if_pos h3] at h;exact absurd h (by decide)
  omega
 rintro ⟨k1,k2,k3⟩
 rw [yq h1 h12 k1 k2,if_neg (by omega)]
/-! the lines that are needed -/
inductive EK (ls:List LV):Nat→Prop
  |last {k:Nat}:k+1=ls.length→EK ls k
  |a {k:Nat} (hk:k<ls.length):EK ls k→10≤ls[k].r→EK ls ls[k].a.toNat
  |b {k:Nat} (hk:k<ls.length):EK ls k→ls[k].r=10→EK ls ls[k].b.toNat
def bJ (p:Nat→Bool) (k:Nat):Nat:=((List.range k).filter p).length
theorem gj {p:Nat→Bool} {k:Nat}:bJ p (k+1)=bJ p k+(if p k=true then 1 else 0):=by
 unfold bJ
 rw [List.range_succ,List.filter_append,List.length_append]
 cases h:p k<;>simp [h]
theorem sq {p:Nat→Bool}:∀{k:Nat},bJ p k≤k
 |0=>Nat.le_refl _
 |k+1=>by have:=sq (p:=p) (k:=k);rw [gj];split<;>omega
theorem w9 {p:Nat→Bool} {j k:Nat} (h:j≤k):bJ p j≤bJ p k:=by
 induction h with
 |refl=>exact Nat.le_refl _
 |step _ ih=>rw [gj];omega
theorem BG {p:Nat→Bool} {j k:Nat} (h:j<k) (hp:p j=true):bJ p j<bJ p k:=by
 have:=w9 (p:=p) (show j+1≤k from h)
 rw [gj,if_pos hp] at this;omega
theorem D3 {p:Nat→Bool} {n q:Nat} (h:q<bJ p n):∃j,j<n∧p j=true∧bJ p j=q:=by
 induction n with
 |zero=>exact absurd h (Nat.not_lt_zero _)
 |succ n ih=>
  rw [gj] at h
  by_cases h1:q<bJ p n
  ·obtain ⟨j,h2,h3⟩:=ih h1;exact ⟨j,by omega,h3⟩
  by_cases h2:p n=true
  ·rw [if_pos h2] at h;exact ⟨n,by omega,h2,by omega⟩
  rw [if_neg h2] at h;omega
section
variable {l:Int} {ls:List LV}
end
end Go.Proofs.Wit
namespace Go.Proofs.Wit
open Go Go.RowKit
/-! proofs that are written line by line: lines as trees -/
theorem p4 {t:Tr}:Fit t↔bT t≠[]:=by unfold Fit;exact Cs.symm
open Classical in
noncomputable def fe (t:Tr):Tr:=if Fit (aE t) then (aN t).2 else aE t
theorem pE {t:Tr} (h:t.ok):(fe t).ok:=by
 unfold fe;split
 ·exact (ll h).2
 exact bC h
structure TL where
  t:Tr
  r:Int
  a:Nat
  b:Nat
  g:Int
def TL.v (x:TL):LV:=⟨⟨none,0,bT x.t⟩,x.r,x.a,x.b,x.g⟩
structure Sg where
  ls:List TL
  bad:Bool
def fT (σ:Sg) (n:Nat):Tr:=(σ.ls.map TL.t).getD n (.leaf 0 0 0 0)
def ct (ts:List Tr) (g:Tr):Tr:=ts.foldr aP g
theorem lC:∀{ts:List Tr} {g:Tr},(∀u∈ts,u.ok)→g.ok→(ct ts g).ok
 |[],_,_,h=>h
 |t::ts,_,h,hg=>dB (h t (List.mem_cons_self ..)) (lC (ts:=ts) (fun u hu=>h u (List.mem_cons_of_mem _ hu)) hg)
section
variable (T:Tr→Prop)
open Classical in
noncomputable def bR (t:Tr) (r:Int) (a b:Nat) (g:Int) (σ:Sg):Nat×Sg:=
 if σ.bad=true∨¬Fit t∨400≤σ.ls.length∨(r=1∧¬T t) then (0,⟨σ.ls,true⟩) else (σ.ls.length,⟨σ.ls++[⟨t,r,a,b,g⟩],false⟩)
noncomputable def lp (g:Tr):List (Nat×Tr)→Nat→Sg→Nat×Sg
 |[],n,σ=>(n,σ)
 |p::ps,n,σ=>lp g ps (bR T (ct (ps.map (·.2)) g) 10 p.1 n 0 σ).1 (bR T (ct (ps.map (·.2)) g) 10 p.1 n 0 σ).2
noncomputable def aU (g:Tr) (from_:List Nat) (σ:Sg):Nat×Sg:=
 if σ.bad=true then (0,σ) else
  lp T g (from_.map (fun n=>(n,fT σ n))) (bR T (ct (from_.map (fT σ)) g) 1 0 0 0 σ).1 (bR T (ct (from_.map (fT σ)) g) 1 0 0 0 σ).2
noncomputable def kW (i:Int) (p q:Tr) (σ:Sg):Nat×Sg:=bR T (aP (ar i (aP p q)) (aP (ar i p) (ar i q))) 2 0 0 0 σ
noncomputable def gH (i:Int) (p q:Tr) (line:Nat) (σ:Sg):Nat×Sg:=
 let n:=bR T (ar i (aP p q)) 11 line 0 i σ
 let k:=kW T i p q n.2
 bR T (aP (ar i p) (ar i q)) 10 n.1 k.1 0 k.2
noncomputable def dS (i:Int) (v:Tr) (σ:Sg):Nat×Sg:=bR T (nE (ga i v) (aE (ar i (aE v)))) 7 0 0 0 σ
noncomputable def lW (ei:Bool) (t:Tr):Tr:=if ei=true then .bin 6 0 0 0 t (fe t) else aE (ju t (fe t))
noncomputable def uT (op:Int) (a:Tr):Tr:=if op=9 then a else fe a
noncomputable def vT (op:Int) (a:Tr):Tr:=if op=9 then fe a else a
noncomputable def oH (ei:Bool) (op:Int) (a:Tr):Tr:=if ei=true then aE (vT op a) else uT op a
noncomputable def oG (ei:Bool) (op:Int) (a:Tr):Tr:=if ei=true then uT op a else aE (vT op a)
noncomputable def pN (ei:Bool) (op i:Int) (a t:Tr) (x:Nat) (σ:Sg):Nat×Sg:=
 let l:=aU T (aP (oH ei op a) (oG ei op a)) [x] σ
 let d:=gH T i (oH ei op a) (oG ei op a) l.1 l.2
 let s:=dS T i (vT op a) d.2
 aU T (lW ei t) [d.1,s.1] s.2
noncomputable def aI (ei:Bool):Tr→Sg→Nat×Sg
 |.leaf op i e g,σ=>aU T (lW ei (.leaf op i e g)) [] σ
 |.un op i e g a,σ=>if op=9∨op=10 then pN T ei op i a (.un op i e g a) (aI ei a σ).1 (aI ei a σ).2 else aU T (lW ei (.un op i e g a)) [] σ
 |.bin op i e g a b,σ=>aU T (lW ei (.bin op i e g a b)) [(aI ei a σ).1,(aI ei b (aI ei a σ).2).1] (aI ei b (aI ei a σ).2).2
noncomputable def kR (i:Int) (f:Tr) (σ:Sg):Nat×Sg:=
 match f with
 |.un 10 _ _ _ z=>
  let nz:=aE (ar i (aE z))
  let s:=dS T i z σ
  let f5:=bR T (aP nz (ar i nz)) 5 0 0 0 s.2
  let bk:=aU T (aP nz f) [s.1] f5.2
  let kn:=gH T i nz f bk.1 bk.2
  aU T (aP f (ar i f)) [s.1,f5.1,kn.1] kn.2
 |_=>bR T (aP f (ar i f)) 4 0 0 0 σ
end
/-! what holds of every such writer -/
structure Sg.Le (σ σ':Sg):Prop where
  pre:σ.ls<+:σ'.ls
  ok:σ'.bad=false→σ.bad=false
theorem Sg.Le.refl (σ:Sg):σ.Le σ:=⟨List.prefix_refl _,id⟩
theorem Sg.Le.trans {σ σ' σ'':Sg} (h:σ.Le σ') (g:σ'.Le σ''):σ.Le σ'':=⟨h.pre.trans g.pre,fun e=>h.ok (g.ok e)⟩
def di (σ:Sg) (n:Nat) (t:Tr):Prop:=σ.bad=false→n<σ.ls.length∧fT σ n=t
theorem Ao {σ σ':Sg} (h:σ.Le σ') {n:Nat} (hn:n<σ.ls.length):fT σ' n=fT σ n:=by
 obtain ⟨u,hu⟩:=h.pre
 unfold fT
 rw [←hu,List.map_append]
 simp [List.getD_eq_getElem?_getD,List.getElem?_append_left (show n<(σ.ls.map TL.t).length by simpa using hn)]
theorem di.le {σ σ':Sg} {n:Nat} {t:Tr} (h:di σ n t) (g:σ.Le σ'):di σ' n t:=fun e=>by
 obtain ⟨h1,h2⟩:=h (g.ok e)
 exact ⟨Nat.lt_of_lt_of_le h1 g.pre.length_le,by rw [Ao g h1];exact h2⟩
section
variable {T:Tr→Prop} {t g:Tr} {r i:Int} {a b n:Nat} {σ:Sg}
theorem jr (h:σ.bad=true) {gg:Int}:bR T t r a b gg σ=(0,σ):=by
 rw [bR,if_pos (.inl h),←h]
theorem db {gg:Int}:σ.Le (bR T t r a b gg σ).2:=by
 unfold bR;split
 ·exact ⟨List.prefix_refl _,fun e=>by cases e⟩
 rename_i h
 exact ⟨List.prefix_append _ _,fun _=>by
  cases hb:σ.bad with
  |false=>rfl
  |true=>exact absurd (.inl hb) h⟩
theorem bP {gg:Int}:di (bR T t r a b gg σ).2 (bR T t r a b gg σ).1 t:=by
 unfold bR;split
 ·intro e;cases e
 intro _;exact ⟨by simp,by simp [fT,List.getD_eq_getElem?_getD]⟩
theorem A4 {ps:List (Nat×Tr)}:∀{n:Nat} {σ:Sg},σ.Le (lp T g ps n σ).2:=by
 induction ps with
 |nil=>intro n σ;exact Sg.Le.refl _
 |cons p ps ih=>intro n σ;exact db.trans ih
theorem cY {from_:List Nat}:σ.Le (aU T g from_ σ).2:=by
 unfold aU;split
 ·exact Sg.Le.refl _
 exact db.trans A4
theorem yA {ps:List (Nat×Tr)}:∀{n:Nat} {σ:Sg},di σ n (ct (ps.map (·.2)) g)→di (lp T g ps n σ).2 (lp T g ps n σ).1 g:=by
 induction ps with
 |nil=>intro n σ h;exact h
 |cons p ps ih=>intro n σ _;exact ih bP
theorem eD {from_:List Nat}:di (aU T g from_ σ).2 (aU T g from_ σ).1 g:=by
 unfold aU;split
 ·rename_i h;intro e;rw [h] at e;cases e
 refine yA ?_
 rw [List.map_map]
 exact bP
theorem gy {from_:List Nat} (h:σ.bad=true):aU T g from_ σ=(0,σ):=by rw [aU,if_pos h]
theorem tE {p q:Tr}:σ.Le (kW T i p q σ).2:=db
theorem ng {p q:Tr} {l:Nat}:σ.Le (gH T i p q l σ).2:=db.trans (db.trans db)
theorem lA {p q:Tr} {l:Nat}:di (gH T i p q l σ).2 (gH T i p q l σ).1 (aP (ar i p) (ar i q)):=bP
theorem zh {p q:Tr} {l:Nat} (h:σ.bad=true):gH T i p q l σ=(0,σ):=by simp only [gH,kW];rw [jr h];dsimp only;rw [jr h];dsimp only;rw [jr h]
theorem jA {v:Tr}:σ.Le (dS T i v σ).2:=db
theorem A6 {ei:Bool} {op:Int} {a t:Tr} {x:Nat}:σ.Le (pN T ei op i a t x σ).2:=cY.trans (ng.trans (jA.trans cY))
theorem yC {ei:Bool} {op:Int} {a t:Tr} {x:Nat} (h:σ.bad=true):pN T ei op i a t x σ=(0,σ):=by
 simp only [pN]
 rw [gy h];dsimp only
 rw [zh h];dsimp only
 rw [dS,jr h];dsimp only
 rw [gy h]
theorem yB {ei:Bool} {op:Int} {a t:Tr} {x:Nat}:di (pN T ei op i a t x σ).2 (pN T ei op i a t x σ).1 (lW ei t):=eD
theorem ly {ei:Bool}:∀{t:Tr} {σ:Sg},σ.bad=true→aI T ei t σ=(0,σ)
 |.leaf op i e g,σ,h=>by rw [aI,gy h]
 |.un op i e g a,σ,h=>by
  rw [aI];split
  ·rw [ly (t:=a) h,yC h]
  rw [gy h]
 |.bin op i e g a b,σ,h=>by rw [aI,ly (t:=a) h];dsimp only;rw [ly (t:=b) h];dsimp only;rw [gy h]
theorem ic {ei:Bool}:∀{t:Tr} {σ:Sg},σ.Le (aI T ei t σ).2
 |.leaf op i e g,σ=>by rw [aI];exact cY
 |.un op i e g a,σ=>by
  rw [aI];split
  ·exact (ic (t:=a)).trans A6
  exact cY
 |.bin op i e g a b,σ=>by rw [aI];exact (ic (t:=a)).trans ((ic (t:=b)).trans cY)
theorem eA {ei:Bool}:∀{t:Tr} {σ:Sg},di (aI T ei t σ).2 (aI T ei t σ).1 (lW ei t)
 |.leaf op i e g,σ=>by rw [aI];exact eD
 |.un op i e g a,σ=>by
  rw [aI];split
  ·exact yB
  exact eD
 |.bin op i e g a b,σ=>by rw [aI];exact eD
theorem sy {f:Tr}:σ.Le (kR T i f σ).2:=by
 unfold kR;split
 ·exact jA.trans (db.trans (cY.trans (ng.trans cY)))
 exact db
theorem qs {f:Tr}:di (kR T i f σ).2 (kR T i f σ).1 (aP f (ar i f)):=by
 unfold kR;split
 ·exact eD
 exact bP
end
end Go.Proofs.Wit
namespace Go.Proofs.Wit
open Go Go.RowKit
/-! what is written is right; the test by ten atoms and the tautologies agree -/
/-- no more than ten atoms -/
def af (t:Tr):Prop:=∃l:List Tr,l.Nodup∧(∀u,u∈l↔u∈kI t)∧l.length≤10
def eW (t:Tr):Prop:=t.ok∧jS (fun op _ _=>op≤11∨op=13) t
theorem eW.im {a b:Tr} (h:eW a) (g:eW b):eW (aP a b):=⟨dB h.1 g.1,.inl (by decide),h.2,g.2⟩
theorem eW.ad {a b:Tr} (h:eW a) (g:eW b):eW (ju a b):=⟨gk h.1 g.1,.inl (by decide),h.2,g.2⟩
theorem eW.or {a b:Tr} (h:eW a) (g:eW b):eW (.bin 6 0 0 0 a b):=⟨jB h.1 g.1,.inl (by decide),h.2,g.2⟩
theorem eW.if {a b:Tr} (h:eW a) (g:eW b):eW (nE a b):=⟨tH h.1 g.1,.inl (by decide),h.2,g.2⟩
theorem eW.nt {a:Tr} (h:eW a):eW (aE a):=⟨bC h.1,.inl (by decide),h.2⟩
theorem eW.kw {a:Tr} {i:Int} (hi:0≤i∧i<4) (h:eW a):eW (ar i a):=⟨bt hi h.1,.inl (by decide),h.2⟩
theorem eW.po {a:Tr} {i:Int} (hi:0≤i∧i<4) (h:eW a):eW (ga i a):=⟨gX (.inr rfl) hi h.1,.inl (by decide),h.2⟩
theorem eW.ch:∀{ts:List Tr} {g:Tr},(∀u∈ts,eW u)→eW g→eW (ct ts g)
 |[],_,_,h=>h
 |t::ts,_,h,hg=>(h t (List.mem_cons_self ..)).im (eW.ch (ts:=ts) (fun u hu=>h u (List.mem_cons_of_mem _ hu)) hg)
def og:Tr→Prop
 |.leaf op _ _ _=>op≤3
 |.un op _ _ _ a=>(op=4∧∃i e g,a=.leaf 3 i e g)∨((op=9∨op=10)∧og a)
 |.bin op _ _ _ a b=>(op=5∨op=6)∧og a∧og b
theorem og.yU:∀{t:Tr},og t→jS (fun op _ _=>op≤11∨op=13) t
 |.leaf op _ _ _,h=>.inl (by have:op≤3:=h;omega)
 |.un op _ _ _ a,h=>by
  rcases h with ⟨h1,i,e,g,rfl⟩|⟨h1,h2⟩
  ·exact ⟨.inl (by omega),.inl (by decide)⟩
  exact ⟨.inl (by omega),h2.yU⟩
 |.bin op _ _ _ a b,h=>⟨.inl (by have:=h.1;omega),h.2.1.yU,h.2.2.yU⟩
theorem vB:∀{t:Tr},og t→t.ok→eW (aN t).2
 |.leaf op i e g,h,hok=>by
  have ho:op≤3:=h
  rw [aN];dsimp only
  split
  ·exact ⟨⟨by decide,rfl,by decide⟩,.inl (by decide)⟩
  split
  ·exact ⟨⟨by decide,rfl,by decide⟩,.inl (by decide)⟩
  exact eW.nt ⟨hok,.inl (by omega)⟩
 |.un op i e g a,h,hok=>by
  rcases h with ⟨rfl,j,e',g',rfl⟩|⟨h1,h2⟩
  ·rw [aN,if_pos rfl]
   exact ⟨(ll hok.2.2.2.2).1,.inl (by decide)⟩
  have hf:=vB h2 hok.2.2.2.2
  have hi:=(mV hok h1).1
  rcases h1 with rfl|rfl
  ·rw [aN,if_neg (by decide),if_pos rfl];exact hf.po hi
  rw [aN,if_neg (by decide),if_neg (by decide),if_pos rfl];exact hf.kw hi
 |.bin op i e g a b,h,hok=>by
  have ha:=vB h.2.1 hok.2.2.2.1
  have hb:=vB h.2.2 hok.2.2.2.2
  rcases h.1 with rfl|rfl
  ·rw [aN,if_pos rfl];exact ha.or hb
  rw [aN,if_neg (by decide),if_pos rfl];exact ha.ad hb
theorem og.fr {t:Tr} (h:og t) (hok:t.ok):eW t:=⟨hok,h.yU⟩
theorem og.op {t:Tr} (h:og t) (hok:t.ok):eW (fe t):=by
 unfold fe;split
 ·exact vB h hok
 exact (h.fr hok).nt
theorem oL {r:Tr→Bool} {a b:Tr}:bZ r (aP a b)=(!bZ r a||bZ r b):=rfl
theorem G1 {r:Tr→Bool} {a b:Tr}:bZ r (ju a b)=(bZ r a && bZ r b):=rfl
theorem FM {r:Tr→Bool} {a b:Tr} {i e g:Int}:bZ r (.bin 6 i e g a b)=(bZ r a||bZ r b):=rfl
theorem Bw {r:Tr→Bool} {a b:Tr}:bZ r (nE a b)=(bZ r a==bZ r b):=rfl
theorem qJ {r:Tr→Bool} {a:Tr}:bZ r (aE a)=!bZ r a:=rfl
theorem uQ {r:Tr→Bool}:∀{ts:List Tr} {g:Tr},bZ r (ct ts g)=true↔((∀u∈ts,bZ r u=true)→bZ r g=true)
 |[],g=>by simp [ct]
 |t::ts,g=>by
  show bZ r (aP t (ct ts g))=true↔_
  rw [oL,Bool.or_eq_true,uQ]
  cases ht:bZ r t with
  |false=>simp [ht]
  |true=>simp [ht]
def HJ (l:Int) (σ:Sg) (t:Tr) (r:Int) (a b:Nat) (g:Int):Prop:=
 eW t∧cm l r=true∧((r=1∧a=0∧b=0∧g=0∧∀v,bZ v t=true)∨(2≤r∧r<10∧a=0∧b=0∧g=0∧oD r t)∨(r=10∧g=0∧∃A,di σ a A∧di σ b (aP A t))∨(r=11∧b=0∧(0≤g∧g<4)∧∃A,di σ a A∧t=ar g A))
structure Good (l:Int) (σ:Sg):Prop where
  len:σ.ls.length≤400
  tok:∀(k:Nat) (hk:k<σ.ls.length),σ.ls[k].t.ok
  ok:∀(k:Nat) (hk:k<(σ.ls.map TL.v).length),dP l (σ.ls.map TL.v) k (σ.ls.map TL.v)[k]=0
structure sH (l:Int) (P:(Tr→Prop)→Sg→Nat×Sg) (σ:Sg):Prop where
  same:P af σ=P lI σ
  dI:Good l (P af σ).2
theorem wQ {l:Int} {ls:List LV} {i:Nat} {x:LV} (us:List LV) (hi:i≤ls.length) (h:dP l ls i x=0):dP l (ls++us) i x=0:=by
 rw [mj] at h⊢
 obtain ⟨h1,h2,h3,h4,h5⟩:=h
 refine ⟨h1,h2,h3,h4,?_⟩
 have hp:=lg h2.1 h2.2
 obtain ⟨n1,n2,_⟩:=qX h3
 have hget:∀k:Int,0≤k→k<i→rV (ls++us) k=rV ls k:=fun k h0 hk=>by
  unfold rV
  rw [List.map_append]
  simp only [List.getD_eq_getElem?_getD]
  rw [List.getElem?_append_left (by rw [List.length_map];omega)]
 unfold jT at h5⊢
 split at h5
 ·rename_i e
  rw [if_pos e]
  have ha:=jG n1 (by omega)
  have hb:=jG n2 (by omega)
  rw [hget _ hb.1 hb.2,hget _ ha.1 ha.2];exact h5
 rename_i e
 rw [if_neg e]
 split at h5
 ·rename_i e1
  rw [if_pos e1,hget _ (jG n1 (by omega)).1 (jG n1 (by omega)).2];exact h5
 rename_i e1
 rw [if_neg e1]
 split at h5
 ·rename_i e2
  rw [if_pos e2,hget _ (jG n1 (by omega)).1 (jG n1 (by omega)).2];exact h5
 rename_i e2
 rw [if_neg e2];exact h5
theorem oR {t:Tr} (h:t.ok) (hf:Fit t):bh (bT t)=t:=(Cf.zX h (p4.1 hf)).top
theorem y5 {t:Tr} (h:eW t) (hf:Fit t):gi (bT t)=0:=pZ.2 ⟨(Cf.zX h.1 (p4.1 hf)).jF,by rw [oR h.1 hf];exact h.2⟩
section
variable {l:Int} {σ:Sg}
theorem Good.line (h:Good l σ) {k:Nat} (hk:k<σ.ls.length):eW σ.ls[k].t∧Fit σ.ls[k].t:=by
 have h1:=h.ok k (by simpa using hk)
 have h2:gi (bT σ.ls[k].t)=0:=by
  have:=(mj.1 h1).1
  simpa [TL.v] using this
 have hc:=pZ.1 h2
 have hne:bT σ.ls[k].t≠[]:=fun e=>by rw [e] at h2;exact absurd h2 (by decide)
 have hfit:=p4.2 hne
 refine ⟨?_,hfit⟩
 have htop:bh (bT σ.ls[k].t)=σ.ls[k].t:=oR (h.tok k hk) hfit
 exact ⟨h.tok k hk,by rw [←htop];exact hc.2⟩
theorem vi {k:Nat} (hk:k<σ.ls.length):fT σ k=σ.ls[k].t:=by simp [fT,List.getD_eq_getElem?_getD,hk]
theorem Good.has (h:Good l σ) (hb:σ.bad=false) {n:Nat} {t:Tr} (ht:di σ n t):eW t∧Fit t:=by
 obtain ⟨h1,h2⟩:=ht hb
 rw [←h2,vi h1];exact h.line h1
theorem uD (h:Good l σ) {k:Nat} (hk:k<σ.ls.length) {us:List LV}:rV (σ.ls.map TL.v++us) (k:Int)=fT σ k:=by
 rw [mZ (k:=k) (by simp;omega) rfl,List.getElem_append_left (by simpa using hk),vi hk]
 simp only [List.getElem_map,TL.v]
 exact oR (h.line hk).1.1 (h.line hk).2
theorem Br {ls:List LV} {x:LV} {t:Tr} (ht:bh x.f.f=t) (h:(x.r=10∧rV ls x.b=aP (rV ls x.a) t)∨(x.r=11∧t=ar x.g (rV ls x.a))∨(x.r<10∧oD x.r t)):jT ls x:=by
 subst ht
 unfold jT
 rcases h with ⟨h1,h2⟩|⟨h1,h2⟩|⟨h1,h2⟩
 ·rw [if_pos h1];exact h2
 ·rw [if_neg (by omega),if_pos h1];exact h2
 rw [if_neg (by omega),if_neg (by omega),if_neg (by omega)];exact h2
theorem gA {t:Tr} {r g:Int} {a b:Nat} (h:Good l σ) (ha:σ.bad=false→Fit t→HJ l σ t r a b g):sH l (fun T=>bR T t r a b g) σ:=by
 have hsame:bR af t r a b g σ=bR lI t r a b g σ:=by
  cases hb:σ.bad with
  |true=>rw [jr hb,jr hb]
  |false=>
   by_cases hf:Fit t
   ·obtain ⟨_,_,hc⟩:=ha hb hf
    by_cases hr:r=1
    ·have:af t=lI t:=by
      rcases hc with ⟨h1,_,_,_,h2⟩|⟨h1,_⟩|⟨h1,_⟩|⟨h1,_⟩
      ·exact propext ⟨fun h=>⟨h,h2⟩,fun h=>h.1⟩
      all_goals omega
     unfold bR;rw [this]
    have e:∀T:Tr→Prop,(σ.bad=true∨¬Fit t∨400≤σ.ls.length∨(r=1∧¬T t))↔(400≤σ.ls.length):=fun T=>
     ⟨fun h=>by
      rcases h with h|h|h|h
      ·rw [hb] at h;cases h
      ·exact absurd hf h
      ·exact h
      exact absurd h.1 hr,fun h=>.inr (.inr (.inl h))⟩
    unfold bR
    by_cases h4:400≤σ.ls.length
    ·rw [if_pos ((e _).2 h4),if_pos ((e _).2 h4)]
    rw [if_neg (fun h=>h4 ((e _).1 h)),if_neg (fun h=>h4 ((e _).1 h))]
   unfold bR;rw [if_pos (.inr (.inl hf)),if_pos (.inr (.inl hf))]
 refine ⟨hsame,?_⟩
 unfold bR
 split
 ·exact ⟨h.len,h.tok,h.ok⟩
 rename_i hn
 have hb:σ.bad=false:=by
  cases e:σ.bad with
  |false=>rfl
  |true=>exact absurd (.inl e) hn
 have hf:Fit t:=Classical.byContradiction fun e=>hn (.inr (.inl e))
 have hlen:σ.ls.length<400:=by
  have:¬400≤σ.ls.length:=fun e=>hn (.inr (.inr (.inl e)))
  omega
 have hT:r=1→af t:=fun e=>Classical.byContradiction fun e'=>hn (.inr (.inr (.inr ⟨e,e'⟩)))
 obtain ⟨hfr,hl,hc⟩:=ha hb hf
 refine ⟨by simp;omega,fun k hk=>?_,fun k hk=>?_⟩
 ·by_cases hkl:k<σ.ls.length
  ·rw [List.getElem_append_left hkl];exact h.tok k hkl
  ·rw [List.getElem_append_right (by omega)]
   simp only [List.length_append,List.length_cons,List.length_nil] at hk
   have:k - σ.ls.length=0:=by omega
   simp only [this,List.getElem_cons_zero];exact hfr.1
 simp only [List.map_append,List.map_cons,List.map_nil] at hk⊢
 simp only [List.length_append,List.length_map,List.length_cons,List.length_nil] at hk
 by_cases hkl:k<σ.ls.length
 ·rw [List.getElem_append_left (by simpa using hkl)]
  exact wQ _ (by simp;omega) (h.ok k (by simpa using hkl))
 have hke:k=σ.ls.length:=by omega
 subst hke
 rw [List.getElem_append_right (by simp)]
 simp only [List.length_map,Nat.sub_self,List.getElem_cons_zero]
 have htop:bh (TL.v ⟨t,r,a,b,g⟩).f.f=t:=oR hfr.1 hf
 rw [mj]
 refine ⟨y5 hfr hf,?_,?_,hl,?_⟩
 ·show 1≤r∧r≤12
  rcases hc with ⟨h1,_⟩|⟨h1,h2,_⟩|⟨h1,_⟩|⟨h1,_⟩<;>omega
 ·rw [qH (by show 1≤r;rcases hc with ⟨h1,_⟩|⟨h1,h2,_⟩|⟨h1,_⟩|⟨h1,_⟩<;>omega) (by show r≤12;rcases hc with ⟨h1,_⟩|⟨h1,h2,_⟩|⟨h1,_⟩|⟨h1,_⟩<;>omega)]
  unfold pH pG
  simp only [TL.v]
  rcases hc with ⟨h1,h2,h3,h4,_⟩|⟨h1,h2,h3,h4,h5,_⟩|⟨h1,h2,A,hA,hB⟩|⟨h1,h2,h3,A,hA,_⟩
  ·subst h2 h3 h4 h1;omega
  ·subst h3 h4 h5;omega
  ·have:=(hA hb).1;have:=(hB hb).1;omega
  have:=(hA hb).1;omega
 refine Br htop ?_
 rcases hc with ⟨h1,h2,h3,h4,h5⟩|⟨h1,h2,h3,h4,h5,h6⟩|⟨h1,h2,A,hA,hB⟩|⟨h1,h2,h3,A,hA,h4⟩
 ·refine .inr (.inr ⟨show r<10 by omega,?_⟩)
  show oD r t
  rw [h1];exact ⟨hT h1,h5⟩
 ·exact .inr (.inr ⟨h2,h6⟩)
 ·refine .inl ⟨h1,?_⟩
  show rV _ (b:Int)=aP (rV _ (a:Int)) t
  rw [uD h (hA hb).1,uD h (hB hb).1,(hA hb).2,(hB hb).2]
 refine .inr (.inl ⟨h1,?_⟩)
 show t=ar g (rV _ (a:Int))
 rw [uD h (hA hb).1,(hA hb).2];exact h4
theorem vF {g:Tr} (hg:eW g):∀{ps:List (Nat×Tr)} {n:Nat} {σ:Sg},Good l σ→cm l 10=true→(∀p∈ps,di σ p.1 p.2)→di σ n (ct (ps.map (·.2)) g)→sH l (fun T=>lp T g ps n) σ
 |[],n,σ,h,_,_,_=>⟨rfl,h⟩
 |p::ps,n,σ,h,h10,hps,hn=>by
  have hadm:σ.bad=false→Fit (ct (ps.map (·.2)) g)→HJ l σ (ct (ps.map (·.2)) g) 10 p.1 n 0:=fun hb _=>
   ⟨eW.ch (fun u hu=>by
    obtain ⟨q,hq,rfl⟩:=List.mem_map.1 hu
    exact (h.has hb (hps q (List.mem_cons_of_mem _ hq))).1) hg,h10,.inr (.inr (.inl ⟨rfl,rfl,p.2,hps p (List.mem_cons_self ..),hn⟩))⟩
  have h1:=gA h hadm
  have h2:=vF hg (ps:=ps) (n:=(bR af (ct (ps.map (·.2)) g) 10 p.1 n 0 σ).1) h1.dI h10 (fun q hq=>(hps q (List.mem_cons_of_mem _ hq)).le db) bP
  refine ⟨?_,h2.dI⟩
  show lp af g ps _ _=lp lI g ps _ _
  have e:=h1.same
  rw [←e]
  exact h2.same
theorem DQ (l:Int) {r:Int} (h:r=1∨r=2∨r=7∨r=10∨r=11):cm l r=true:=by
 unfold cm;rw [if_neg (by omega),if_neg (by omega),if_neg (by omega),if_neg (by omega)]
theorem dU {g:Tr} {from_:List Nat} (h:Good l σ) (hg:eW g) (hf:σ.bad=false→∀n∈from_,n<σ.ls.length) (ht:σ.bad=false→Fit g→∀v,(∀n∈from_,bZ v (fT σ n)=true)→bZ v g=true):sH l (fun T=>aU T g from_) σ:=by
 cases hb:σ.bad with
 |true=>exact ⟨by rw [gy hb,gy hb],by rw [gy hb];exact h⟩
 |false=>
  have hhas:∀n∈from_,di σ n (fT σ n):=fun n hn=>fun _=>⟨hf hb n hn,rfl⟩
  have hfit:∀ts:List Tr,Fit (ct ts g)→Fit g:=fun ts=>by
   induction ts with
   |nil=>exact id
   |cons t ts ih=>exact fun h=>ih (Fit.r h)
  have hadm:σ.bad=false→Fit (ct (from_.map (fT σ)) g)→HJ l σ (ct (from_.map (fT σ)) g) 1 0 0 0:=fun _ hft=>
   ⟨eW.ch (fun u hu=>by
    obtain ⟨q,hq,rfl⟩:=List.mem_map.1 hu
    exact (h.has hb (hhas q hq)).1) hg,DQ l (.inl rfl),.inl ⟨rfl,rfl,rfl,rfl,fun v=>uQ.2 fun hall=>ht hb (hfit _ hft) v (fun n hn=>hall _ (List.mem_map_of_mem hn))⟩⟩
  have h1:=gA h hadm
  have h2:=vF hg (ps:=from_.map (fun n=>(n,fT σ n))) (n:=(bR af (ct (from_.map (fT σ)) g) 1 0 0 0 σ).1) h1.dI (DQ l (by omega)) (fun q hq=>by
   obtain ⟨n,hn,rfl⟩:=List.mem_map.1 hq
   exact (hhas n hn).le db) (by rw [List.map_map];exact bP)
  have e:=h1.same
  have e2:=h2.same
  have g2:=h2.dI
  constructor
  ·unfold aU
   rw [if_neg (by rw [hb];decide),if_neg (by rw [hb];decide),←e]
   exact e2
  unfold aU
  rw [if_neg (by rw [hb];decide)]
  exact g2
theorem Ci {i:Int} {p q:Tr} (hi:0≤i∧i<4) (h:Good l σ) (hp:eW p) (hq:eW q):sH l (fun T=>kW T i p q) σ:=
 gA h (fun _ _=>⟨(hp.im hq|>.kw hi).im ((hp.kw hi).im (hq.kw hi)),DQ l (by omega),.inr (.inl ⟨by decide,by decide,rfl,rfl,rfl,⟨i,p,q,rfl⟩⟩)⟩)
theorem rP {i:Int} {v:Tr} (hi:0≤i∧i<4) (h:Good l σ) (hv:eW v):sH l (fun T=>dS T i v) σ:=
 gA h (fun _ _=>⟨(hv.po hi).if (hv.nt.kw hi).nt,DQ l (by omega),.inr (.inl ⟨by decide,by decide,rfl,rfl,rfl,⟨i,v,rfl⟩⟩)⟩)
theorem vS {i:Int} {p q:Tr} {n:Nat} (hi:0≤i∧i<4) (h:Good l σ) (hp:eW p) (hq:eW q) (hn:di σ n (aP p q)):sH l (fun T=>gH T i p q n) σ:=by
 have h1:sH l (fun T=>bR T (ar i (aP p q)) 11 n 0 i) σ:=gA h (fun _ _=>⟨(hp.im hq).kw hi,DQ l (by omega),.inr (.inr (.inr ⟨rfl,rfl,hi,_,hn,rfl⟩))⟩)
 have h2:=Ci (i:=i) (p:=p) (q:=q) hi h1.dI hp hq
 have a1:di _ _ (ar i (aP p q)):=bP (T:=af) (σ:=σ) (t:=ar i (aP p q)) (r:=11) (a:=n) (b:=0) (gg:=i)
 have a2:di _ _ (aP (ar i (aP p q)) (aP (ar i p) (ar i q))):=bP (T:=af) (σ:=(bR af (ar i (aP p q)) 11 n 0 i σ).2) (t:=aP (ar i (aP p q)) (aP (ar i p) (ar i q))) (r:=2) (a:=0) (b:=0) (gg:=0)
 have h3:=gA (t:=aP (ar i p) (ar i q)) (r:=10) (a:=(bR af (ar i (aP p q)) 11 n 0 i σ).1) (b:=(kW af i p q (bR af (ar i (aP p q)) 11 n 0 i σ).2).1) (g:=0) h2.dI (fun _ _=>⟨(hp.kw hi).im (hq.kw hi),DQ l (by omega),.inr (.inr (.inl ⟨rfl,rfl,_,a1.le tE,a2⟩))⟩)
 have e1:=h1.same;have e2:=h2.same;have e3:=h3.same
 constructor
 ·simp only [gH]
  rw [←e1,←e2];exact e3
 exact h3.dI
end
end Go.Proofs.Wit
namespace Go.Proofs.Wit
open Go Go.RowKit
/-! contraries, alternatives, carried formulas: the lines are right -/
theorem oV {t:Tr} (h:Fit (fe t)):Fit (aE t)∧fe t=(aN t).2:=by
 unfold fe at*
 split at h
 ·rename_i hf;rw [if_pos hf];exact ⟨hf,rfl⟩
 rename_i hf;exact absurd h hf
theorem uO {t c:Tr} (h:Fit (aE t)) (hc:c∈kids t):Fit (aE c):=by
 have h1:=jk hc
 have h2:(bX (aE t)).length=(bX t).length+1:=sA
 have h3:(bX (aE c)).length=(bX c).length+1:=sA
 unfold Fit at*;omega
theorem pF {t:Tr} (h:Fit (aE t)):fe t=(aN t).2:=if_pos h
theorem sr {ei:Bool} {t:Tr} (h:Fit (lW ei t)):Fit (fe t):=by
 unfold lW at h
 split at h
 ·exact Fit.r h
 exact Fit.r (Fit.u h)
theorem oy {ei:Bool} {t:Tr} {v:Tr→Bool}:bZ v (lW ei t)=if ei=true then (bZ v t||bZ v (fe t)) else !(bZ v t && bZ v (fe t)):=by
 unfold lW
 split<;>rfl
theorem zq {ei:Bool} {t:Tr} {v:Tr→Bool} (h:bZ v (fe t)=!bZ v t):bZ v (lW ei t)=true:=by
 rw [oy,h];cases bZ v t<;>cases ei<;>rfl
theorem vW {ei:Bool} {t:Tr} (h:og t) (hok:t.ok):eW (lW ei t):=by
 unfold lW;split
 ·exact (h.fr hok).or (h.op hok)
 exact ((h.fr hok).ad (h.op hok)).nt
theorem yz {op i e g:Int} {v:Tr→Bool} (h:op≤3) (h1:1≤op):bZ v (aN (.leaf op i e g)).2=!bZ v (.leaf op i e g):=by
 rw [aN];dsimp only
 rcases (by omega:op=1∨op=2∨op=3) with rfl|rfl|rfl
 ·rw [if_pos rfl];rfl
 ·rw [if_neg (by decide),if_pos rfl];rfl
 rw [if_neg (by decide),if_neg (by decide)];rfl
section
variable {l:Int} {σ:Sg}
theorem A5 {ei:Bool} {op i e g:Int} {a:Tr} {x:Nat} (ho:op=9∨op=10) (ha:og a) (hok:(Tr.un op i e g a).ok) (h:Good l σ) (hx:di σ x (lW ei a)):sH l (fun T=>pN T ei op i a (.un op i e g a) x) σ:=by
 obtain ⟨hi,rfl,rfl⟩:=mV hok ho
 have hao:a.ok:=hok.2.2.2.2
 have fa:=ha.fr hao
 have fo:=ha.op hao
 have fu:eW (uT op a):=by unfold uT;split<;>assumption
 have fv:eW (vT op a):=by unfold vT;split<;>assumption
 have fp:eW (oH ei op a):=by
  unfold oH;split
  ·exact fv.nt
  exact fu
 have fq:eW (oG ei op a):=by
  unfold oG;split
  ·exact fu
  exact fv.nt
 have h1:sH l (fun T=>aU T (aP (oH ei op a) (oG ei op a)) [x]) σ:=dU h (fp.im fq) (fun hb n hn=>by rw [List.mem_singleton.1 hn];exact (hx hb).1) (fun hb hf v hv=>by
  have h2:=hv x (List.mem_singleton.2 rfl)
  rw [(hx hb).2,oy] at h2
  rw [oL]
  unfold oH oG uT vT
  rcases ho with rfl|rfl
  ·simp only [if_true]
   cases ei
   ·simp only [Bool.false_eq_true,if_false,qJ] at h2⊢
    cases e1:bZ v a<;>cases e2:bZ v (fe a)<;>simp_all
   simp only [if_true,qJ] at h2⊢
   cases e1:bZ v a<;>cases e2:bZ v (fe a)<;>simp_all
  simp only [show ¬(10:Int)=9 from by decide,if_false]
  cases ei
  ·simp only [Bool.false_eq_true,if_false,qJ] at h2⊢
   cases e1:bZ v a<;>cases e2:bZ v (fe a)<;>simp_all
  simp only [if_true,qJ] at h2⊢
  cases e1:bZ v a<;>cases e2:bZ v (fe a)<;>simp_all)
 have h2:=vS (i:=i) (p:=oH ei op a) (q:=oG ei op a) (n:=(aU af (aP (oH ei op a) (oG ei op a)) [x] σ).1) hi h1.dI fp fq eD
 have h3:=rP (i:=i) (v:=vT op a) hi h2.dI fv
 have k1:di _ _ (aP (ar i (oH ei op a)) (ar i (oG ei op a))):=lA (T:=af) (i:=i) (p:=oH ei op a) (q:=oG ei op a) (l:=(aU af (aP (oH ei op a) (oG ei op a)) [x] σ).1) (σ:=(aU af (aP (oH ei op a) (oG ei op a)) [x] σ).2)
 have k2:di _ _ (nE (ga i (vT op a)) (aE (ar i (aE (vT op a))))):=bP (T:=af) (t:=nE (ga i (vT op a)) (aE (ar i (aE (vT op a))))) (r:=7) (a:=0) (b:=0) (gg:=0) (σ:=(gH af i (oH ei op a) (oG ei op a) (aU af (aP (oH ei op a) (oG ei op a)) [x] σ).1 (aU af (aP (oH ei op a) (oG ei op a)) [x] σ).2).2)
 have k1':=k1.le (jA (T:=af) (i:=i) (v:=vT op a))
 have hnf:og (.un op i 0 0 a):=.inr ⟨ho,ha⟩
 have h4:=dU (g:=lW ei (.un op i 0 0 a)) (from_:=[(gH af i (oH ei op a) (oG ei op a) (aU af (aP (oH ei op a) (oG ei op a)) [x] σ).1 (aU af (aP (oH ei op a) (oG ei op a)) [x] σ).2).1,(dS af i (vT op a) (gH af i (oH ei op a) (oG ei op a) (aU af (aP (oH ei op a) (oG ei op a)) [x] σ).1 (aU af (aP (oH ei op a) (oG ei op a)) [x] σ).2).2).1]) h3.dI (vW hnf hok) (fun hb n hn=>by
   simp only [List.mem_cons,List.not_mem_nil,or_false] at hn
   rcases hn with rfl|rfl
   ·exact (k1' hb).1
   exact (k2 hb).1) (fun hb hf v hv=>by
  have e1:=hv _ (List.mem_cons_self ..)
  have e2:=hv _ (List.mem_cons_of_mem _ (List.mem_cons_self ..))
  have g1:=(k1' hb).2
  have g2:=(k2 hb).2
  rw [g1] at e1
  have e2:bZ v (nE (ga i (vT op a)) (aE (ar i (aE (vT op a)))))=true:=g2 ▸ e2
  obtain ⟨f1,f2⟩:=oV (sr hf)
  have f3:fe a=(aN a).2:=pF (uO f1 (List.mem_cons_self ..))
  rw [oy,f2]
  rw [oL] at e1
  rw [Bw,qJ] at e2
  rcases ho with rfl|rfl
  ·have f4:(aN (.un 9 i 0 0 a)).2=ga i (fe a):=by rw [aN,if_neg (by decide),if_pos rfl,f3]
   rw [f4]
   have u1:uT 9 a=a:=if_pos rfl
   have u2:vT 9 a=fe a:=if_pos rfl
   unfold oH oG at e1
   rw [u2] at e2
   rw [u1,u2] at e1
   cases ei
   ·simp only [Bool.false_eq_true,if_false] at e1⊢
    cases x1:bZ v (.un 9 i 0 0 a)<;>cases x2:bZ v (ga i (fe a))<;>cases x3:bZ v (ar i (aE (fe a)))<;>simp_all
   simp only [if_true] at e1⊢
   cases x1:bZ v (.un 9 i 0 0 a)<;>cases x2:bZ v (ga i (fe a))<;>cases x3:bZ v (ar i (aE (fe a)))<;>simp_all
  have f4:(aN (.un 10 i 0 0 a)).2=ar i (fe a):=by rw [aN,if_neg (by decide),if_neg (by decide),if_pos rfl,f3]
  rw [f4]
  have u1:uT 10 a=fe a:=if_neg (by decide)
  have u2:vT 10 a=a:=if_neg (by decide)
  unfold oH oG at e1
  rw [u2] at e2
  rw [u1,u2] at e1
  cases ei
  ·simp only [Bool.false_eq_true,if_false] at e1⊢
   cases x1:bZ v (.un 10 i 0 0 a)<;>cases x2:bZ v (ar i (fe a))<;>cases x3:bZ v (ar i (aE a))<;>simp_all
  simp only [if_true] at e1⊢
  cases x1:bZ v (.un 10 i 0 0 a)<;>cases x2:bZ v (ar i (fe a))<;>cases x3:bZ v (ar i (aE a))<;>simp_all)
 have s1:=h1.same;have s2:=h2.same;have s3:=h3.same;have s4:=h4.same
 constructor
 ·simp only [pN]
  rw [←s1,←s2,←s3];exact s4
 exact h4.dI
theorem lQ {ei:Bool}:∀{t:Tr},og t→t.ok→∀{σ:Sg},Good l σ→sH l (fun T=>aI T ei t) σ
 |.leaf op i e g,hn,hok,σ,h=>by
  have h1:sH l (fun T=>aU T (lW ei (.leaf op i e g)) []) σ:=dU h (vW hn hok) (fun _ n hn=>by cases hn) (fun _ hf v _=>zq (by
   rw [(oV (sr hf)).2];exact yz hn hok.1.1))
  exact ⟨by simp only [aI];exact h1.same,by simp only [aI];exact h1.dI⟩
 |.un op i e g a,hn,hok,σ,h=>by
  by_cases ho:op=9∨op=10
  ·have ha:og a:=by
    rcases hn with ⟨h1,_⟩|⟨_,h1⟩
    ·omega
    exact h1
   have h1:=lQ (ei:=ei) ha hok.2.2.2.2 h
   have h2:=A5 (ei:=ei) (i:=i) (e:=e) (g:=g) (x:=(aI af ei a σ).1) ho ha hok h1.dI eA
   have s1:=h1.same;have s2:=h2.same
   constructor
   ·simp only [aI]
    rw [if_pos ho,if_pos ho,←s1];exact s2
   simp only [aI]
   rw [if_pos ho];exact h2.dI
  have h1:sH l (fun T=>aU T (lW ei (.un op i e g a)) []) σ:=dU h (vW hn hok) (fun _ n hn=>by cases hn) (fun _ hf v _=>zq (by
   rw [(oV (sr hf)).2]
   rcases hn with ⟨rfl,j,e',g',rfl⟩|⟨h1,_⟩
   ·rw [aN,if_pos rfl,aN]
    show _=!(!_)
    rw [Bool.not_not]
   exact absurd h1 ho))
  exact ⟨by simp only [aI];rw [if_neg ho,if_neg ho];exact h1.same,by simp only [aI];rw [if_neg ho];exact h1.dI⟩
 |.bin op i e g a b,hn,hok,σ,h=>by
  have h1:=lQ (ei:=ei) hn.2.1 hok.2.2.2.1 h
  have h2:=lQ (ei:=ei) hn.2.2 hok.2.2.2.2 h1.dI
  have k1:di _ _ (lW ei a):=eA (T:=af) (ei:=ei) (t:=a) (σ:=σ)
  have k2:di _ _ (lW ei b):=eA (T:=af) (ei:=ei) (t:=b) (σ:=(aI af ei a σ).2)
  have k1':=k1.le (ic (T:=af) (ei:=ei) (t:=b))
  have h3:=dU (g:=lW ei (.bin op i e g a b)) (from_:=[(aI af ei a σ).1,(aI af ei b (aI af ei a σ).2).1]) h2.dI (vW hn hok) (fun hb n hn=>by
   simp only [List.mem_cons,List.not_mem_nil,or_false] at hn
   rcases hn with rfl|rfl
   ·exact (k1' hb).1
   exact (k2 hb).1) (fun hb hf v hv=>by
   have e1:=hv _ (List.mem_cons_self ..)
   have e2:=hv _ (List.mem_cons_of_mem _ (List.mem_cons_self ..))
   rw [(k1' hb).2,oy] at e1
   rw [(k2 hb).2,oy] at e2
   obtain ⟨f1,f2⟩:=oV (sr hf)
   have fa:fe a=(aN a).2:=pF (uO f1 (List.mem_cons_self ..))
   have fb:fe b=(aN b).2:=pF (uO f1 (List.mem_cons_of_mem _ (List.mem_cons_self ..)))
   rw [oy,f2]
   rcases hn.1 with rfl|rfl
   ·have f4:(aN (.bin 5 i e g a b)).2=.bin 6 0 0 0 (fe a) (fe b):=by rw [aN,if_pos rfl,fa,fb]
    have f5:bZ v (.bin 5 i e g a b)=(bZ v a && bZ v b):=rfl
    rw [f4,FM,f5]
    cases ei<;>cases x1:bZ v a<;>cases x2:bZ v b<;>cases x3:bZ v (fe a)<;>cases x4:bZ v (fe b)<;>simp_all
   have f4:(aN (.bin 6 i e g a b)).2=ju (fe a) (fe b):=by rw [aN,if_neg (by decide),if_pos rfl,fa,fb]
   rw [f4,FM,G1]
   cases ei<;>cases x1:bZ v a<;>cases x2:bZ v b<;>cases x3:bZ v (fe a)<;>cases x4:bZ v (fe b)<;>simp_all)
  have s1:=h1.same;have s2:=h2.same;have s3:=h3.same
  constructor
  ·simp only [aI]
   rw [←s1,←s2];exact s3
  simp only [aI];exact h3.dI
theorem BL {i:Int} {f z:Tr} (hi:0≤i∧i<4) (hz:eW z) (hf:(f=ar i z∧cm l 4=true)∨(f=ga i z∧cm l 5=true)) (h:Good l σ):sH l (fun T=>kR T i f) σ:=by
 rcases hf with ⟨rfl,h4⟩|⟨rfl,h5⟩
 ·exact gA h (fun _ _=>⟨(hz.kw hi).im ((hz.kw hi).kw hi),h4,.inr (.inl ⟨by decide,by decide,rfl,rfl,rfl,⟨i,z,rfl⟩⟩)⟩)
 have fnz:eW (aE (ar i (aE z))):=(hz.nt.kw hi).nt
 have h1:=rP (i:=i) (v:=z) hi h hz
 have k1:di _ _ (nE (ga i z) (aE (ar i (aE z)))):=bP (T:=af) (t:=nE (ga i z) (aE (ar i (aE z)))) (r:=7) (a:=0) (b:=0) (gg:=0) (σ:=σ)
 have h2:=gA (t:=aP (aE (ar i (aE z))) (ar i (aE (ar i (aE z))))) (r:=5) (a:=0) (b:=0) (g:=0) h1.dI (fun _ _=>⟨fnz.im (fnz.kw hi),h5,.inr (.inl ⟨by decide,by decide,rfl,rfl,rfl,⟨i,aE z,rfl⟩⟩)⟩)
 have k2:=bP (T:=af) (t:=aP (aE (ar i (aE z))) (ar i (aE (ar i (aE z))))) (r:=5) (a:=0) (b:=0) (gg:=0) (σ:=(dS af i z σ).2)
 obtain ⟨σ1,e1⟩:∃s,s=dS af i z σ:=⟨_,rfl⟩
 obtain ⟨σ2,e2⟩:∃s,s=bR af (aP (aE (ar i (aE z))) (ar i (aE (ar i (aE z))))) 5 0 0 0 σ1.2:=⟨_,rfl⟩
 have k1a:di σ1.2 σ1.1 (nE (ga i z) (aE (ar i (aE z)))):=by rw [e1];exact k1
 have g1:Good l σ1.2:=by rw [e1];exact h1.dI
 have le2:σ1.2.Le σ2.2:=by rw [e2];exact db
 have k2a:di σ2.2 σ2.1 (aP (aE (ar i (aE z))) (ar i (aE (ar i (aE z))))):=by rw [e2,e1];exact k2
 have g2:Good l σ2.2:=by rw [e2,e1];exact h2.dI
 have h3:=dU (g:=aP (aE (ar i (aE z))) (ga i z)) (from_:=[σ1.1]) g2 (fnz.im (hz.po hi)) (fun hb n hn=>by rw [List.mem_singleton.1 hn];exact ((k1a.le le2) hb).1) (fun hb _ v hv=>by
  have q:=hv _ (List.mem_singleton.2 rfl)
  rw [((k1a.le le2) hb).2,Bw] at q
  rw [oL]
  cases x1:bZ v (ga i z)<;>cases x2:bZ v (aE (ar i (aE z)))<;>simp_all)
 obtain ⟨σ3,e3⟩:∃s,s=aU af (aP (aE (ar i (aE z))) (ga i z)) [σ1.1] σ2.2:=⟨_,rfl⟩
 have le3:σ2.2.Le σ3.2:=by rw [e3];exact cY
 have g3:Good l σ3.2:=by rw [e3];exact h3.dI
 have k3:di σ3.2 σ3.1 (aP (aE (ar i (aE z))) (ga i z)):=by rw [e3];exact eD
 have h4:=vS (i:=i) (p:=aE (ar i (aE z))) (q:=ga i z) (n:=σ3.1) hi g3 fnz (hz.po hi) k3
 obtain ⟨σ4,e4⟩:∃s,s=gH af i (aE (ar i (aE z))) (ga i z) σ3.1 σ3.2:=⟨_,rfl⟩
 have le4:σ3.2.Le σ4.2:=by rw [e4];exact ng
 have g4:Good l σ4.2:=by rw [e4];exact h4.dI
 have k4:di σ4.2 σ4.1 (aP (ar i (aE (ar i (aE z)))) (ar i (ga i z))):=by rw [e4];exact lA
 have k1b:=k1a.le (le2.trans (le3.trans le4))
 have k2b:=k2a.le (le3.trans le4)
 have h5':=dU (g:=aP (ga i z) (ar i (ga i z))) (from_:=[σ1.1,σ2.1,σ4.1]) g4 ((hz.po hi).im ((hz.po hi).kw hi)) (fun hb n hn=>by
  simp only [List.mem_cons,List.not_mem_nil,or_false] at hn
  rcases hn with rfl|rfl|rfl
  ·exact (k1b hb).1
  ·exact (k2b hb).1
  exact (k4 hb).1) (fun hb _ v hv=>by
  have q1:=hv _ (List.mem_cons_self ..)
  have q2:=hv _ (List.mem_cons_of_mem _ (List.mem_cons_self ..))
  have q3:=hv _ (List.mem_cons_of_mem _ (List.mem_cons_of_mem _ (List.mem_cons_self ..)))
  rw [(k1b hb).2,Bw] at q1
  rw [(k2b hb).2,oL] at q2
  rw [(k4 hb).2,oL] at q3
  rw [oL]
  cases x1:bZ v (ga i z)<;>cases x2:bZ v (aE (ar i (aE z)))<;>cases x3:bZ v (ar i (aE (ar i (aE z))))<;>cases x4:bZ v (ar i (ga i z))<;>simp_all)
 have s1:=h1.same;have s2:=h2.same;have s3:=h3.same;have s4:=h4.same;have s5:=h5'.same
 rw [←e1] at s1 s2
 rw [←e2] at s2
 rw [←e3] at s3
 rw [←e4] at s4
 constructor
 ·simp only [kR]
  rw [←s1,←e1,←s2,←e2,←s3,←e3,←s4,←e4];exact s5
 simp only [kR]
 rw [←e1,←e2,←e3,←e4];exact h5'.dI
end
end Go.Proofs.Wit
namespace Go.Proofs.Wit
open Go Go.RowKit
/-! refutations: steps, sets, what is right, what is used -/
structure SD where
  set:ay
  av:Int
  on:Int
  e:Int
  fr:List Int
structure SV where
  d:SD
  fa:Option Addr
  fc:Nat
def nd (b:List NV) (i:Int):NV:=b.getD i.toNat ⟨0,0,0,0,0,0⟩
def tA (b:List NV) (i:Int):Tr:=aa b i.toNat
def eT (s:ay) (i:Int):Bool:=decide (0≤i∧i<64) && s.getLsbD i.toNat
def bW (i:Int):ay:=1#64<<<i.toNat
theorem pU {s:ay} {i:Nat}:eT s i=true↔s.getLsbD i=true:=by
 unfold eT
 simp only [Bool.and_eq_true,decide_eq_true_eq,Int.toNat_natCast]
 exact ⟨fun h=>h.2,fun h=>⟨⟨by omega,by have:=BitVec.lt_of_getLsbD h;omega⟩,h⟩⟩
theorem fN {s:ay} {i:Int}:eT s i=true↔∃k:Nat,i=k∧k<64∧s.getLsbD k=true:=by
 unfold eT
 simp only [Bool.and_eq_true,decide_eq_true_eq]
 exact ⟨fun h=>⟨i.toNat,by omega,by omega,h.2⟩,fun ⟨k,h1,h2,h3⟩=>⟨by omega,by subst h1;exact h3⟩⟩
theorem nZ {i:Int} {k:Nat} (h:0≤i∧i<64):(bW i).getLsbD k=true↔(k:Int)=i:=by
 unfold bW
 rw [vx (by omega)];omega
noncomputable def jw (b:List NV) (i:Int):Int:=match (List.range b.length).find? (fun j=>decide (aa b j=fe (tA b i))) with
 |some j=>(j:Int)
 |none=>-1
theorem re {b:List NV} {i:Int} {j:Nat} (hj:j<b.length) (h:aa b j=fe (tA b i)) (hf:∀k,k<j→aa b k≠fe (tA b i)):jw b i=j:=by
 have:(List.range b.length).find? (fun j=>decide (aa b j=fe (tA b i)))=some j:=by
  rw [List.find?_range_eq_some]
  exact ⟨by simpa using h,by simpa using hj,fun k hk=>by simpa using hf k hk⟩
 unfold jw;rw [this]
theorem wM {b:List NV} {i:Int} (hf:∀k,k<b.length→aa b k≠fe (tA b i)):jw b i=-1:=by
 have:(List.range b.length).find? (fun j=>decide (aa b j=fe (tA b i)))=none:=by
  rw [List.find?_eq_none]
  intro k hk
  simpa using hf k (List.mem_range.1 hk)
 unfold jw;rw [this]
theorem vE {b:List NV} {i:Int} (h:0≤jw b i):∃j:Nat,jw b i=j∧j<b.length∧aa b j=fe (tA b i):=by
 cases e:(List.range b.length).find? (fun j=>decide (aa b j=fe (tA b i))) with
 |none=>unfold jw at h;rw [e] at h;exact absurd h (by decide)
 |some j=>
  have h1:=List.mem_of_find?_eq_some e
  have h2:=List.find?_some e
  exact ⟨j,by unfold jw;rw [e],List.mem_range.1 h1,by simpa using h2⟩
def tC (l:Int):Prop:=l=3∨l=4∨l=5∨l=6
def uR (l:Int):Prop:=l=5∨l=6
instance {l:Int}:Decidable (tC l):=by unfold tC;infer_instance
instance {l:Int}:Decidable (uR l):=by unfold uR;infer_instance
def xd (l:Int) (b:List NV) (i:Int):ay:=(if (nd b i).op=9 then bW (nd b i).x else 0#64)|||(if ((nd b i).op=9∧tC l)∨((nd b i).op=10∧uR l) then bW i else 0#64)
def lD (l:Int) (b:List NV) (s:ay) (ag:Int):Nat→ay
 |0=>0#64
 |k+1=>if eT s k=true∧(nd b k).i=ag then lD l b s ag k|||xd l b k else lD l b s ag k
def lE (l:Int) (b:List NV) (s:ay) (ag:Int):ay:=lD l b s ag b.length
def jt (b:List NV) (s:ay):Prop:=∀k,s.getLsbD k=true→k<b.length
def de (ss:List SD) (k:Int):ay:=(ss.map SD.set).getD k.toNat 0#64
def eG (ss:List SD) (k:Nat):List Int→List ay→Prop
 |[],[]=>True
 |f::fs,s::us=>((0≤f∧f<k)∧de ss f &&& ~~~ s=0#64)∧eG ss k fs us
 |_,_=>False
def z8 (b:List NV) (x:SD) (op:Int):Prop:=x.on<b.length∧eT x.set x.on=true∧(nd b x.on).op=op
def ej (l:Int) (b:List NV) (ss:List SD) (k:Nat) (x:SD):Prop:=
 jt b x.set∧(
 (x.av=1∧x.fr=[]∧((z8 b x 2∧x.e=0)∨(eT x.set x.on=true∧x.on<b.length∧eT x.set x.e=true∧jw b x.on=x.e)))∨
 (x.av=2∧x.e=0∧z8 b x 5∧eG ss k x.fr [x.set|||bW (nd b x.on).x|||bW (nd b x.on).y])∨
 (x.av=3∧x.e=0∧z8 b x 6∧eG ss k x.fr [x.set|||bW (nd b x.on).x,x.set|||bW (nd b x.on).y])∨
 (x.av=4∧(0≤x.on∧x.on<b.length)∧0≤x.e∧jw b x.on=x.e∧eG ss k x.fr [x.set|||bW x.on,x.set|||bW x.e])∨
 (x.av=5∧x.e=0∧(l=2∨l=4∨l=6)∧z8 b x 9∧eG ss k x.fr [x.set|||bW (nd b x.on).x])∨
 (x.av=6∧x.e=0∧z8 b x 10∧eG ss k x.fr [bW (nd b x.on).x|||lE l b x.set (nd b x.on).i])∨
 (x.av=7∧x.e=0∧(l=1∨l=5)∧(0≤x.on∧x.on<4)∧eG ss k x.fr [lE l b x.set x.on]))
def eF (b:List NV) (n:NV):Prop:=(n.op=1∨n.op=2∨n.op=3∨n.op=5∨n.op=6∨n.op=9∨n.op=10)∨(n.op=4∧(nd b n.x).op=3)
open Classical in
noncomputable def kk (b:List NV):Int:=if aV b≠0 then aV b else if 64<b.length then 8 else if ∀n∈b,eF b n then 0 else 10
noncomputable def eI (l:Int) (b:List NV) (m:Nat):Int:=if ¬(0≤l∧l≤6) then 2 else if kk b≠0 then kk b else if m=0∨4096<m then 3 else 0
open Classical in
noncomputable def nJ (l:Int) (b:List NV) (ss:List SD):Int:=if eI l b ss.length≠0 then eI l b ss.length else if ∀(k:Nat) (hk:k<ss.length),ej l b ss k ss[k] then 0 else 13
theorem mr {b:List NV}:kk b=0↔aV b=0∧b.length≤64∧∀n∈b,eF b n:=by
 unfold kk
 by_cases h2:aV b=0
 ·rw [if_neg (by simp [h2])]
  by_cases h3:64<b.length
  ·rw [if_pos h3];exact ⟨fun h=>absurd h (by decide),fun h=>by omega⟩
  rw [if_neg h3]
  by_cases h4:∀n∈b,eF b n
  ·rw [if_pos h4];exact ⟨fun _=>⟨h2,by omega,h4⟩,fun _=>rfl⟩
  rw [if_neg h4];exact ⟨fun h=>absurd h (by decide),fun h=>absurd h.2.2 h4⟩
 rw [if_pos h2];exact ⟨fun h=>absurd h h2,fun h=>absurd h.1 h2⟩
theorem mm {l:Int} {b:List NV} {m:Nat}:eI l b m=0↔(0≤l∧l≤6)∧kk b=0∧0<m∧m≤4096:=by
 unfold eI
 by_cases h1:0≤l∧l≤6
 ·rw [if_neg (by simp [h1])]
  by_cases h2:kk b=0
  ·rw [if_neg (by simp [h2])]
   by_cases h3:m=0∨4096<m
   ·rw [if_pos h3];exact ⟨fun h=>absurd h (by decide),fun h=>by omega⟩
   rw [if_neg h3];exact ⟨fun _=>⟨h1,h2,by omega⟩,fun _=>rfl⟩
  rw [if_pos h2];exact ⟨fun h=>absurd h h2,fun h=>absurd h.2.1 h2⟩
 rw [if_pos h1];exact ⟨fun h=>absurd h (by decide),fun h=>absurd h.1 h1⟩
theorem yb {l:Int} {b:List NV} {ss:List SD}:nJ l b ss=0↔(0≤l∧l≤6)∧(aV b=0∧b.length≤64∧∀n∈b,eF b n)∧(0<ss.length∧ss.length≤4096)∧∀(k:Nat) (hk:k<ss.length),ej l b ss k ss[k]:=by
 unfold nJ
 by_cases h1:eI l b ss.length=0
 ·rw [if_neg (by simp [h1])]
  have h2:=mm.1 h1
  have h3:=mr.1 h2.2.1
  by_cases h6:∀(k:Nat) (hk:k<ss.length),ej l b ss k ss[k]
  ·rw [if_pos h6];exact ⟨fun _=>⟨h2.1,h3,h2.2.2,h6⟩,fun _=>rfl⟩
  rw [if_neg h6];exact ⟨fun h=>absurd h (by decide),fun h=>absurd h.2.2.2 h6⟩
 rw [if_pos h1]
 exact ⟨fun h=>absurd h h1,fun ⟨a,c,d,_⟩=>absurd (mm.2 ⟨a,mr.2 c,d⟩) h1⟩
/-! what is used -/
def fy (b:List NV) (s:ay) (ag:Int) (n:Nat):Nat:=((List.range b.length).find? (fun i=>s.getLsbD i && ((nd b i).op==9 && ((nd b i).i==ag && (nd b i).x==(n:Int))))).getD n
def xP (b:List NV) (s:ay) (ag:Int) (p:ay):ay:=(dV p).foldl (fun o n=>o|||1#64<<<fy b s ag n) 0#64
def jK (b:List NV) (x:SD) (bf:List ay):ay:=
 let p:=bf.getD (x.fr.getD 0 0).toNat 0#64
 let q:=bf.getD (x.fr.getD 1 0).toNat 0#64
 let n:=nd b x.on
 if x.av=1 then (if n.op=2 then bW x.on else bW x.on|||bW x.e)
 else if x.av=4 then p &&& ~~~ bW x.on|||q &&& ~~~ bW x.e
 else if x.av=7 then xP b x.set x.on p
 else if x.av=2 then p &&& ~~~ (bW n.x|||bW n.y)|||bW x.on
 else if x.av=3 then p &&& ~~~ bW n.x|||q &&& ~~~ bW n.y|||bW x.on
 else if x.av=5 then p &&& ~~~ bW n.x|||bW x.on
 else xP b x.set n.i (p &&& ~~~ bW n.x)|||bW x.on
def eR (b:List NV) (ss:List SD):Nat→List ay
 |0=>[]
 |k+1=>match ss[k]? with
  |some x=>eR b ss k++[jK b x (eR b ss k)]
  |none=>eR b ss k
theorem lJ {b:List NV} {ss:List SD} {k:Nat} (hk:k<ss.length):eR b ss (k+1)=eR b ss k++[jK b ss[k] (eR b ss k)]:=by
 rw [eR,List.getElem?_eq_getElem hk]
theorem kV {b:List NV} {ss:List SD}:∀{k:Nat},k≤ss.length→(eR b ss k).length=k
 |0,_=>rfl
 |k+1,h=>by rw [lJ (by omega),List.length_append,kV (by omega)];rfl
theorem sO {b:List NV} {ss:List SD} {j:Nat}:∀{k:Nat},j≤k→k≤ss.length→eR b ss j<+:eR b ss k
 |0,h,_=>by rw [show j=0 by omega];exact List.prefix_refl _
 |k+1,h,h2=>by
  by_cases e:j=k+1
  ·rw [e];exact List.prefix_refl _
  rw [lJ (by omega)]
  exact (sO (by omega) (by omega)).trans (List.prefix_append _ _)
def oQ (b:List NV) (ss:List SD) (k:Nat):ay:=(eR b ss ss.length).getD k 0#64
theorem mz {b:List NV} {ss:List SD} {j k:Nat} (hj:j<k) (hk:k≤ss.length):(eR b ss k).getD j 0#64=oQ b ss j:=by
 obtain ⟨u,hu⟩:=sO (b:=b) (ss:=ss) hk (Nat.le_refl _)
 unfold oQ
 rw [←hu,List.getD_eq_getElem?_getD,List.getD_eq_getElem?_getD,List.getElem?_append_left (by rw [kV hk];exact hj)]
theorem CJ {b:List NV} {ss:List SD} {k:Nat} (hk:k<ss.length):oQ b ss k=jK b ss[k] (eR b ss k):=by
 rw [←mz (Nat.lt_succ_self k) (by omega),lJ hk,List.getD_eq_getElem?_getD,List.getElem?_append_right (by rw [kV (by omega)];exact Nat.le_refl _)]
 simp [kV (Nat.le_of_lt hk)]
/-! what is needed -/
inductive xu (ss:List SD):Nat→Prop
  |last {k:Nat}:k+1=ss.length→xu ss k
  |fr {k j:Nat} (hk:k<ss.length):xu ss k→(j:Int)∈ss[k].fr→xu ss j
open Classical in
noncomputable def dG (ss:List SD) (k:Nat):Bool:=decide (xu ss k)
theorem ep {ss:List SD} {k:Nat}:dG ss k=true↔xu ss k:=by unfold dG;exact @decide_eq_true_iff _ (Classical.propDecidable _)
noncomputable def gD (b:List NV) (ss:List SD) (k:Nat) (x:SD):SD:=
 ⟨oQ b ss k,x.av,x.on,if x.av=1∧(nd b x.on).op=2 then 0 else x.e,x.fr.map (fun j=>((bJ (dG ss) j.toNat:Nat):Int))⟩
noncomputable def mF (b:List NV) (ss:List SD):Nat→List SD
 |0=>[]
 |k+1=>match ss[k]? with
  |some x=>if dG ss k=true then mF b ss k++[gD b ss k x] else mF b ss k
  |none=>mF b ss k
noncomputable def dk (b:List NV) (ss:List SD):List SD:=mF b ss ss.length
theorem jX {b:List NV} {ss:List SD} {k:Nat} (hk:k<ss.length):mF b ss (k+1)=if dG ss k=true then mF b ss k++[gD b ss k ss[k]] else mF b ss k:=by
 rw [mF,List.getElem?_eq_getElem hk]
theorem kY {b:List NV} {ss:List SD}:∀{k:Nat},k≤ss.length→(mF b ss k).length=bJ (dG ss) k
 |0,_=>by simp [mF,bJ]
 |k+1,h=>by
  have h1:=kY (b:=b) (ss:=ss) (k:=k) (by omega)
  rw [jX (by omega),gj]
  split<;>simp [h1]
theorem vh {b:List NV} {ss:List SD} {j:Nat} (hn:dG ss j=true):∀{k:Nat},k≤ss.length→j<k→∀hj:j<ss.length,(mF b ss k)[bJ (dG ss) j]?=some (gD b ss j ss[j])
 |0,_,h,_=>by omega
 |k+1,h,h2,hj=>by
  rw [jX (by omega)]
  by_cases e:j=k
  ·subst e
   rw [if_pos hn,List.getElem?_append_right (by rw [kY (by omega)];exact Nat.le_refl _),kY (by omega)]
   simp
  have h3:=vh (b:=b) hn (k:=k) (by omega) (by omega) hj
  split
  ·rw [List.getElem?_append_left (List.getElem?_eq_some_iff.1 h3).1];exact h3
  exact h3
end Go.Proofs.Wit
namespace Go.Proofs.Wit
open Go Go.RowKit
/-! trimmed refutations are right -/
theorem mH {s t:ay}:s &&& ~~~ t=0#64↔∀k,s.getLsbD k=true→t.getLsbD k=true:=by
 constructor
 ·intro h k hk
  have:=congrArg (fun x=>x.getLsbD k) h
  simp only [BitVec.getLsbD_and,BitVec.getLsbD_not,hk,BitVec.getLsbD_zero,Bool.true_and] at this
  have h64:=BitVec.lt_of_getLsbD hk
  simpa [h64] using this
 intro h
 apply BitVec.eq_of_getLsbD_eq
 intro i hi
 simp only [BitVec.getLsbD_and,BitVec.getLsbD_not,BitVec.getLsbD_zero]
 cases hs:s.getLsbD i with
 |false=>rfl
 |true=>simp [h i hs]
theorem cR {s t:ay} {k:Nat}:(s|||t).getLsbD k=true↔s.getLsbD k=true∨t.getLsbD k=true:=by simp
theorem gv {s t:ay} {k:Nat}:(s &&& ~~~ t).getLsbD k=true↔s.getLsbD k=true∧¬t.getLsbD k=true:=by
 simp only [BitVec.getLsbD_and,BitVec.getLsbD_not,Bool.and_eq_true,decide_eq_true_eq,Bool.not_eq_true',Bool.not_eq_true]
 exact ⟨fun h=>⟨h.1,h.2.2⟩,fun h=>⟨h.1,BitVec.lt_of_getLsbD h.1,h.2⟩⟩
structure aW (b:List NV):Prop where
  jF:aV b=0
  len:b.length≤64
  Cd:∀n∈b,eF b n
section
variable {l:Int} {b:List NV} {ss:List SD}
theorem dH {i:Nat} (hi:i<b.length):nd b i=b[i]:=by simp [nd,List.getD_eq_getElem?_getD,hi]
theorem aW.x (h:aW b) {i:Nat} (hi:i<b.length) (hX:4≤(nd b i).op):0≤(nd b i).x∧(nd b i).x<i:=by
 rw [dH hi] at*
 have ho:=(aD.1 h.jF).nodes i hi
 have h1:=h.Cd _ (List.getElem_mem hi)
 have hu:cD b[i].op=true:=by unfold cD;unfold eF at h1;simp;omega
 have:=ho.x hu;omega
theorem aW.y (h:aW b) {i:Nat} (hi:i<b.length) (hX:(nd b i).op=5∨(nd b i).op=6):0≤(nd b i).y∧(nd b i).y<i:=by
 rw [dH hi] at*
 have ho:=(aD.1 h.jF).nodes i hi
 have hu:cn b[i].op=true:=by unfold cn;rcases hX with e|e<;>rw [e]<;>rfl
 have:=ho.y hu;omega
theorem fw {s:ay} {ag:Int} {n:Nat}:(∃i,fy b s ag n=i∧i<b.length∧s.getLsbD i=true∧(nd b i).op=9∧(nd b i).i=ag∧(nd b i).x=n∧∀j,j<i→s.getLsbD j=true→(nd b j).op=9→(nd b j).i=ag→(nd b j).x≠n)∨(fy b s ag n=n∧∀j,j<b.length→s.getLsbD j=true→(nd b j).op=9→(nd b j).i=ag→(nd b j).x≠n):=by
 cases e:(List.range b.length).find? (fun i=>s.getLsbD i && ((nd b i).op==9 && ((nd b i).i==ag && (nd b i).x==(n:Int)))) with
 |none=>
  refine .inr ⟨by unfold fy;rw [e];rfl,fun j hj h1 h2 h3 h4=>?_⟩
  rw [List.find?_eq_none] at e
  exact e j (List.mem_range.2 hj) (by simp [h1,h2,h3,h4])
 |some i=>
  rw [List.find?_range_eq_some] at e
  obtain ⟨e1,e2,e3⟩:=e
  simp only [Bool.and_eq_true,beq_iff_eq] at e1
  refine .inl ⟨i,?_,List.mem_range.1 e2,e1.1,e1.2.1,e1.2.2.1,e1.2.2.2,fun j hj h1 h2 h3 h4=>?_⟩
  ·have:(List.range b.length).find? (fun i=>s.getLsbD i && ((nd b i).op==9 && ((nd b i).i==ag && (nd b i).x==(n:Int))))=some i:=by
    rw [List.find?_range_eq_some]
    exact ⟨by simp [e1],e2,e3⟩
   unfold fy;rw [this];rfl
  have:=e3 j hj
  simp [h1,h2,h3,h4] at this
theorem AA (hl:b.length≤64) {s:ay} {ag:Int} {n:Nat} (hn:n<64):fy b s ag n<64:=by
 rcases fw (b:=b) (s:=s) (ag:=ag) (n:=n) with ⟨i,h1,h2,_⟩|⟨h1,_⟩
 ·omega
 omega
theorem vv {f:Nat→Nat}:∀{ns:List Nat} {o:ay} {k:Nat},(∀n∈ns,f n<64)→((ns.foldl (fun o n=>o|||1#64<<<f n) o).getLsbD k=true↔o.getLsbD k=true∨∃n∈ns,f n=k)
 |[],o,k,_=>by simp
 |n::ns,o,k,h=>by
  rw [List.foldl_cons,vv (fun m hm=>h m (List.mem_cons_of_mem _ hm)),cR,vx (h n (List.mem_cons_self ..))]
  simp only [List.mem_cons,exists_eq_or_imp]
  constructor
  ·rintro ((h1|h1)|h1)
   ·exact .inl h1
   ·exact .inr (.inl h1.symm)
   ·exact .inr (.inr h1)
  rintro (h1|h1|h1)
  ·exact .inl (.inl h1)
  ·exact .inl (.inr h1.symm)
  exact .inr h1
theorem cX {s:ay} {k:Nat}:k∈dV s↔s.getLsbD k=true:=by
 unfold dV
 rw [List.mem_filter,List.mem_range]
 exact ⟨fun h=>h.2,fun h=>⟨BitVec.lt_of_getLsbD h,h⟩⟩
theorem sS (hl:b.length≤64) {s p:ay} {ag:Int} {k:Nat}:(xP b s ag p).getLsbD k=true↔∃n,p.getLsbD n=true∧fy b s ag n=k:=by
 unfold xP
 rw [vv (fun n hn=>AA hl (BitVec.lt_of_getLsbD (cX.1 hn)))]
 simp only [BitVec.getLsbD_zero,Bool.false_eq_true,false_or,cX]
theorem nX (h:aW b) {s:ay} {ag:Int} {k:Nat}:∀{m:Nat},m≤b.length→((lD l b s ag m).getLsbD k=true↔∃i:Nat,i<m∧s.getLsbD i=true∧(nd b i).i=ag∧(((nd b i).op=9∧(nd b i).x=k)∨(k=i∧(((nd b i).op=9∧tC l)∨((nd b i).op=10∧uR l)))))
 |0,_=>by simp [lD]
 |m+1,hm=>by
  have hcn:(xd l b m).getLsbD k=true↔(((nd b m).op=9∧(nd b m).x=k)∨(k=m∧(((nd b m).op=9∧tC l)∨((nd b m).op=10∧uR l)))):=by
   unfold xd
   rw [cR]
   apply or_congr
   ·by_cases h9:(nd b m).op=9
    ·have:=h.x (i:=m) (by omega) (by omega)
     have:=h.len
     rw [if_pos h9,nZ (by omega)]
     exact ⟨fun e=>⟨h9,e.symm⟩,fun e=>e.2.symm⟩
    ·rw [if_neg h9];simp [h9]
   by_cases h9:((nd b m).op=9∧tC l)∨((nd b m).op=10∧uR l)
   ·have:=h.len
    rw [if_pos h9,nZ (by omega)]
    exact ⟨fun e=>⟨by omega,h9⟩,fun e=>by omega⟩
   rw [if_neg h9];simp [h9]
  rw [lD]
  by_cases h1:eT s m=true∧(nd b m).i=ag
  ·rw [if_pos h1,cR,nX h (by omega),hcn]
   constructor
   ·rintro (⟨i,h2,h3⟩|h2)
    ·exact ⟨i,by omega,h3⟩
    ·exact ⟨m,by omega,pU.1 h1.1,h1.2,h2⟩
   rintro ⟨i,h2,h3,h4,h5⟩
   by_cases e:i=m
   ·subst e;exact .inr h5
   exact .inl ⟨i,by omega,h3,h4,h5⟩
  rw [if_neg h1,nX h (by omega)]
  constructor
  ·rintro ⟨i,h2,h3⟩
   exact ⟨i,by omega,h3⟩
  rintro ⟨i,h2,h3,h4,h5⟩
  by_cases e:i=m
  ·subst e;exact absurd ⟨pU.2 h3,h4⟩ h1
  exact ⟨i,by omega,h3,h4,h5⟩
theorem kh (h:aW b) {s:ay} {ag:Int} {k:Nat}:(lE l b s ag).getLsbD k=true↔∃i:Nat,i<b.length∧s.getLsbD i=true∧(nd b i).i=ag∧(((nd b i).op=9∧(nd b i).x=k)∨(k=i∧(((nd b i).op=9∧tC l)∨((nd b i).op=10∧uR l)))):=nX h (Nat.le_refl _)
theorem eG.one {k:Nat} {fs:List Int} {s:ay} (h:eG ss k fs [s]):∃j:Nat,fs=[(j:Int)]∧j<k∧∀n,(de ss j).getLsbD n=true→s.getLsbD n=true:=by
 cases fs with
 |nil=>exact h.elim
 |cons f fs=>
  cases fs with
  |cons _ _=>exact h.2.elim
  |nil=>
   obtain ⟨⟨h1,h2⟩,_⟩:=h
   refine ⟨f.toNat,by rw [show ((f.toNat:Nat):Int)=f by omega],by omega,?_⟩
   rw [show ((f.toNat:Nat):Int)=f by omega];exact mH.1 h2
theorem eG.two {k:Nat} {fs:List Int} {s u:ay} (h:eG ss k fs [s,u]):∃j i:Nat,fs=[(j:Int),(i:Int)]∧j<k∧i<k∧(∀n,(de ss j).getLsbD n=true→s.getLsbD n=true)∧∀n,(de ss i).getLsbD n=true→u.getLsbD n=true:=by
 cases fs with
 |nil=>exact h.elim
 |cons f fs=>
  obtain ⟨⟨h1,h2⟩,h3⟩:=h
  obtain ⟨i,rfl,hi,hu⟩:=eG.one h3
  refine ⟨f.toNat,i,by rw [show ((f.toNat:Nat):Int)=f by omega],by omega,hi,?_,hu⟩
  rw [show ((f.toNat:Nat):Int)=f by omega];exact mH.1 h2
theorem eG.Fs {k j:Nat} {s:ay} (hj:j<k) (h:∀n,(de ss j).getLsbD n=true→s.getLsbD n=true):eG ss k [(j:Int)] [s]:=⟨⟨by omega,mH.2 h⟩,trivial⟩
theorem eG.HQ {k j i:Nat} {s u:ay} (hj:j<k) (hi:i<k) (h:∀n,(de ss j).getLsbD n=true→s.getLsbD n=true) (h2:∀n,(de ss i).getLsbD n=true→u.getLsbD n=true):eG ss k [(j:Int),(i:Int)] [s,u]:=⟨⟨by omega,mH.2 h⟩,eG.Fs hi h2⟩
theorem ej.l8 {k:Nat} {x:SD} (h:ej l b ss k x) {f:Int} (hf:f∈x.fr):0≤f∧f<k:=by
 have one:∀{s:ay},eG ss k x.fr [s]→0≤f∧f<k:=fun h=>by
  obtain ⟨j,e,hj,_⟩:=h.one
  rw [e,List.mem_singleton] at hf;omega
 have two:∀{s u:ay},eG ss k x.fr [s,u]→0≤f∧f<k:=fun h=>by
  obtain ⟨j,i,e,hj,hi,_⟩:=h.two
  rw [e] at hf
  simp only [List.mem_cons,List.not_mem_nil,or_false] at hf
  omega
 rcases h.2 with ⟨_,h,_⟩|⟨_,_,_,h⟩|⟨_,_,_,h⟩|⟨_,_,_,_,h⟩|⟨_,_,_,_,h⟩|⟨_,_,_,h⟩|⟨_,_,_,_,h⟩
 ·rw [h] at hf;cases hf
 ·exact one h
 ·exact two h
 ·exact two h
 ·exact one h
 ·exact one h
 exact one h
theorem z8.nat (_h:aW b) {x:SD} {op:Int} (g:z8 b x op):∃o:Nat,x.on=o∧o<b.length∧x.set.getLsbD o=true∧(nd b x.on).op=op:=by
 obtain ⟨h1,h2,h3⟩:=g
 obtain ⟨k,h4,h5,h6⟩:=fN.1 h2
 exact ⟨k,h4,by omega,h6,h3⟩
end
end Go.Proofs.Wit
namespace Go.Proofs.Wit
open Go Go.RowKit
/-! trimmed refutations are right, and stay as they are -/
section
variable {l:Int} {b:List NV} {ss:List SD}
abbrev Us (b:List NV) (ss:List SD) (k n:Nat):Prop:=(oQ b ss k).getLsbD n=true
inductive qM (l:Int) (b:List NV) (ss:List SD) (k:Nat) (x:SD):Prop
  |Cp (o:Nat):x.av=1→x.fr=[]→x.on=o→o<b.length→x.set.getLsbD o=true→(nd b o).op=2→(∀n,Us b ss k n↔n=o)→qM l b ss k x
  |neg (o e:Nat):x.av=1→x.fr=[]→x.on=o→o<b.length→x.set.getLsbD o=true→(nd b o).op≠2→x.e=e→e<b.length→x.set.getLsbD e=true→jw b o=e→aa b e=fe (aa b o)→(∀n,Us b ss k n↔n=o∨n=e)→qM l b ss k x
  |and (o j:Nat):x.av=2→x.e=0→x.fr=[(j:Int)]→j<k→x.on=o→o<b.length→x.set.getLsbD o=true→(nd b o).op=5→(∀n:Nat,(de ss j).getLsbD n=true→x.set.getLsbD n=true∨(n:Int)=(nd b o).x∨(n:Int)=(nd b o).y)→(∀n:Nat,Us b ss k n↔(Us b ss j n∧(n:Int)≠(nd b o).x∧(n:Int)≠(nd b o).y)∨n=o)→qM l b ss k x
  |or (o j i:Nat):x.av=3→x.e=0→x.fr=[(j:Int),(i:Int)]→j<k→i<k→x.on=o→o<b.length→x.set.getLsbD o=true→(nd b o).op=6→(∀n:Nat,(de ss j).getLsbD n=true→x.set.getLsbD n=true∨(n:Int)=(nd b o).x)→(∀n:Nat,(de ss i).getLsbD n=true→x.set.getLsbD n=true∨(n:Int)=(nd b o).y)→(∀n:Nat,Us b ss k n↔(Us b ss j n∧(n:Int)≠(nd b o).x)∨(Us b ss i n∧(n:Int)≠(nd b o).y)∨n=o)→qM l b ss k x
  |cut (o e j i:Nat):x.av=4→x.fr=[(j:Int),(i:Int)]→j<k→i<k→x.on=o→o<b.length→x.e=e→e<b.length→jw b o=e→aa b e=fe (aa b o)→(∀n:Nat,(de ss j).getLsbD n=true→x.set.getLsbD n=true∨n=o)→(∀n:Nat,(de ss i).getLsbD n=true→x.set.getLsbD n=true∨n=e)→(∀n:Nat,Us b ss k n↔(Us b ss j n∧n≠o)∨(Us b ss i n∧n≠e))→qM l b ss k x
  |t (o j:Nat):x.av=5→x.e=0→(l=2∨l=4∨l=6)→x.fr=[(j:Int)]→j<k→x.on=o→o<b.length→x.set.getLsbD o=true→(nd b o).op=9→(∀n:Nat,(de ss j).getLsbD n=true→x.set.getLsbD n=true∨(n:Int)=(nd b o).x)→(∀n:Nat,Us b ss k n↔(Us b ss j n∧(n:Int)≠(nd b o).x)∨n=o)→qM l b ss k x
  |k (o j:Nat):x.av=6→x.e=0→x.fr=[(j:Int)]→j<k→x.on=o→o<b.length→x.set.getLsbD o=true→(nd b o).op=10→(∀n:Nat,(de ss j).getLsbD n=true→(lE l b x.set (nd b o).i).getLsbD n=true∨(n:Int)=(nd b o).x)→(∀n:Nat,Us b ss k n↔(∃m,Us b ss j m∧(m:Int)≠(nd b o).x∧fy b x.set (nd b o).i m=n)∨n=o)→qM l b ss k x
  |d (j:Nat):x.av=7→x.e=0→(l=1∨l=5)→x.fr=[(j:Int)]→j<k→(0≤x.on∧x.on<4)→(∀n:Nat,(de ss j).getLsbD n=true→(lE l b x.set x.on).getLsbD n=true)→(∀n:Nat,Us b ss k n↔∃m,Us b ss j m∧fy b x.set x.on m=n)→qM l b ss k x
theorem CU (hb:aW b) {k:Nat} (hk:k<ss.length) (h:ej l b ss k ss[k]):qM l b ss k ss[k]:=by
 obtain ⟨x,hx⟩:∃x,x=ss[k]:=⟨_,rfl⟩
 have hu:=CJ (b:=b) hk
 rw [←hx] at h hu⊢
 have hlen:=hb.len
 have hbw:∀{i:Int} {n:Nat},0≤i→i<64→((bW i).getLsbD n=true↔(n:Int)=i):=fun h1 h2=>nZ ⟨h1,h2⟩
 have hp0:∀{j:Nat} {fs:List Int},j<k→x.fr=(j:Int)::fs→(eR b ss k).getD (x.fr.getD 0 0).toNat 0#64=oQ b ss j:=fun hj e=>by
  rw [e];exact mz hj (Nat.le_of_lt hk)
 have hp1:∀{j i:Nat},i<k→x.fr=[(j:Int),(i:Int)]→(eR b ss k).getD (x.fr.getD 1 0).toNat 0#64=oQ b ss i:=fun hj e=>by
  rw [e];exact mz hj (Nat.le_of_lt hk)
 rcases h.2 with ⟨h1,h2,h3⟩|⟨h1,h2,h3,h4⟩|⟨h1,h2,h3,h4⟩|⟨h1,h2,h3,h4,h5⟩|⟨h1,h2,h3,h4,h5⟩|⟨h1,h2,h3,h4⟩|⟨h1,h2,h3,h4,h5⟩
 ·unfold jK at hu
  rw [if_pos h1] at hu
  rcases h3 with ⟨h3,h4⟩|⟨h3,h4,h5,h6⟩
  ·obtain ⟨o,e1,e2,e3,e4⟩:=h3.nat hb
   rw [if_pos e4] at hu
   rw [e1] at e4
   exact .Cp o h1 h2 e1 e2 e3 e4 (fun n=>by unfold Us;rw [hu,e1,hbw (by omega) (by omega)];omega)
  obtain ⟨o,e1,e2,e3⟩:=fN.1 h3
  obtain ⟨e,f1,f2,f3⟩:=fN.1 h5
  have ho:o<b.length:=by omega
  obtain ⟨j,g1,g2,g3⟩:=vE (b:=b) (i:=x.on) (by omega)
  have hje:j=e:=by omega
  subst hje
  by_cases h2':(nd b x.on).op=2
  ·rw [if_pos h2'] at hu
   rw [e1] at h2'
   exact .Cp o h1 h2 e1 ho e3 h2' (fun n=>by unfold Us;rw [hu,e1,hbw (by omega) (by omega)];omega)
  rw [if_neg h2'] at hu
  rw [e1] at h2' g3 g1
  refine .neg o j h1 h2 e1 ho e3 h2' f1 g2 f3 g1 (by rw [g3];rfl) (fun n=>?_)
  unfold Us
  rw [hu,cR,e1,f1,hbw (by omega) (by omega),hbw (by omega) (by omega)];omega
 ·obtain ⟨o,e1,e2,e3,e4⟩:=h3.nat hb
  obtain ⟨j,f1,f2,f3⟩:=h4.one
  rw [e1] at e4 f3
  have hx1:=hb.x e2 (by omega)
  have hy1:=hb.y e2 (by omega)
  unfold jK at hu
  rw [if_neg (by omega),if_neg (by omega),if_neg (by omega),if_pos h1,hp0 f2 f1,e1] at hu
  refine .and o j h1 h2 f1 f2 e1 e2 e3 e4 (fun n hn=>?_) (fun n=>?_)
  ·have:=f3 n hn
   rw [cR,cR,hbw (by omega) (by omega),hbw (by omega) (by omega)] at this
   rcases this with (h|h)|h
   ·exact .inl h
   ·exact .inr (.inl h)
   exact .inr (.inr h)
  unfold Us
  rw [hu,cR,gv,cR,hbw (by omega) (by omega),hbw (by omega) (by omega),hbw (by omega) (by omega),not_or]
  exact or_congr Iff.rfl (by omega)
 ·obtain ⟨o,e1,e2,e3,e4⟩:=h3.nat hb
  obtain ⟨j,i,f1,f2,f3,f4,f5⟩:=h4.two
  rw [e1] at e4 f4 f5
  have hx1:=hb.x e2 (by omega)
  have hy1:=hb.y e2 (by omega)
  unfold jK at hu
  rw [if_neg (by omega),if_neg (by omega),if_neg (by omega),if_neg (by omega),if_pos h1,hp0 f2 f1,hp1 f3 f1,e1] at hu
  refine .or o j i h1 h2 f1 f2 f3 e1 e2 e3 e4 (fun n hn=>?_) (fun n hn=>?_) (fun n=>?_)
  ·have:=f4 n hn
   rwa [cR,hbw (by omega) (by omega)] at this
  ·have:=f5 n hn
   rwa [cR,hbw (by omega) (by omega)] at this
  unfold Us
  rw [hu,cR,cR,gv,gv,hbw (by omega) (by omega),hbw (by omega) (by omega),hbw (by omega) (by omega),or_assoc]
  exact or_congr Iff.rfl (or_congr Iff.rfl (by omega))
 ·obtain ⟨j,i,f1,f2,f3,f4,f5⟩:=h5.two
  obtain ⟨e,g1,g2,g3⟩:=vE (b:=b) (i:=x.on) (by omega)
  obtain ⟨o,e1⟩:∃o:Nat,x.on=o:=⟨x.on.toNat,by omega⟩
  have ee:x.e=e:=by omega
  rw [e1] at h2 h4 f4 g1 g3
  rw [ee] at f5
  unfold jK at hu
  rw [if_neg (by omega),if_pos h1,hp0 f2 f1,hp1 f3 f1,e1,ee] at hu
  refine .cut o e j i h1 f1 f2 f3 e1 (by omega) ee g2 g1 (by rw [g3];rfl) (fun n hn=>?_) (fun n hn=>?_) (fun n=>?_)
  ·have:=f4 n hn
   rw [cR,hbw (by omega) (by omega)] at this
   exact this.imp id (fun h=>by omega)
  ·have:=f5 n hn
   rw [cR,hbw (by omega) (by omega)] at this
   exact this.imp id (fun h=>by omega)
  unfold Us
  rw [hu,cR,gv,gv,hbw (by omega) (by omega),hbw (by omega) (by omega)]
  exact or_congr (and_congr Iff.rfl (by omega)) (and_congr Iff.rfl (by omega))
 ·obtain ⟨o,e1,e2,e3,e4⟩:=h4.nat hb
  obtain ⟨j,f1,f2,f3⟩:=h5.one
  rw [e1] at e4 f3
  have hx1:=hb.x e2 (by omega)
  unfold jK at hu
  rw [if_neg (by omega),if_neg (by omega),if_neg (by omega),if_neg (by omega),if_neg (by omega),if_pos h1,hp0 f2 f1,e1] at hu
  refine .t o j h1 h2 h3 f1 f2 e1 e2 e3 e4 (fun n hn=>?_) (fun n=>?_)
  ·have:=f3 n hn
   rwa [cR,hbw (by omega) (by omega)] at this
  unfold Us
  rw [hu,cR,gv,hbw (by omega) (by omega),hbw (by omega) (by omega)]
  exact or_congr Iff.rfl (by omega)
 ·obtain ⟨o,e1,e2,e3,e4⟩:=h3.nat hb
  obtain ⟨j,f1,f2,f3⟩:=h4.one
  rw [e1] at e4 f3
  have hx1:=hb.x e2 (by omega)
  unfold jK at hu
  rw [if_neg (by omega),if_neg (by omega),if_neg (by omega),if_neg (by omega),if_neg (by omega),if_neg (by omega),hp0 f2 f1,e1] at hu
  refine .k o j h1 h2 f1 f2 e1 e2 e3 e4 (fun n hn=>?_) (fun n=>?_)
  ·have:=f3 n hn
   rw [cR,hbw (by omega) (by omega)] at this
   exact this.symm
  unfold Us
  rw [hu,cR,sS hlen,hbw (by omega) (by omega)]
  refine or_congr (exists_congr fun m=>?_) (by omega)
  rw [gv,hbw (by omega) (by omega)]
  exact and_assoc
 obtain ⟨j,f1,f2,f3⟩:=h5.one
 unfold jK at hu
 rw [if_neg (by omega),if_neg (by omega),if_pos h1,hp0 f2 f1] at hu
 refine .d j h1 h2 h3 f1 f2 h4 f3 (fun n=>?_)
 unfold Us
 rw [hu,sS hlen]
theorem eM {j:Nat} (hj:j<ss.length):de ss j=ss[j].set:=by simp [de,List.getD_eq_getElem?_getD,hj]
structure gm (l:Int) (b:List NV) (ss:List SD):Prop where
  log:0≤l∧l≤6
  base:aW b
  pos:0<ss.length
  len:ss.length≤4096
  lV:∀(k:Nat) (hk:k<ss.length),ej l b ss k ss[k]
theorem jZ:nJ l b ss=0↔gm l b ss:=by
 rw [yb]
 exact ⟨fun ⟨h1,⟨h2,h3,h4⟩,⟨h5,h6⟩,h7⟩=>⟨h1,⟨h2,h3,h4⟩,h5,h6,h7⟩,fun h=>⟨h.log,⟨h.base.jF,h.base.len,h.base.Cd⟩,⟨h.pos,h.len⟩,h.lV⟩⟩
theorem gm.EY (h:gm l b ss) {k:Nat} (hk:k<ss.length):qM l b ss k ss[k]:=CU h.base hk (h.lV k hk)
theorem xR (hb:aW b) {s:ay} {ag:Int} {n:Nat} (hn:(lE l b s ag).getLsbD n=true):s.getLsbD (fy b s ag n)=true:=by
 rcases fw (b:=b) (s:=s) (ag:=ag) (n:=n) with ⟨i,h1,h2,h3,_⟩|⟨h1,h2⟩
 ·rw [h1];exact h3
 rw [h1]
 obtain ⟨i,g1,g2,g3,g4⟩:=(kh hb).1 hn
 rcases g4 with ⟨g4,g5⟩|⟨g4,g5⟩
 ·exact absurd g5 (h2 i g1 g2 g4 g3)
 rw [g4];exact g2
theorem gm.sub (h:gm l b ss):∀(k:Nat) (hk:k<ss.length) (n:Nat),Us b ss k n→ss[k].set.getLsbD n=true:=by
 intro k
 induction k using Nat.strongRecOn with
 |_ k ih=>
 intro hk n hn
 have ihS:∀(j:Nat),j<k→∀m,Us b ss j m→(de ss j).getLsbD m=true:=fun j hj m hm=>by
  rw [eM (by omega)];exact ih j hj (by omega) m hm
 cases h.EY hk with
 |Cp o h1 h2 h3 h4 h5 h6 h7=>rw [(h7 n).1 hn];exact h5
 |neg o e h1 h2 h3 h4 h5 h6 h7 h8 h9 h10 h11 h12=>
  rcases (h12 n).1 hn with e|e
  ·rw [e];exact h5
  rw [e];exact h9
 |and o j h1 h2 h3 h4 h5 h6 h7 h8 h9 h10=>
  rcases (h10 n).1 hn with ⟨e1,e2,e3⟩|e
  ·rcases h9 n (ihS j h4 n e1) with g|g|g
   ·exact g
   ·exact absurd g e2
   ·exact absurd g e3
  rw [e];exact h7
 |or o j i h1 h2 h3 h4 h5 h6 h7 h8 h9 h10 h11 h12=>
  rcases (h12 n).1 hn with ⟨e1,e2⟩|⟨e1,e2⟩|e
  ·exact (h10 n (ihS j h4 n e1)).resolve_right e2
  ·exact (h11 n (ihS i h5 n e1)).resolve_right e2
  rw [e];exact h8
 |cut o e j i h1 h2 h3 h4 h5 h6 h7 h8 h9 h10 h11 h12 h13=>
  rcases (h13 n).1 hn with ⟨e1,e2⟩|⟨e1,e2⟩
  ·exact (h11 n (ihS j h3 n e1)).resolve_right e2
  exact (h12 n (ihS i h4 n e1)).resolve_right e2
 |t o j h1 h2 h3 h4 h5 h6 h7 h8 h9 h10 h11=>
  rcases (h11 n).1 hn with ⟨e1,e2⟩|e
  ·exact (h10 n (ihS j h5 n e1)).resolve_right e2
  rw [e];exact h8
 |k o j h1 h2 h3 h4 h5 h6 h7 h8 h9 h10=>
  rcases (h10 n).1 hn with ⟨m,e1,e2,e3⟩|e
  ·rw [←e3]
   exact xR h.base ((h9 m (ihS j h4 m e1)).resolve_right e2)
  rw [e];exact h7
 |d j h1 h2 h3 h4 h5 h6 h7 h8=>
  obtain ⟨m,e1,e2⟩:=(h8 n).1 hn
  rw [←e2]
  exact xR h.base (h7 m (ihS j h5 m e1))
theorem mG:(dk b ss).length=bJ (dG ss) ss.length:=kY (Nat.le_refl _)
theorem pk {k:Nat} (hk:k<ss.length) (hn:dG ss k=true):∃hc:bJ (dG ss) k<(dk b ss).length,(dk b ss)[bJ (dG ss) k]=gD b ss k ss[k]:=by
 have:=vh (b:=b) hn (Nat.le_refl _) hk hk
 exact List.getElem?_eq_some_iff.1 this
theorem rK {q:Nat} (hq:q<(dk b ss).length):∃(k:Nat) (hk:k<ss.length),dG ss k=true∧bJ (dG ss) k=q∧(dk b ss)[q]=gD b ss k ss[k]:=by
 rw [mG] at hq
 obtain ⟨k,h1,h2,h3⟩:=D3 hq
 subst h3
 exact ⟨k,h1,h2,rfl,(pk h1 h2).2⟩
theorem rM {k:Nat} (hk:k<ss.length) (hn:dG ss k=true):de (dk b ss) (bJ (dG ss) k:Nat)=oQ b ss k:=by
 obtain ⟨h1,h2⟩:=pk (b:=b) hk hn
 rw [eM h1,h2];rfl
theorem gm.pre (h:gm l b ss) {k j:Nat} (hk:k<ss.length) (hn:dG ss k=true) (hj:(j:Int)∈ss[k].fr):dG ss j=true∧j<k∧bJ (dG ss) j<bJ (dG ss) k:=by
 have h1:dG ss j=true:=ep.2 (.fr hk (ep.1 hn) hj)
 have h2:=(h.lV k hk).l8 hj
 exact ⟨h1,by omega,BG (by omega) h1⟩
theorem zw (hb:aW b) {s u:ay} {ag:Int} {n:Nat} (hn:(lE l b s ag).getLsbD n=true) (hu:u.getLsbD (fy b s ag n)=true):(lE l b u ag).getLsbD n=true:=by
 rw [kh hb]
 rcases fw (b:=b) (s:=s) (ag:=ag) (n:=n) with ⟨j,g1,g2,g3,g4,g5,g6,g7⟩|⟨g1,g2⟩
 ·rw [g1] at hu;exact ⟨j,g2,hu,g5,.inl ⟨g4,g6⟩⟩
 rw [g1] at hu
 obtain ⟨i,k1,k2,k3,k4⟩:=(kh hb).1 hn
 rcases k4 with ⟨k4,k5⟩|⟨k4,k5⟩
 ·exact absurd k5 (g2 i k1 k2 k4 k3)
 subst k4;exact ⟨n,k1,hu,k3,.inr ⟨rfl,k5⟩⟩
theorem gm.CO (h:gm l b ss) {k:Nat} (hk:k<ss.length) (hn:dG ss k=true):ej l b (dk b ss) (bJ (dG ss) k) (gD b ss k ss[k]):=by
 have hb:=h.base
 have hlen:=hb.len
 have hbw:∀{i:Int} {n:Nat},0≤i→i<64→((bW i).getLsbD n=true↔(n:Int)=i):=fun h1 h2=>nZ ⟨h1,h2⟩
 have hsub:=h.sub k hk
 have hsb:∀(j:Nat),(j:Int)∈ss[k].fr→∀m,Us b ss j m→(de ss j).getLsbD m=true:=fun j hj m hm=>by
  have:=(h.pre hk hn hj).2.1
  rw [eM (by omega)];exact h.sub j (by omega) m hm
 have hset:∀(j:Nat),(j:Int)∈ss[k].fr→de (dk b ss) (bJ (dG ss) j:Nat)=oQ b ss j:=fun j hj=>
  rM (by have:=(h.pre hk hn hj).2.1;omega) (h.pre hk hn hj).1
 refine ⟨fun n hn=>(h.lV k hk).1 n (hsub n hn),?_⟩
 have hin:∀{o:Nat},Us b ss k o→eT (gD b ss k ss[k]).set o=true:=fun h=>pU.2 h
 cases h.EY hk with
 |Cp o h1 h2 h3 h4 h5 h6 h7=>
  have e0:(nd b ss[k].on).op=2:=by rw [h3];exact h6
  refine .inl ⟨h1,by simp [gD,h2],.inl ⟨⟨by show ss[k].on<_;omega,by show eT _ ss[k].on=true;rw [h3];exact hin ((h7 o).2 rfl),e0⟩,?_⟩⟩
  show (if _ then _ else _)=_
  rw [if_pos ⟨h1,e0⟩]
 |neg o e h1 h2 h3 h4 h5 h6 h7 h8 h9 h10 h11 h12=>
  have e0:¬(nd b ss[k].on).op=2:=by rw [h3];exact h6
  have ee:(gD b ss k ss[k]).e=e:=by
   show (if _ then _ else _)=_
   rw [if_neg (fun h=>e0 h.2)];exact h7
  have eo:(gD b ss k ss[k]).on=o:=h3
  refine .inl ⟨h1,by simp [gD,h2],.inr ⟨?_,?_,?_,?_⟩⟩
  ·rw [eo];exact hin ((h12 o).2 (.inl rfl))
  ·rw [eo];omega
  ·rw [ee];exact hin ((h12 e).2 (.inr rfl))
  rw [eo,ee];exact h10
 |and o j h1 h2 h3 h4 h5 h6 h7 h8 h9 h10=>
  have hm:(j:Int)∈ss[k].fr:=by rw [h3];exact List.mem_singleton.2 rfl
  have ee:(gD b ss k ss[k]).e=0:=by show (if _ then _ else _)=_;rw [if_neg (by omega)];exact h2
  have eo:(gD b ss k ss[k]).on=o:=h5
  have ef:(gD b ss k ss[k]).fr=[((bJ (dG ss) j:Nat):Int)]:=by simp [gD,h3]
  have hx1:=hb.x h6 (by omega)
  have hy1:=hb.y h6 (by omega)
  refine .inr (.inl ⟨h1,ee,⟨by rw [eo];omega,by rw [eo];exact hin ((h10 o).2 (.inr rfl)),by rw [eo];exact h8⟩,?_⟩)
  rw [ef,eo]
  refine eG.Fs (h.pre hk hn hm).2.2 (fun n hn=>?_)
  rw [hset j hm] at hn
  rw [cR,cR,hbw (by omega) (by omega),hbw (by omega) (by omega)]
  by_cases c1:(n:Int)=(nd b o).x
  ·exact .inl (.inr c1)
  by_cases c2:(n:Int)=(nd b o).y
  ·exact .inr c2
  exact .inl (.inl ((h10 n).2 (.inl ⟨hn,c1,c2⟩)))
 |or o j i h1 h2 h3 h4 h5 h6 h7 h8 h9 h10 h11 h12=>
  have hm:(j:Int)∈ss[k].fr:=by rw [h3];simp
  have hm2:(i:Int)∈ss[k].fr:=by rw [h3];simp
  have ee:(gD b ss k ss[k]).e=0:=by show (if _ then _ else _)=_;rw [if_neg (by omega)];exact h2
  have eo:(gD b ss k ss[k]).on=o:=h6
  have ef:(gD b ss k ss[k]).fr=[((bJ (dG ss) j:Nat):Int),((bJ (dG ss) i:Nat):Int)]:=by simp [gD,h3]
  have hx1:=hb.x h7 (by omega)
  have hy1:=hb.y h7 (by omega)
  refine .inr (.inr (.inl ⟨h1,ee,⟨by rw [eo];omega,by rw [eo];exact hin ((h12 o).2 (.inr (.inr rfl))),by rw [eo];exact h9⟩,?_⟩))
  rw [ef,eo]
  refine eG.HQ (h.pre hk hn hm).2.2 (h.pre hk hn hm2).2.2 (fun n hn=>?_) (fun n hn=>?_)
  ·rw [hset j hm] at hn
   rw [cR,hbw (by omega) (by omega)]
   by_cases c1:(n:Int)=(nd b o).x
   ·exact .inr c1
   exact .inl ((h12 n).2 (.inl ⟨hn,c1⟩))
  rw [hset i hm2] at hn
  rw [cR,hbw (by omega) (by omega)]
  by_cases c1:(n:Int)=(nd b o).y
  ·exact .inr c1
  exact .inl ((h12 n).2 (.inr (.inl ⟨hn,c1⟩)))
 |cut o e j i h1 h2 h3 h4 h5 h6 h7 h8 h9 h10 h11 h12 h13=>
  have hm:(j:Int)∈ss[k].fr:=by rw [h2];simp
  have hm2:(i:Int)∈ss[k].fr:=by rw [h2];simp
  have ee:(gD b ss k ss[k]).e=e:=by show (if _ then _ else _)=_;rw [if_neg (by omega)];exact h7
  have eo:(gD b ss k ss[k]).on=o:=h5
  have ef:(gD b ss k ss[k]).fr=[((bJ (dG ss) j:Nat):Int),((bJ (dG ss) i:Nat):Int)]:=by simp [gD,h2]
  refine .inr (.inr (.inr (.inl ⟨h1,by rw [eo];omega,by rw [ee];omega,by rw [eo,ee];exact h9,?_⟩)))
  rw [ef,eo,ee]
  refine eG.HQ (h.pre hk hn hm).2.2 (h.pre hk hn hm2).2.2 (fun n hn=>?_) (fun n hn=>?_)
  ·rw [hset j hm] at hn
   rw [cR,hbw (by omega) (by omega)]
   by_cases c1:n=o
   ·exact .inr (by omega)
   exact .inl ((h13 n).2 (.inl ⟨hn,c1⟩))
  rw [hset i hm2] at hn
  rw [cR,hbw (by omega) (by omega)]
  by_cases c1:n=e
  ·exact .inr (by omega)
  exact .inl ((h13 n).2 (.inr ⟨hn,c1⟩))
 |t o j h1 h2 h3 h4 h5 h6 h7 h8 h9 h10 h11=>
  have hm:(j:Int)∈ss[k].fr:=by rw [h4];exact List.mem_singleton.2 rfl
  have ee:(gD b ss k ss[k]).e=0:=by show (if _ then _ else _)=_;rw [if_neg (by omega)];exact h2
  have eo:(gD b ss k ss[k]).on=o:=h6
  have ef:(gD b ss k ss[k]).fr=[((bJ (dG ss) j:Nat):Int)]:=by simp [gD,h4]
  have hx1:=hb.x h7 (by omega)
  refine .inr (.inr (.inr (.inr (.inl ⟨h1,ee,h3,⟨by rw [eo];omega,by rw [eo];exact hin ((h11 o).2 (.inr rfl)),by rw [eo];exact h9⟩,?_⟩))))
  rw [ef,eo]
  refine eG.Fs (h.pre hk hn hm).2.2 (fun n hn=>?_)
  rw [hset j hm] at hn
  rw [cR,hbw (by omega) (by omega)]
  by_cases c1:(n:Int)=(nd b o).x
  ·exact .inr c1
  exact .inl ((h11 n).2 (.inl ⟨hn,c1⟩))
 |k o j h1 h2 h3 h4 h5 h6 h7 h8 h9 h10=>
  have hm:(j:Int)∈ss[k].fr:=by rw [h3];exact List.mem_singleton.2 rfl
  have ee:(gD b ss k ss[k]).e=0:=by show (if _ then _ else _)=_;rw [if_neg (by omega)];exact h2
  have eo:(gD b ss k ss[k]).on=o:=h5
  have ef:(gD b ss k ss[k]).fr=[((bJ (dG ss) j:Nat):Int)]:=by simp [gD,h3]
  have hx1:=hb.x h6 (by omega)
  refine .inr (.inr (.inr (.inr (.inr (.inl ⟨h1,ee,⟨by rw [eo];omega,by rw [eo];exact hin ((h10 o).2 (.inr rfl)),by rw [eo];exact h8⟩,?_⟩)))))
  rw [ef,eo]
  refine eG.Fs (h.pre hk hn hm).2.2 (fun n hn=>?_)
  rw [hset j hm] at hn
  rw [cR,hbw (by omega) (by omega)]
  by_cases c1:(n:Int)=(nd b o).x
  ·exact .inl c1
  exact .inr (zw hb ((h9 n (hsb j hm n hn)).resolve_right c1) ((h10 _).2 (.inl ⟨n,hn,c1,rfl⟩)))
 |d j h1 h2 h3 h4 h5 h6 h7 h8=>
  have hm:(j:Int)∈ss[k].fr:=by rw [h4];exact List.mem_singleton.2 rfl
  have ee:(gD b ss k ss[k]).e=0:=by show (if _ then _ else _)=_;rw [if_neg (by omega)];exact h2
  have ef:(gD b ss k ss[k]).fr=[((bJ (dG ss) j:Nat):Int)]:=by simp [gD,h4]
  refine .inr (.inr (.inr (.inr (.inr (.inr ⟨h1,ee,h3,h6,?_⟩)))))
  rw [ef]
  refine eG.Fs (h.pre hk hn hm).2.2 (fun n hn=>?_)
  rw [hset j hm] at hn
  exact zw hb (h7 n (hsb j hm n hn)) ((h8 _).2 ⟨n,hn,rfl⟩)
theorem gm.tr (h:gm l b ss):gm l b (dk b ss):=by
 have hlast:dG ss (ss.length - 1)=true:=ep.2 (.last (by have:=h.pos;omega))
 refine ⟨h.log,h.base,?_,?_,fun q hq=>?_⟩
 ·obtain ⟨h1,_⟩:=pk (b:=b) (k:=ss.length - 1) (by have:=h.pos;omega) hlast
  omega
 ·rw [mG];have:=sq (p:=dG ss) (k:=ss.length);have:=h.len;omega
 obtain ⟨k,hk,h1,h2,h3⟩:=rK hq
 rw [h3,←h2];exact h.CO hk h1
end
end Go.Proofs.Wit
namespace Go.Proofs.Wit
open Go Go.RowKit
/-! trimming twice; the sets of trimmed steps are not empty -/
section
variable {l:Int} {b:List NV} {ss:List SD}
theorem gm.Fp (_h:gm l b ss) {k:Nat} (hn:xu ss k):xu (dk b ss) (bJ (dG ss) k):=by
 induction hn with
 |@last k e=>
  refine .last ?_
  rw [mG,←e,gj,if_pos (ep.2 (.last e))]
 |@fr k j hk hn hm ih=>
  obtain ⟨hc,he⟩:=pk (b:=b) hk (ep.2 hn)
  refine .fr hc ih ?_
  rw [he]
  exact List.mem_map.2 ⟨_,hm,by simp⟩
theorem gm.Em (h:gm l b ss) {q:Nat} (hq:q<(dk b ss).length):dG (dk b ss) q=true:=by
 obtain ⟨k,_,h1,h2,_⟩:=rK hq
 rw [←h2];exact ep.2 (h.Fp (ep.1 h1))
theorem gm.Aj (h:gm l b ss):∃(h1:(dk b ss).length - 1<(dk b ss).length) (h2:ss.length - 1<ss.length),(dk b ss)[(dk b ss).length - 1]=gD b ss (ss.length - 1) ss[ss.length - 1]∧dG ss (ss.length - 1)=true:=by
 have hp:=h.pos
 have hlast:dG ss (ss.length - 1)=true:=ep.2 (.last (by omega))
 have hl:ss.length - 1<ss.length:=by omega
 obtain ⟨h1,h2⟩:=pk (b:=b) hl hlast
 have e:(dk b ss).length=bJ (dG ss) (ss.length - 1)+1:=by
  rw [mG]
  conv=>lhs;rw [show ss.length=(ss.length - 1)+1 by omega]
  rw [gj,if_pos hlast]
 refine ⟨by omega,hl,?_,hlast⟩
 rw [←h2];congr 1;omega
/-! one world that sees itself -/
def sJ:Tr→Bool
 |.leaf op _ _ _=>op==1
 |.un op _ _ _ a=>if op=4 then !sJ a else sJ a
 |.bin op _ _ _ a c=>if op=5 then sJ a && sJ c else sJ a||sJ c
theorem oY:∀{t:Tr},og t→t.ok→sJ (aN t).2=!sJ t
 |.leaf op i e g,h,hok=>by
  have h1:op≤3:=h
  have h2:=hok.1.1
  rw [aN];dsimp only
  rcases (by omega:op=1∨op=2∨op=3) with rfl|rfl|rfl
  ·rfl
  ·rfl
  rfl
 |.un op i e g a,h,hok=>by
  rcases h with ⟨rfl,j,e',g',rfl⟩|⟨h1,h2⟩
  ·rfl
  have ih:=oY h2 hok.2.2.2.2
  rcases h1 with rfl|rfl
  ·rw [aN,if_neg (by decide),if_pos rfl];exact ih
  rw [aN,if_neg (by decide),if_neg (by decide),if_pos rfl];exact ih
 |.bin op i e g a c,h,hok=>by
  have iha:=oY h.2.1 hok.2.2.2.1
  have ihc:=oY h.2.2 hok.2.2.2.2
  rcases h.1 with rfl|rfl
  ·rw [aN,if_pos rfl]
   show (if (6:Int)=5 then _ else _)=!(if (5:Int)=5 then _ else _)
   rw [if_neg (by decide),if_pos rfl,iha,ihc]
   cases sJ a<;>cases sJ c<;>rfl
  rw [aN,if_neg (by decide),if_pos rfl]
  show (if (5:Int)=5 then _ else _)=!(if (6:Int)=5 then _ else _)
  rw [if_pos rfl,if_neg (by decide),iha,ihc]
  cases sJ a<;>cases sJ c<;>rfl
theorem aW.node (h:aW b) {i:Nat} (hi:i<b.length):((nd b i).op≤3∧aa b i=.leaf (nd b i).op (nd b i).i (nd b i).e (nd b i).g)∨(((nd b i).op=4∨(nd b i).op=9∨(nd b i).op=10)∧aa b i=.un (nd b i).op (nd b i).i (nd b i).e (nd b i).g (aa b (nd b i).x.toNat))∨(((nd b i).op=5∨(nd b i).op=6)∧aa b i=.bin (nd b i).op (nd b i).i (nd b i).e (nd b i).g (aa b (nd b i).x.toNat) (aa b (nd b i).y.toNat)):=by
 rw [dH hi]
 have hO:=(aD.1 h.jF).nodes
 have hn:=h.Cd _ (List.getElem_mem hi)
 unfold eF at hn
 have hX:cD b[i].op=true↔4≤b[i].op:=by
  unfold cD;simp;omega
 have hY:cn b[i].op=true↔b[i].op=5∨b[i].op=6:=by
  unfold cn;simp;omega
 rcases dE hi hO with ⟨h1,h2⟩|⟨h1,h2,h3⟩|⟨h1,h2⟩
 ·refine .inl ⟨?_,h2⟩
  have:¬4≤b[i].op:=fun e=>by rw [hX.2 e] at h1;cases h1
  omega
 ·refine .inr (.inl ⟨?_,h3⟩)
  have:=hX.1 h1
  have:¬(b[i].op=5∨b[i].op=6):=fun e=>by rw [hY.2 e] at h2;cases h2
  omega
 exact .inr (.inr ⟨hY.1 h1,h2⟩)
theorem aW.ok (h:aW b) {i:Nat} (hi:i<b.length):(aa b i).ok:=(aD.1 h.jF).nodes.tree i hi
theorem aW.nf (h:aW b):∀(i:Nat),i<b.length→og (aa b i):=by
 intro i
 induction i using Nat.strongRecOn with
 |_ i ih=>
 intro hi
 rcases h.node hi with ⟨h1,h2⟩|⟨h1,h2⟩|⟨h1,h2⟩
 ·rw [h2];exact h1
 ·have hx:=h.x hi (by omega)
  rw [h2]
  by_cases h4:(nd b i).op=4
  ·have hn:=h.Cd _ (List.getElem_mem hi)
   unfold eF at hn
   rw [←dH hi] at hn
   have h3:(nd b (nd b i).x).op=3:=by omega
   obtain ⟨k,hk⟩:∃k:Nat,(nd b i).x=k:=⟨(nd b i).x.toNat,by omega⟩
   rw [hk] at h3⊢
   have hkl:k<b.length:=by omega
   rcases h.node hkl with ⟨g1,g2⟩|⟨g1,g2⟩|⟨g1,g2⟩
   ·rw [Int.toNat_natCast,g2,h3]
    exact .inl ⟨h4,_,_,_,rfl⟩
   ·omega
   omega
  exact .inr ⟨by omega,ih _ (by omega) (by omega)⟩
 have hx:=h.x hi (by omega)
 have hy:=h.y hi h1
 rw [h2]
 exact ⟨h1,ih _ (by omega) (by omega),ih _ (by omega) (by omega)⟩
theorem aW.fit (h:aW b) {i:Nat} (hi:i<b.length):Fit (aE (aa b i))∧Fit (aa b i):=by
 have h1:=nY (aD.1 h.jF).nodes.ord hi
 have h2:=h.len
 have h3:(bX (aE (aa b i))).length=(bX (aa b i)).length+1:=sA
 unfold Fit;omega
theorem aW.zd (h:aW b) {i:Nat} (hi:i<b.length):sJ (fe (aa b i))=!sJ (aa b i):=by
 rw [pF (h.fit hi).1];exact oY (h.nf i hi) (h.ok hi)
theorem gm.y7 (h:gm l b ss):∀(k:Nat),k<ss.length→∃n,Us b ss k n∧sJ (aa b n)=false:=by
 have hb:=h.base
 intro k
 induction k using Nat.strongRecOn with
 |_ k ih=>
 intro hk
 have hsrc:∀{j:Nat} {s:ay} {ag:Int} {m:Nat},j<ss.length→Us b ss j m→sJ (aa b m)=false→sJ (aa b (fy b s ag m))=false:=fun {j s ag m} hj hm he=>by
  rcases fw (b:=b) (s:=s) (ag:=ag) (n:=m) with ⟨i,h1,h2,h3,h4,h5,h6,_⟩|⟨h1,_⟩
  ·rw [h1]
   rcases hb.node h2 with ⟨g1,g2⟩|⟨g1,g2⟩|⟨g1,g2⟩
   ·omega
   ·rw [g2,h6]
    show (if _ then _ else _)=_
    rw [if_neg (by omega)];exact he
   omega
  rw [h1];exact he
 cases h.EY hk with
 |Cp o h1 h2 h3 h4 h5 h6 h7=>
  refine ⟨o,(h7 o).2 rfl,?_⟩
  rcases hb.node h4 with ⟨g1,g2⟩|⟨g1,g2⟩|⟨g1,g2⟩
  ·rw [g2,h6];rfl
  ·omega
  omega
 |neg o e h1 h2 h3 h4 h5 h6 h7 h8 h9 h10 h11 h12=>
  cases hv:sJ (aa b o) with
  |false=>exact ⟨o,(h12 o).2 (.inl rfl),hv⟩
  |true=>exact ⟨e,(h12 e).2 (.inr rfl),by rw [h11,hb.zd h4,hv];rfl⟩
 |and o j h1 h2 h3 h4 h5 h6 h7 h8 h9 h10=>
  obtain ⟨n,hn,hv⟩:=ih j h4 (by omega)
  have hx:=hb.x h6 (by omega)
  have hy:=hb.y h6 (by omega)
  by_cases c1:(n:Int)=(nd b o).x∨(n:Int)=(nd b o).y
  ·refine ⟨o,(h10 o).2 (.inr rfl),?_⟩
   rcases hb.node h6 with ⟨g1,g2⟩|⟨g1,g2⟩|⟨g1,g2⟩
   ·omega
   ·omega
   rw [g2,h8]
   show (if (5:Int)=5 then _ else _)=_
   rw [if_pos rfl]
   rcases c1 with c1|c1
   ·rw [←c1,Int.toNat_natCast,hv];rfl
   rw [←c1,Int.toNat_natCast,hv,Bool.and_false]
  exact ⟨n,(h10 n).2 (.inl ⟨hn,fun e=>c1 (.inl e),fun e=>c1 (.inr e)⟩),hv⟩
 |or o j i h1 h2 h3 h4 h5 h6 h7 h8 h9 h10 h11 h12=>
  obtain ⟨n,hn,hv⟩:=ih j h4 (by omega)
  obtain ⟨m,hm,hw⟩:=ih i h5 (by omega)
  by_cases c1:(n:Int)=(nd b o).x
  ·by_cases c2:(m:Int)=(nd b o).y
   ·refine ⟨o,(h12 o).2 (.inr (.inr rfl)),?_⟩
    rcases hb.node h7 with ⟨g1,g2⟩|⟨g1,g2⟩|⟨g1,g2⟩
    ·omega
    ·omega
    rw [g2,h9]
    show (if (6:Int)=5 then _ else _)=_
    rw [if_neg (by decide),←c1,←c2,Int.toNat_natCast,Int.toNat_natCast,hv,hw];rfl
   ·exact ⟨m,(h12 m).2 (.inr (.inl ⟨hm,c2⟩)),hw⟩
  exact ⟨n,(h12 n).2 (.inl ⟨hn,c1⟩),hv⟩
 |cut o e j i h1 h2 h3 h4 h5 h6 h7 h8 h9 h10 h11 h12 h13=>
  obtain ⟨n,hn,hv⟩:=ih j h3 (by omega)
  obtain ⟨m,hm,hw⟩:=ih i h4 (by omega)
  by_cases c1:n=o
  ·by_cases c2:m=e
   ·subst c1 c2
    rw [h10,hb.zd h6,hv] at hw;cases hw
   ·exact ⟨m,(h13 m).2 (.inr ⟨hm,c2⟩),hw⟩
  exact ⟨n,(h13 n).2 (.inl ⟨hn,c1⟩),hv⟩
 |t o j h1 h2 h3 h4 h5 h6 h7 h8 h9 h10 h11=>
  obtain ⟨n,hn,hv⟩:=ih j h5 (by omega)
  by_cases c1:(n:Int)=(nd b o).x
  ·refine ⟨o,(h11 o).2 (.inr rfl),?_⟩
   rcases hb.node h7 with ⟨g1,g2⟩|⟨g1,g2⟩|⟨g1,g2⟩
   ·omega
   ·rw [g2,h9,←c1,Int.toNat_natCast]
    show (if (9:Int)=4 then _ else _)=_
    rw [if_neg (by decide)];exact hv
   omega
  exact ⟨n,(h11 n).2 (.inl ⟨hn,c1⟩),hv⟩
 |k o j h1 h2 h3 h4 h5 h6 h7 h8 h9 h10=>
  obtain ⟨n,hn,hv⟩:=ih j h4 (by omega)
  by_cases c1:(n:Int)=(nd b o).x
  ·refine ⟨o,(h10 o).2 (.inr rfl),?_⟩
   rcases hb.node h6 with ⟨g1,g2⟩|⟨g1,g2⟩|⟨g1,g2⟩
   ·omega
   ·rw [g2,h8,←c1,Int.toNat_natCast]
    show (if (10:Int)=4 then _ else _)=_
    rw [if_neg (by decide)];exact hv
   omega
  exact ⟨_,(h10 _).2 (.inl ⟨n,hn,c1,rfl⟩),hsrc (by omega:j<ss.length) hn hv⟩
 |d j h1 h2 h3 h4 h5 h6 h7 h8=>
  obtain ⟨n,hn,hv⟩:=ih j h5 (by omega)
  exact ⟨_,(h8 _).2 ⟨n,hn,rfl⟩,hsrc (by omega:j<ss.length) hn hv⟩
end
end Go.Proofs.Wit
namespace Go.Proofs.Wit
open Go Go.RowKit
/-! the proof that is extracted -/
/-- not all of a set of nodes -/
def dA (b:List NV) (s:ay):Tr:=aE (kH ((dV s).map (aa b)))
section
variable (T:Tr→Prop)
noncomputable def su (a:Int) (h:Tr):List Tr→List Tr→Nat→Sg→Nat×Sg
 |_,[],r,σ=>(r,σ)
 |ds,t::ts,r,σ=>
  let k:=kW T a t (ct ts h) σ
  let d:=aU T (ct ((ds++[t]).map (ar a)) (ar a (ct ts h))) [r,k.1] k.2
  su a h (ds++[t]) ts d.1 d.2
noncomputable def lX (a:Int) (ts:List Tr) (h:Tr) (line:Nat) (σ:Sg):Nat×Sg:=
 let f:=aU T (ct ts h) [line] σ
 let r:=bR T (ar a (ct ts h)) 11 f.1 0 a f.2
 su T a h [] ts r.1 r.2
noncomputable def eE (b:List NV) (full:ay) (a:Int):List Nat→Sg→List Nat×Sg
 |[],σ=>([],σ)
 |n::ns,σ=>if fy b full a n=n then ((kR T a (aa b n) σ).1::(eE b full a ns (kR T a (aa b n) σ).2).1,(eE b full a ns (kR T a (aa b n) σ).2).2) else eE b full a ns σ
noncomputable def uA (b:List NV) (goal:Tr) (full:ay) (a:Int) (ns:List Nat) (tg:Nat) (own:List Nat) (isK:Bool) (line:Nat) (σ:Sg):Nat×Sg:=
 let c:=lX T a (ns.map (aa b)) (aE (aa b tg)) line σ
 let d:=eE T b full a own c.2
 let e:=if isK=true then dS T a (aa b tg) d.2 else bR T (aP (ar a (aa b tg)) (aE (ar a (aE (aa b tg))))) 6 0 0 0 d.2
 aU T goal (c.1::(d.1++[e.1])) e.2
noncomputable def bL (b:List NV) (tl:List SD) (full:ay) (x:SD) (last:List Nat) (σ:Sg):Nat×Sg:=
 let goal:=dA b x.set
 let p0:=last.getD (x.fr.getD 0 0).toNat 0
 let p1:=last.getD (x.fr.getD 1 0).toNat 0
 if x.av=1 then (if (nd b x.on).op=2 then aU T goal [] σ else aU T goal [(aI T false (tA b x.on) σ).1] (aI T false (tA b x.on) σ).2)
 else if x.av=2 then aU T goal [p0] σ
 else if x.av=3 then aU T goal [p0,p1] σ
 else if x.av=4 then aU T goal [(aI T true (tA b x.on) σ).1,p0,p1] (aI T true (tA b x.on) σ).2
 else if x.av=5 then aU T goal [(bR T (aP (tA b x.on) (tA b (nd b x.on).x)) 3 0 0 0 σ).1,p0] (bR T (aP (tA b x.on) (tA b (nd b x.on).x)) 3 0 0 0 σ).2
 else if x.av=6 then uA T b goal full (nd b x.on).i (dV (de tl (x.fr.getD 0 0) &&& ~~~ bW (nd b x.on).x)) (nd b x.on).x.toNat (dV (de tl (x.fr.getD 0 0) &&& ~~~ bW (nd b x.on).x)) true p0 σ
 else uA T b goal full x.on (dV (de tl (x.fr.getD 0 0))).dropLast ((dV (de tl (x.fr.getD 0 0))).getLastD 0) (dV (de tl (x.fr.getD 0 0))) false p0 σ
noncomputable def aS (b:List NV) (tl:List SD) (fl:List ay):Nat→List Nat×Sg
 |0=>([],⟨[],false⟩)
 |q+1=>match tl[q]? with
  |some x=>((aS b tl fl q).1++[(bL T b tl (fl.getD q 0#64) x (aS b tl fl q).1 (aS b tl fl q).2).1],(bL T b tl (fl.getD q 0#64) x (aS b tl fl q).1 (aS b tl fl q).2).2)
  |none=>aS b tl fl q
end
noncomputable def cM (ss:List SD):Nat→List ay
 |0=>[]
 |k+1=>match ss[k]? with
  |some x=>if dG ss k=true then cM ss k++[x.set] else cM ss k
  |none=>cM ss k
noncomputable def gF (T:Tr→Prop) (b:List NV) (ss:List SD):Nat×Sg:=
 let tl:=dk b ss
 let p:=aS T b tl (cM ss ss.length) tl.length
 let ln:=p.1.getD (tl.length - 1) 0
 if de tl ((tl.length - 1:Nat):Int)=de ss ((ss.length - 1:Nat):Int) then (ln,p.2) else aU T (dA b (de ss ((ss.length - 1:Nat):Int))) [ln] p.2
section
variable {l:Int} {b:List NV} {ss:List SD} {σ:Sg} {T:Tr→Prop}
theorem zc {v:Tr→Bool}:∀{ts:List Tr},bZ v (kH ts)=true↔∀u∈ts,bZ v u=true
 |[]=>⟨fun _ _ h=>(by cases h),fun _=>rfl⟩
 |t::ts=>by
  have key:∀(us:List Tr) (a:Tr),bZ v (us.foldl (fun a c=>.bin 5 0 0 0 a c) a)=true↔bZ v a=true∧∀u∈us,bZ v u=true:=by
   intro us
   induction us with
   |nil=>intro a;simp
   |cons u us ih=>
    intro a
    rw [List.foldl_cons,ih,show bZ v (.bin 5 0 0 0 a u)=(bZ v a && bZ v u) from rfl,Bool.and_eq_true]
    simp only [List.mem_cons,forall_eq_or_imp,and_assoc]
  rw [show kH (t::ts)=ts.foldl (fun a c=>.bin 5 0 0 0 a c) t from rfl,key]
  simp
theorem eZ {v:Tr→Bool} {s:ay}:bZ v (dA b s)=true↔¬∀n,s.getLsbD n=true→bZ v (aa b n)=true:=by
 unfold dA
 rw [qJ,Bool.not_eq_true']
 constructor
 ·intro h hall
  have:bZ v (kH ((dV s).map (aa b)))=true:=zc.2 (fun u hu=>by
   obtain ⟨n,hn,rfl⟩:=List.mem_map.1 hu
   exact hall n (cX.1 hn))
  rw [this] at h;cases h
 intro h
 cases e:bZ v (kH ((dV s).map (aa b))) with
 |false=>rfl
 |true=>exact absurd (fun n hn=>zc.1 e _ (List.mem_map_of_mem (cX.2 hn))) h
theorem vV:∀{ts:List Tr},(∀u∈ts,eW u)→eW (kH ts)
 |[],_=>⟨⟨by decide,rfl,by decide⟩,.inl (by decide)⟩
 |t::ts,h=>by
  have key:∀(us:List Tr) (a:Tr),eW a→(∀u∈us,eW u)→eW (us.foldl (fun a c=>.bin 5 0 0 0 a c) a):=by
   intro us
   induction us with
   |nil=>intro a ha _;exact ha
   |cons u us ih=>intro a ha hu;exact ih _ (ha.ad (hu u (List.mem_cons_self ..))) (fun w hw=>hu w (List.mem_cons_of_mem _ hw))
  exact key ts t (h t (List.mem_cons_self ..)) (fun u hu=>h u (List.mem_cons_of_mem _ hu))
theorem aW.fr (h:aW b) {n:Nat} (hn:n<b.length):eW (aa b n):=(h.nf n hn).fr (h.ok hn)
theorem oW (h:aW b) {s:ay} (hs:jt b s):eW (dA b s):=(vV (fun u hu=>by
 obtain ⟨n,hn,rfl⟩:=List.mem_map.1 hu
 exact h.fr (hs n (cX.1 hn)))).nt
/-! every part only adds lines, and its line says what it should -/
theorem vY {a:Int} {h:Tr}:∀{ts ds:List Tr} {r:Nat} {σ:Sg},σ.Le (su T a h ds ts r σ).2
 |[],_,_,σ=>Sg.Le.refl σ
 |_t::ts,_ds,_r,_σ=>tE.trans (cY.trans (vY (ts:=ts)))
theorem BJ {a:Int} {h:Tr} {ts:List Tr} {n:Nat}:σ.Le (lX T a ts h n σ).2:=cY.trans (db.trans vY)
theorem tS {a:Int} {h:Tr}:∀{ts ds:List Tr} {r:Nat} {σ:Sg},di σ r (ct (ds.map (ar a)) (ar a (ct ts h)))→di (su T a h ds ts r σ).2 (su T a h ds ts r σ).1 (ct ((ds++ts).map (ar a)) (ar a h))
 |[],ds,r,σ,hr=>by rw [List.append_nil];exact hr
 |t::ts,ds,r,σ,_=>by
  rw [show ds++t::ts=(ds++[t])++ts by simp]
  exact tS eD
theorem tR {a:Int} {h:Tr} {ts:List Tr} {n:Nat}:di (lX T a ts h n σ).2 (lX T a ts h n σ).1 (ct (ts.map (ar a)) (ar a h)):=tS (ds:=[]) bP
theorem kf {full:ay} {a:Int}:∀{ns:List Nat} {σ:Sg},σ.Le (eE T b full a ns σ).2
 |[],σ=>Sg.Le.refl σ
 |n::ns,σ=>by
  rw [eE];split
  ·exact sy.trans kf
  exact kf
theorem nV {full:ay} {a:Int}:∀{ns:List Nat} {σ:Sg} (m:Nat),m∈(eE T b full a ns σ).1→∃n∈ns,fy b full a n=n∧di (eE T b full a ns σ).2 m (aP (aa b n) (ar a (aa b n)))
 |[],σ,m,h=>by cases h
 |n::ns,σ,m,h=>by
  rw [eE] at h⊢
  by_cases e:fy b full a n=n
  ·rw [if_pos e] at h⊢
   rcases List.mem_cons.1 h with rfl|h
   ·exact ⟨n,List.mem_cons_self ..,e,qs.le kf⟩
   obtain ⟨k,h1,h2,h3⟩:=nV m h
   exact ⟨k,List.mem_cons_of_mem _ h1,h2,h3⟩
  rw [if_neg e] at h⊢
  obtain ⟨k,h1,h2,h3⟩:=nV m h
  exact ⟨k,List.mem_cons_of_mem _ h1,h2,h3⟩
theorem nW {full:ay} {a:Int}:∀{ns:List Nat} {σ:Sg} {n:Nat},n∈ns→fy b full a n=n→∃m∈(eE T b full a ns σ).1,di (eE T b full a ns σ).2 m (aP (aa b n) (ar a (aa b n)))
 |[],_,_,h,_=>by cases h
 |k::ns,σ,n,h,he=>by
  rw [eE]
  rcases List.mem_cons.1 h with rfl|h
  ·rw [if_pos he]
   exact ⟨_,List.mem_cons_self ..,qs.le kf⟩
  split
  ·obtain ⟨m,h1,h2⟩:=nW (σ:=(kR T a (aa b k) σ).2) h he
   exact ⟨m,List.mem_cons_of_mem _ h1,h2⟩
  exact nW h he
theorem vJ {goal:Tr} {full:ay} {a:Int} {ns:List Nat} {tg:Nat} {own:List Nat} {isK:Bool} {line:Nat}:σ.Le (uA T b goal full a ns tg own isK line σ).2:=by
 have h1:=BJ (T:=T) (σ:=σ) (a:=a) (h:=aE (aa b tg)) (ts:=ns.map (aa b)) (n:=line)
 have h2:=kf (T:=T) (b:=b) (full:=full) (a:=a) (ns:=own) (σ:=(lX T a (ns.map (aa b)) (aE (aa b tg)) line σ).2)
 cases isK with
 |true=>exact (h1.trans h2).trans (jA.trans cY)
 |false=>exact (h1.trans h2).trans (db.trans cY)
theorem sQ {tl:List SD} {full:ay} {x:SD} {last:List Nat}:σ.Le (bL T b tl full x last σ).2:=by
 unfold bL
 dsimp only
 repeat' split
 ·exact cY
 ·exact ic.trans cY
 ·exact cY
 ·exact cY
 ·exact ic.trans cY
 ·exact db.trans cY
 ·exact vJ
 exact vJ
theorem wq {tl:List SD} {full:ay} {x:SD} {last:List Nat}:di (bL T b tl full x last σ).2 (bL T b tl full x last σ).1 (dA b x.set):=by
 unfold bL
 dsimp only
 repeat' split
 all_goals exact eD
/-! the line that is returned is the last one -/
def oC (σ:Sg) (n:Nat):Prop:=σ.bad=false→n+1=σ.ls.length
theorem rB {t:Tr} {r g:Int} {a c:Nat}:oC (bR T t r a c g σ).2 (bR T t r a c g σ).1:=by
 unfold bR;split
 ·intro e;cases e
 intro _;simp
theorem rf {g:Tr}:∀{ps:List (Nat×Tr)} {n:Nat} {σ:Sg},oC σ n→oC (lp T g ps n σ).2 (lp T g ps n σ).1
 |[],_,_,h=>h
 |_::ps,_,_,_=>rf (ps:=ps) rB
theorem ry {g:Tr} {fr:List Nat}:oC (aU T g fr σ).2 (aU T g fr σ).1:=by
 unfold aU;split
 ·rename_i h;intro e;rw [h] at e;cases e
 exact rf rB
theorem ui {tl:List SD} {full:ay} {x:SD} {last:List Nat}:oC (bL T b tl full x last σ).2 (bL T b tl full x last σ).1:=by
 unfold bL
 dsimp only
 repeat' split
 all_goals exact ry
end
end Go.Proofs.Wit
