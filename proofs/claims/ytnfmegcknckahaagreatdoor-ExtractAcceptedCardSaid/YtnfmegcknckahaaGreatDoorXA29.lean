/- Laws of walks, for any program, under the conditions that each theorem states. -/
import Derived.Test.YtnfmegcknckahaaGreatDoorXA23
import Derived.Test.YtnfmegcknckahaaGreatDoorXA13
import Derived.Test.YtnfmegcknckahaaGreatDoorXA15
import Derived.Test.YtnfmegcknckahaaGreatDoorXA02
import Derived.Test.YtnfmegcknckahaaGreatDoorXA25
import Derived.Test.YtnfmegcknckahaaGreatDoorXA01
namespace Go.Proofs.Wit
open Go
structure KM where
  n:Nat
  R:Nat→Nat→Nat→Prop
  V:Nat→Nat→Prop
  lt:∀k w u,w<n→R k w u→u<n
def KM.Gr (M:KM) (g:Nat) (w u:Nat):Prop:=∃k,k<4∧gb g k=1∧M.R k w u
inductive KM.HC (M:KM) (g:Nat) (c:Nat→Bool):Nat→Nat→Prop
  |one {w u:Nat}:M.Gr g w u→c u=true→KM.HC M g c w u
  |step {w u v:Nat}:KM.HC M g c w u→M.Gr g u v→c v=true→KM.HC M g c w v
section
variable {M:KM}
structure Jd (M:KM) (l:Int):Prop where
  t:cn l 3=true→∀k w,w<M.n→M.R k w w
  f:cn l 4=true→∀k w u v,w<M.n→M.R k w u→M.R k u v→M.R k w v
  v:cn l 5=true→∀k w u v,w<M.n→M.R k w u→M.R k w v→M.R k u v
  d:cn l 6=true→∀k w,w<M.n→∃u,M.R k w u
end
end Go.Proofs.Wit
namespace Go.Proofs.Wit
open Go Go.RowKit
section
variable {n:Nat} {val:List aB} {rel:List (List aB)}
structure IM (n:Nat) (val:List aB) (rel:List (List aB)) (f:List NV) (t:Tr):Prop where
  jD:aW f=0
  fit:FO f rel.length val.length=true
  I8:kp (kS (aj f)) 1=0
  can:aj f=bX t
  top:bh f=t
  hold:FH (n:Int) val rel f=0
  ok:t.ok
end
end Go.Proofs.Wit
namespace Go.Proofs.Wit
open Go Go.RowKit
end Go.Proofs.Wit
namespace Go.Proofs.Wit
open Go
structure Jg (n1:Nat) (v1:List aB) (r1:List (List aB)) (n:Nat) (v:List aB) (r:List (List aB)) (e:Nat→Nat):Prop where
  Im:n≤64
  Il:n1≤64
  lt:∀x,x<n1→e x<n
  val:∀i x,x<n1→((v.getD i 0#64).getLsbD (e x)=true↔(v1.getD i 0#64).getLsbD x=true)
  fwd:∀i x y,x<n1→Rl (r1.getD i []) x y→Rl (r.getD i []) (e x) (e y)
  bwd:∀i x z,x<n1→Rl (r.getD i []) (e x) z→∃y,y<n1∧z=e y∧Rl (r1.getD i []) x y
  I6:∀i x y,Rl (r1.getD i []) x y→y<n1
section
variable {n1 n:Nat} {v1 v:List aB} {r1 r:List (List aB)} {e:Nat→Nat}
end
end Go.Proofs.Wit
namespace Go.Proofs.Wit
open Go
section
variable {na nb:Nat} {va vb:List aB} {ra rb:List (List aB)}
structure Jb (na nb:Nat) (va vb:List aB) (ra rb:List (List aB)):Prop where
  a:Gg (na:Int) va ra
  b:Gg (nb:Int) vb rb
  rl:ra.length=rb.length
  vl:va.length=vb.length
  le:na+nb≤64
end
end Go.Proofs.Wit
namespace Go.Proofs.Wit
open Go Go.RowKit
section
variable {n:Nat} {val:List aB} {rel:List (List aB)}
theorem By {op:Int} (ho:1≤op∧op≤21):kp (xx op).toNat 11=0↔op≤11∨op=13:=
 ys (p:=fun op=>kp (xx op).toNat 11=0↔op≤11∨op=13) (by decide) ho
theorem mo {f:List NV}:fF f=0↔aW f=0∧jX (fun op _ _=>op≤11∨op=13) (bh f):=by
 unfold fF
 by_cases h1:aW f=0
 ·rw [if_neg (by simp [h1]),dv h1,←Bw (aA.1 h1).top By]
  constructor
  ·intro h
   refine ⟨h1,Classical.byContradiction (fun h2=>?_)⟩
   rw [if_pos h2] at h;exact absurd h (by decide)
  intro h;rw [if_neg (by simp [h.2])]
 rw [if_pos h1];exact ⟨fun h=>absurd h h1,fun h=>absurd h.1 h1⟩
end
theorem iC {l:Int} {ls:List LV}:fN l ls=0↔(0≤l∧l≤6)∧0<ls.length∧ls.length≤400∧∀(k:Nat) (hk:k<ls.length),dI l ls k ls[k]=0:=by
 have hs:∀{k:Nat},da l ls k=0→∀hk:k<ls.length,da l ls (k+1)=dI l ls k ls[k]:=fun {k} h hk=>by
  show (if da l ls k≠0 then da l ls k else match ls[k]? with|some x=>dI l ls k x|none=>0)=_
  rw [if_neg (by simp [h]),List.getElem?_eq_getElem hk]
 have hb:∀{k:Nat},da l ls k≠0→da l ls (k+1)=da l ls k:=fun {k} h=>by
  show (if da l ls k≠0 then da l ls k else _)=_
  rw [if_pos h]
 have key:∀k,k≤ls.length→(da l ls k=0↔∀(j:Nat) (hj:j<ls.length),j<k→dI l ls j ls[j]=0):=by
  intro k
  induction k with
  |zero=>exact fun _=>⟨fun _ j _ h=>absurd h (Nat.not_lt_zero _),fun _=>rfl⟩
  |succ k ih=>
   intro hk
   have ih:=ih (by omega)
   constructor
   ·intro h
    have h0:da l ls k=0:=Classical.byContradiction (fun hne=>hne (by rw [←hb hne];exact h))
    intro j hj hjk
    by_cases e:j=k
    ·subst e;rw [←hs h0 hj];exact h
    exact ih.1 h0 j hj (by omega)
   intro h
   have h0:=ih.2 (fun j hj hjk=>h j hj (by omega))
   rw [hs h0 (by omega)]
   exact h k (by omega) (by omega)
 unfold fN
 by_cases h1:¬(0≤l∧l≤6)
 ·rw [if_pos h1];exact ⟨fun h=>absurd h (by decide),fun h=>absurd h.1 h1⟩
 rw [if_neg h1]
 by_cases h2:ls.length=0
 ·rw [if_pos h2];exact ⟨fun h=>absurd h (by decide),fun h=>absurd h.2.1 (by omega)⟩
 rw [if_neg h2]
 by_cases h3:400<ls.length
 ·rw [if_pos h3];exact ⟨fun h=>absurd h (by decide),fun h=>absurd h.2.2.1 (by omega)⟩
 rw [if_neg h3,key _ (Nat.le_refl _)]
 exact ⟨fun h=>⟨Classical.not_not.1 h1,by omega,by omega,fun k hk=>h k hk hk⟩,fun h j hj _=>h.2.2.2 j hj⟩
theorem wT {l:Int} {ls:List LV} (h:fN l ls=0) (k:Nat) (hk:k<ls.length):fF ls[k].f.f=0:=by
 have h4:=(iC.1 h).2.2.2 k hk
 unfold dI at h4
 by_cases h1:fF ls[k].f.f=0
 ·exact h1
 rw [if_pos h1] at h4;exact h4
end Go.Proofs.Wit
namespace Go.Proofs.Wit
open Go Go.RowKit
/-- what a line says -/
structure LD where
  f:List NV
  r:Int
  a:Int
  b:Int
  g:Int
def LV.d (x:LV):LD:=⟨x.f.f,x.r,x.a,x.b,x.g⟩
def LD.v (x:LD):LV:=⟨⟨none,0,x.f⟩,x.r,x.a,x.b,x.g⟩
section
variable {l:Int} {ls ls':List LV}
theorem BI (h:ls.map LV.d=ls'.map LV.d):ls.length=ls'.length:=by have:=congrArg List.length h;simpa using this
theorem D5 (h:ls.map LV.d=ls'.map LV.d) {k:Nat} (hk:k<ls.length) (hk':k<ls'.length):ls[k].d=ls'[k].d:=by
 have h1:(ls.map LV.d)[k]'(by simpa using hk)=(ls'.map LV.d)[k]'(by simpa using hk'):=by simp only [h]
 simpa using h1
theorem Bi (h:ls.map LV.d=ls'.map LV.d) (k:Int):rS ls k=rS ls' k:=by
 have e:ls.map (fun x=>bh x.f.f)=ls'.map (fun x=>bh x.f.f):=by
  have h1:∀l:List LV,l.map (fun x=>bh x.f.f)=(l.map LV.d).map (fun x=>bh x.f):=fun l=>by rw [List.map_map];rfl
  rw [h1,h1,h]
 unfold rS
 rw [e]
theorem z9 (h:ls.map LV.d=ls'.map LV.d) {x y:LV} (e:x.d=y.d):jY ls x↔jY ls' y:=by
 obtain ⟨⟨xa,xc,xf⟩,xr,x1,x2,x3⟩:=x
 obtain ⟨⟨ya,yc,yf⟩,yr,y1,y2,y3⟩:=y
 simp only [LV.d,LD.mk.injEq] at e
 obtain ⟨rfl,rfl,rfl,rfl,rfl⟩:=e
 unfold jY
 simp only [Bi h]
theorem wV (h:ls.map LV.d=ls'.map LV.d) {i:Nat} {x y:LV} (e:x.d=y.d):dI l ls i x=dI l ls' i y:=by
 have h2:=z9 h e
 have en:iT i x=iT i y:=by
  obtain ⟨⟨xa,xc,xf⟩,xr,x1,x2,x3⟩:=x
  obtain ⟨⟨ya,yc,yf⟩,yr,y1,y2,y3⟩:=y
  simp only [LV.d,LD.mk.injEq] at e
  obtain ⟨rfl,rfl,rfl,rfl,rfl⟩:=e
  rfl
 have ef:x.f.f=y.f.f:=congrArg LD.f e
 have er:x.r=y.r:=congrArg LD.r e
 unfold dI
 rw [en,ef,er]
 by_cases k:jY ls x
 ·rw [if_pos k,if_pos (h2.1 k)]
 rw [if_neg k,if_neg (fun k'=>k (h2.2 k'))]
theorem u5 (h:ls.map LV.d=ls'.map LV.d) (h0:fN l ls=0):fN l ls'=0:=by
 obtain ⟨h1,h2,h3,h4⟩:=iC.1 h0
 have hl:=BI h
 exact iC.2 ⟨h1,by omega,by omega,fun k hk=>by
  have:=h4 k (by omega)
  rw [←wV h (D5 h (by omega) hk)];exact this⟩
end
theorem mj {l:Int} {ls:List LV} {i:Nat} {x:LV}:dI l ls i x=0↔fF x.f.f=0∧(1≤x.r∧x.r≤12)∧iT i x=0∧cn l x.r=true∧jY ls x:=by
 constructor
 ·intro h
  unfold dI at h
  by_cases h1:fF x.f.f=0
  rotate_left
  ·rw [if_pos h1] at h;exact absurd h h1
  rw [if_neg (by simp [h1])] at h
  by_cases h2:x.r<1∨12<x.r
  ·rw [if_pos h2] at h;exact absurd h (by decide)
  rw [if_neg h2] at h
  by_cases h3:iT i x=0
  rotate_left
  ·rw [if_pos h3] at h;exact absurd h h3
  rw [if_neg (by simp [h3])] at h
  by_cases h4:cn l x.r=false
  ·rw [if_pos h4] at h;exact absurd h (by decide)
  rw [if_neg h4] at h
  by_cases h5:jY ls x
  rotate_left
  ·rw [if_neg h5] at h;exact absurd h (by decide)
  exact ⟨h1,by omega,h3,by simpa using h4,h5⟩
 rintro ⟨h1,h2,h3,h4,h5⟩
 exact yO h1 h2 h3 h4 h5
theorem qF {i:Int} {x:LV} (h1:1≤x.r) (h12:x.r≤12):iT i x=0↔¬pJ x∧¬pI i x∧0≤x.g∧x.g<4:=by
 constructor
 ·intro h
  have k1:¬pJ x:=fun k=>by rw [yu h1 h12 (.inl k)] at h;exact absurd h (by decide)
  have k2:¬pI i x:=fun k=>by rw [yu h1 h12 (.inr k)] at h;exact absurd h (by decide)
  rw [yv h1 h12 k1 k2] at h
  refine ⟨k1,k2,?_⟩
  by_cases h3:x.g<0∨x.g≥4
  ·rw [if_pos h3] at h;exact absurd h (by decide)
  omega
 rintro ⟨k1,k2,k3⟩
 rw [yv h1 h12 k1 k2,if_neg (by omega)]
inductive EO (ls:List LV):Nat→Prop
  |last {k:Nat}:k+1=ls.length→EO ls k
  |a {k:Nat} (hk:k<ls.length):EO ls k→10≤ls[k].r→EO ls ls[k].a.toNat
  |b {k:Nat} (hk:k<ls.length):EO ls k→ls[k].r=10→EO ls ls[k].b.toNat
def bJ (p:Nat→Bool) (k:Nat):Nat:=((List.range k).filter p).length
theorem gY {p:Nat→Bool} {k:Nat}:bJ p (k+1)=bJ p k+(if p k=true then 1 else 0):=by
 unfold bJ
 rw [List.range_succ,List.filter_append,List.length_append]
 cases h:p k<;>simp [h]
theorem so {p:Nat→Bool}:∀{k:Nat},bJ p k≤k
 |0=>Nat.le_refl _
 |k+1=>by have:=so (p:=p) (k:=k);rw [gY];split<;>omega
theorem xh {p:Nat→Bool} {j k:Nat} (h:j≤k):bJ p j≤bJ p k:=by
 induction h with
 |refl=>exact Nat.le_refl _
 |step _ ih=>rw [gY];omega
theorem BO {p:Nat→Bool} {j k:Nat} (h:j<k) (hp:p j=true):bJ p j<bJ p k:=by
 have:=xh (p:=p) (show j+1≤k from h)
 rw [gY,if_pos hp] at this;omega
theorem D8 {p:Nat→Bool} {n q:Nat} (h:q<bJ p n):∃j,j<n∧p j=true∧bJ p j=q:=by
 induction n with
 |zero=>exact absurd h (Nat.not_lt_zero _)
 |succ n ih=>
  rw [gY] at h
  by_cases h1:q<bJ p n
  ·obtain ⟨j,h2,h3⟩:=ih h1;exact ⟨j,by omega,h3⟩
  by_cases h2:p n=true
  ·rw [if_pos h2] at h;exact ⟨n,by omega,h2,by omega⟩
  rw [if_neg h2] at h;omega
section
variable {l:Int} {ls:List LV}
end
end Go.Proofs.Wit
namespace Go.Proofs.Wit
open Go Go.RowKit
theorem p3 {t:Tr}:Fit t↔bT t≠[]:=by unfold Fit;exact Cy.symm
open Classical in
noncomputable def fg (t:Tr):Tr:=if Fit (aE t) then (aN t).2 else aE t
theorem pG {t:Tr} (h:t.ok):(fg t).ok:=by
 unfold fg;split
 ·exact (lq h).2
 exact bA h
structure TL where
  t:Tr
  r:Int
  a:Nat
  b:Nat
  g:Int
def TL.v (x:TL):LV:=⟨⟨none,0,bT x.t⟩,x.r,x.a,x.b,x.g⟩
structure Sg where
  ls:List TL
  bad:Bool
def fQ (σ:Sg) (n:Nat):Tr:=(σ.ls.map TL.t).getD n (.leaf 0 0 0 0)
def cy (ts:List Tr) (g:Tr):Tr:=ts.foldr aP g
theorem lE:∀{ts:List Tr} {g:Tr},(∀u∈ts,u.ok)→g.ok→(cy ts g).ok
 |[],_,_,h=>h
 |t::ts,_,h,hg=>dC (h t (List.mem_cons_self ..)) (lE (ts:=ts) (fun u hu=>h u (List.mem_cons_of_mem _ hu)) hg)
section
variable (T:Tr→Prop)
open Classical in
noncomputable def bR (t:Tr) (r:Int) (a b:Nat) (g:Int) (σ:Sg):Nat×Sg:=
 if σ.bad=true∨¬Fit t∨400≤σ.ls.length∨(r=1∧¬T t) then (0,⟨σ.ls,true⟩) else (σ.ls.length,⟨σ.ls++[⟨t,r,a,b,g⟩],false⟩)
noncomputable def lu (g:Tr):List (Nat×Tr)→Nat→Sg→Nat×Sg
 |[],n,σ=>(n,σ)
 |p::ps,n,σ=>lu g ps (bR T (cy (ps.map (·.2)) g) 10 p.1 n 0 σ).1 (bR T (cy (ps.map (·.2)) g) 10 p.1 n 0 σ).2
noncomputable def aV (g:Tr) (from_:List Nat) (σ:Sg):Nat×Sg:=
 if σ.bad=true then (0,σ) else
  lu T g (from_.map (fun n=>(n,fQ σ n))) (bR T (cy (from_.map (fQ σ)) g) 1 0 0 0 σ).1 (bR T (cy (from_.map (fQ σ)) g) 1 0 0 0 σ).2
noncomputable def kW (i:Int) (p q:Tr) (σ:Sg):Nat×Sg:=bR T (aP (ar i (aP p q)) (aP (ar i p) (ar i q))) 2 0 0 0 σ
noncomputable def gI (i:Int) (p q:Tr) (line:Nat) (σ:Sg):Nat×Sg:=
 let n:=bR T (ar i (aP p q)) 11 line 0 i σ
 let k:=kW T i p q n.2
 bR T (aP (ar i p) (ar i q)) 10 n.1 k.1 0 k.2
noncomputable def dV (i:Int) (v:Tr) (σ:Sg):Nat×Sg:=bR T (nJ (gl i v) (aE (ar i (aE v)))) 7 0 0 0 σ
noncomputable def lW (ei:Bool) (t:Tr):Tr:=if ei=true then .bin 6 0 0 0 t (fg t) else aE (jA t (fg t))
noncomputable def uT (op:Int) (a:Tr):Tr:=if op=9 then a else fg a
noncomputable def vT (op:Int) (a:Tr):Tr:=if op=9 then fg a else a
noncomputable def oM (ei:Bool) (op:Int) (a:Tr):Tr:=if ei=true then aE (vT op a) else uT op a
noncomputable def oL (ei:Bool) (op:Int) (a:Tr):Tr:=if ei=true then uT op a else aE (vT op a)
noncomputable def pP (ei:Bool) (op i:Int) (a t:Tr) (x:Nat) (σ:Sg):Nat×Sg:=
 let l:=aV T (aP (oM ei op a) (oL ei op a)) [x] σ
 let d:=gI T i (oM ei op a) (oL ei op a) l.1 l.2
 let s:=dV T i (vT op a) d.2
 aV T (lW ei t) [d.1,s.1] s.2
noncomputable def aI (ei:Bool):Tr→Sg→Nat×Sg
 |.leaf op i e g,σ=>aV T (lW ei (.leaf op i e g)) [] σ
 |.un op i e g a,σ=>if op=9∨op=10 then pP T ei op i a (.un op i e g a) (aI ei a σ).1 (aI ei a σ).2 else aV T (lW ei (.un op i e g a)) [] σ
 |.bin op i e g a b,σ=>aV T (lW ei (.bin op i e g a b)) [(aI ei a σ).1,(aI ei b (aI ei a σ).2).1] (aI ei b (aI ei a σ).2).2
noncomputable def kV (i:Int) (f:Tr) (σ:Sg):Nat×Sg:=
 match f with
 |.un 10 _ _ _ z=>
  let nz:=aE (ar i (aE z))
  let s:=dV T i z σ
  let f5:=bR T (aP nz (ar i nz)) 5 0 0 0 s.2
  let bk:=aV T (aP nz f) [s.1] f5.2
  let kn:=gI T i nz f bk.1 bk.2
  aV T (aP f (ar i f)) [s.1,f5.1,kn.1] kn.2
 |_=>bR T (aP f (ar i f)) 4 0 0 0 σ
end
structure Sg.Le (σ σ':Sg):Prop where
  pre:σ.ls<+:σ'.ls
  ok:σ'.bad=false→σ.bad=false
theorem Sg.Le.refl (σ:Sg):σ.Le σ:=⟨List.prefix_refl _,id⟩
theorem Sg.Le.trans {σ σ' σ'':Sg} (h:σ.Le σ') (g:σ'.Le σ''):σ.Le σ'':=⟨h.pre.trans g.pre,fun e=>h.ok (g.ok e)⟩
def dn (σ:Sg) (n:Nat) (t:Tr):Prop:=σ.bad=false→n<σ.ls.length∧fQ σ n=t
theorem Ax {σ σ':Sg} (h:σ.Le σ') {n:Nat} (hn:n<σ.ls.length):fQ σ' n=fQ σ n:=by
 obtain ⟨u,hu⟩:=h.pre
 unfold fQ
 rw [←hu,List.map_append]
 simp [List.getD_eq_getElem?_getD,List.getElem?_append_left (show n<(σ.ls.map TL.t).length by simpa using hn)]
theorem dn.le {σ σ':Sg} {n:Nat} {t:Tr} (h:dn σ n t) (g:σ.Le σ'):dn σ' n t:=fun e=>by
 obtain ⟨h1,h2⟩:=h (g.ok e)
 exact ⟨Nat.lt_of_lt_of_le h1 g.pre.length_le,by rw [Ax g h1];exact h2⟩
section
variable {T:Tr→Prop} {t g:Tr} {r i:Int} {a b n:Nat} {σ:Sg}
theorem jy (h:σ.bad=true) {gg:Int}:bR T t r a b gg σ=(0,σ):=by
 rw [bR,if_pos (.inl h),←h]
theorem df {gg:Int}:σ.Le (bR T t r a b gg σ).2:=by
 unfold bR;split
 ·exact ⟨List.prefix_refl _,fun e=>by cases e⟩
 rename_i h
 exact ⟨List.prefix_append _ _,fun _=>by
  cases hb:σ.bad with
  |false=>rfl
  |true=>exact absurd (.inl hb) h⟩
theorem bP {gg:Int}:dn (bR T t r a b gg σ).2 (bR T t r a b gg σ).1 t:=by
 unfold bR;split
 ·intro e;cases e
 intro _;exact ⟨by simp,by simp [fQ,List.getD_eq_getElem?_getD]⟩
theorem Bc {ps:List (Nat×Tr)}:∀{n:Nat} {σ:Sg},σ.Le (lu T g ps n σ).2:=by
 induction ps with
 |nil=>intro n σ;exact Sg.Le.refl _
 |cons p ps ih=>intro n σ;exact df.trans ih
theorem dc {from_:List Nat}:σ.Le (aV T g from_ σ).2:=by
 unfold aV;split
 ·exact Sg.Le.refl _
 exact df.trans Bc
theorem yE {ps:List (Nat×Tr)}:∀{n:Nat} {σ:Sg},dn σ n (cy (ps.map (·.2)) g)→dn (lu T g ps n σ).2 (lu T g ps n σ).1 g:=by
 induction ps with
 |nil=>intro n σ h;exact h
 |cons p ps ih=>intro n σ _;exact ih bP
theorem eE {from_:List Nat}:dn (aV T g from_ σ).2 (aV T g from_ σ).1 g:=by
 unfold aV;split
 ·rename_i h;intro e;rw [h] at e;cases e
 refine yE ?_
 rw [List.map_map]
 exact bP
theorem gA {from_:List Nat} (h:σ.bad=true):aV T g from_ σ=(0,σ):=by rw [aV,if_pos h]
theorem tG {p q:Tr}:σ.Le (kW T i p q σ).2:=df
theorem nj {p q:Tr} {l:Nat}:σ.Le (gI T i p q l σ).2:=df.trans (df.trans df)
theorem lD {p q:Tr} {l:Nat}:dn (gI T i p q l σ).2 (gI T i p q l σ).1 (aP (ar i p) (ar i q)):=bP
theorem zn {p q:Tr} {l:Nat} (h:σ.bad=true):gI T i p q l σ=(0,σ):=by simp only [gI,kW];rw [jy h];dsimp only;rw [jy h];dsimp only;rw [jy h]
theorem jH {v:Tr}:σ.Le (dV T i v σ).2:=df
theorem Be {ei:Bool} {op:Int} {a t:Tr} {x:Nat}:σ.Le (pP T ei op i a t x σ).2:=dc.trans (nj.trans (jH.trans dc))
theorem yG {ei:Bool} {op:Int} {a t:Tr} {x:Nat} (h:σ.bad=true):pP T ei op i a t x σ=(0,σ):=by
 simp only [pP]
 rw [gA h];dsimp only
 rw [zn h];dsimp only
 rw [dV,jy h];dsimp only
 rw [gA h]
theorem yF {ei:Bool} {op:Int} {a t:Tr} {x:Nat}:dn (pP T ei op i a t x σ).2 (pP T ei op i a t x σ).1 (lW ei t):=eE
theorem lA {ei:Bool}:∀{t:Tr} {σ:Sg},σ.bad=true→aI T ei t σ=(0,σ)
 |.leaf op i e g,σ,h=>by rw [aI,gA h]
 |.un op i e g a,σ,h=>by
  rw [aI];split
  ·rw [lA (t:=a) h,yG h]
  rw [gA h]
 |.bin op i e g a b,σ,h=>by rw [aI,lA (t:=a) h];dsimp only;rw [lA (t:=b) h];dsimp only;rw [gA h]
theorem ik {ei:Bool}:∀{t:Tr} {σ:Sg},σ.Le (aI T ei t σ).2
 |.leaf op i e g,σ=>by rw [aI];exact dc
 |.un op i e g a,σ=>by
  rw [aI];split
  ·exact (ik (t:=a)).trans Be
  exact dc
 |.bin op i e g a b,σ=>by rw [aI];exact (ik (t:=a)).trans ((ik (t:=b)).trans dc)
theorem eB {ei:Bool}:∀{t:Tr} {σ:Sg},dn (aI T ei t σ).2 (aI T ei t σ).1 (lW ei t)
 |.leaf op i e g,σ=>by rw [aI];exact eE
 |.un op i e g a,σ=>by
  rw [aI];split
  ·exact yF
  exact eE
 |.bin op i e g a b,σ=>by rw [aI];exact eE
theorem su {f:Tr}:σ.Le (kV T i f σ).2:=by
 unfold kV;split
 ·exact jH.trans (df.trans (dc.trans (nj.trans dc)))
 exact df
theorem qm {f:Tr}:dn (kV T i f σ).2 (kV T i f σ).1 (aP f (ar i f)):=by
 unfold kV;split
 ·exact eE
 exact bP
end
end Go.Proofs.Wit
namespace Go.Proofs.Wit
open Go Go.RowKit
/-- no more than ten atoms -/
def af (t:Tr):Prop:=∃l:List Tr,l.Nodup∧(∀u,u∈l↔u∈kK t)∧l.length≤10
def eV (t:Tr):Prop:=t.ok∧jX (fun op _ _=>op≤11∨op=13) t
theorem eV.im {a b:Tr} (h:eV a) (g:eV b):eV (aP a b):=⟨dC h.1 g.1,.inl (by decide),h.2,g.2⟩
theorem eV.ad {a b:Tr} (h:eV a) (g:eV b):eV (jA a b):=⟨gp h.1 g.1,.inl (by decide),h.2,g.2⟩
theorem eV.or {a b:Tr} (h:eV a) (g:eV b):eV (.bin 6 0 0 0 a b):=⟨jI h.1 g.1,.inl (by decide),h.2,g.2⟩
theorem eV.if {a b:Tr} (h:eV a) (g:eV b):eV (nJ a b):=⟨tJ h.1 g.1,.inl (by decide),h.2,g.2⟩
theorem eV.nt {a:Tr} (h:eV a):eV (aE a):=⟨bA h.1,.inl (by decide),h.2⟩
theorem eV.kw {a:Tr} {i:Int} (hi:0≤i∧i<4) (h:eV a):eV (ar i a):=⟨bt hi h.1,.inl (by decide),h.2⟩
theorem eV.po {a:Tr} {i:Int} (hi:0≤i∧i<4) (h:eV a):eV (gl i a):=⟨gX (.inr rfl) hi h.1,.inl (by decide),h.2⟩
theorem eV.ch:∀{ts:List Tr} {g:Tr},(∀u∈ts,eV u)→eV g→eV (cy ts g)
 |[],_,_,h=>h
 |t::ts,_,h,hg=>(h t (List.mem_cons_self ..)).im (eV.ch (ts:=ts) (fun u hu=>h u (List.mem_cons_of_mem _ hu)) hg)
def ot:Tr→Prop
 |.leaf op _ _ _=>op≤3
 |.un op _ _ _ a=>(op=4∧∃i e g,a=.leaf 3 i e g)∨((op=9∨op=10)∧ot a)
 |.bin op _ _ _ a b=>(op=5∨op=6)∧ot a∧ot b
theorem ot.y5:∀{t:Tr},ot t→jX (fun op _ _=>op≤11∨op=13) t
 |.leaf op _ _ _,h=>.inl (by have:op≤3:=h;omega)
 |.un op _ _ _ a,h=>by
  rcases h with ⟨h1,i,e,g,rfl⟩|⟨h1,h2⟩
  ·exact ⟨.inl (by omega),.inl (by decide)⟩
  exact ⟨.inl (by omega),h2.y5⟩
 |.bin op _ _ _ a b,h=>⟨.inl (by have:=h.1;omega),h.2.1.y5,h.2.2.y5⟩
theorem vG:∀{t:Tr},ot t→t.ok→eV (aN t).2
 |.leaf op i e g,h,hok=>by
  have ho:op≤3:=h
  rw [aN];dsimp only
  split
  ·exact ⟨⟨by decide,rfl,by decide⟩,.inl (by decide)⟩
  split
  ·exact ⟨⟨by decide,rfl,by decide⟩,.inl (by decide)⟩
  exact eV.nt ⟨hok,.inl (by omega)⟩
 |.un op i e g a,h,hok=>by
  rcases h with ⟨rfl,j,e',g',rfl⟩|⟨h1,h2⟩
  ·rw [aN,if_pos rfl]
   exact ⟨(lq hok.2.2.2.2).1,.inl (by decide)⟩
  have hf:=vG h2 hok.2.2.2.2
  have hi:=(mV hok h1).1
  rcases h1 with rfl|rfl
  ·rw [aN,if_neg (by decide),if_pos rfl];exact hf.po hi
  rw [aN,if_neg (by decide),if_neg (by decide),if_pos rfl];exact hf.kw hi
 |.bin op i e g a b,h,hok=>by
  have ha:=vG h.2.1 hok.2.2.2.1
  have hb:=vG h.2.2 hok.2.2.2.2
  rcases h.1 with rfl|rfl
  ·rw [aN,if_pos rfl];exact ha.or hb
  rw [aN,if_neg (by decide),if_pos rfl];exact ha.ad hb
theorem ot.fr {t:Tr} (h:ot t) (hok:t.ok):eV t:=⟨hok,h.y5⟩
theorem ot.op {t:Tr} (h:ot t) (hok:t.ok):eV (fg t):=by
 unfold fg;split
 ·exact vG h hok
 exact (h.fr hok).nt
theorem oP {r:Tr→Bool} {a b:Tr}:bZ r (aP a b)=(!bZ r a||bZ r b):=rfl
theorem G4 {r:Tr→Bool} {a b:Tr}:bZ r (jA a b)=(bZ r a && bZ r b):=rfl
theorem FP {r:Tr→Bool} {a b:Tr} {i e g:Int}:bZ r (.bin 6 i e g a b)=(bZ r a||bZ r b):=rfl
theorem BE {r:Tr→Bool} {a b:Tr}:bZ r (nJ a b)=(bZ r a==bZ r b):=rfl
theorem qI {r:Tr→Bool} {a:Tr}:bZ r (aE a)=!bZ r a:=rfl
theorem uX {r:Tr→Bool}:∀{ts:List Tr} {g:Tr},bZ r (cy ts g)=true↔((∀u∈ts,bZ r u=true)→bZ r g=true)
 |[],g=>by simp [cy]
 |t::ts,g=>by
  show bZ r (aP t (cy ts g))=true↔_
  rw [oP,Bool.or_eq_true,uX]
  cases ht:bZ r t with
  |false=>simp [ht]
  |true=>simp [ht]
def HN (l:Int) (σ:Sg) (t:Tr) (r:Int) (a b:Nat) (g:Int):Prop:=
 eV t∧cn l r=true∧((r=1∧a=0∧b=0∧g=0∧∀v,bZ v t=true)∨(2≤r∧r<10∧a=0∧b=0∧g=0∧oI r t)∨(r=10∧g=0∧∃A,dn σ a A∧dn σ b (aP A t))∨(r=11∧b=0∧(0≤g∧g<4)∧∃A,dn σ a A∧t=ar g A))
structure Good (l:Int) (σ:Sg):Prop where
  len:σ.ls.length≤400
  tok:∀(k:Nat) (hk:k<σ.ls.length),σ.ls[k].t.ok
  ok:∀(k:Nat) (hk:k<(σ.ls.map TL.v).length),dI l (σ.ls.map TL.v) k (σ.ls.map TL.v)[k]=0
structure sG (l:Int) (P:(Tr→Prop)→Sg→Nat×Sg) (σ:Sg):Prop where
  same:P af σ=P lK σ
  dJ:Good l (P af σ).2
theorem wU {l:Int} {ls:List LV} {i:Nat} {x:LV} (us:List LV) (hi:i≤ls.length) (h:dI l ls i x=0):dI l (ls++us) i x=0:=by
 rw [mj] at h⊢
 obtain ⟨h1,h2,h3,h4,h5⟩:=h
 refine ⟨h1,h2,h3,h4,?_⟩
 have hp:=ll h2.1 h2.2
 obtain ⟨n1,n2,_⟩:=qV h3
 have hget:∀k:Int,0≤k→k<i→rS (ls++us) k=rS ls k:=fun k h0 hk=>by
  unfold rS
  rw [List.map_append]
  simp only [List.getD_eq_getElem?_getD]
  rw [List.getElem?_append_left (by rw [List.length_map];omega)]
 unfold jY at h5⊢
 split at h5
 ·rename_i e
  rw [if_pos e]
  have ha:=jN n1 (by omega)
  have hb:=jN n2 (by omega)
  rw [hget _ hb.1 hb.2,hget _ ha.1 ha.2];exact h5
 rename_i e
 rw [if_neg e]
 split at h5
 ·rename_i e1
  rw [if_pos e1,hget _ (jN n1 (by omega)).1 (jN n1 (by omega)).2];exact h5
 rename_i e1
 rw [if_neg e1]
 split at h5
 ·rename_i e2
  rw [if_pos e2,hget _ (jN n1 (by omega)).1 (jN n1 (by omega)).2];exact h5
 rename_i e2
 rw [if_neg e2];exact h5
theorem oX {t:Tr} (h:t.ok) (hf:Fit t):bh (bT t)=t:=(Cf.yt h (p3.1 hf)).top
theorem zb {t:Tr} (h:eV t) (hf:Fit t):fF (bT t)=0:=mo.2 ⟨(Cf.yt h.1 (p3.1 hf)).jD,by rw [oX h.1 hf];exact h.2⟩
section
variable {l:Int} {σ:Sg}
theorem Good.line (h:Good l σ) {k:Nat} (hk:k<σ.ls.length):eV σ.ls[k].t∧Fit σ.ls[k].t:=by
 have h1:=h.ok k (by simpa using hk)
 have h2:fF (bT σ.ls[k].t)=0:=by
  have:=(mj.1 h1).1
  simpa [TL.v] using this
 have hc:=mo.1 h2
 have hne:bT σ.ls[k].t≠[]:=fun e=>by rw [e] at h2;exact absurd h2 (by decide)
 have hfit:=p3.2 hne
 refine ⟨?_,hfit⟩
 have htop:bh (bT σ.ls[k].t)=σ.ls[k].t:=oX (h.tok k hk) hfit
 exact ⟨h.tok k hk,by rw [←htop];exact hc.2⟩
theorem vo {k:Nat} (hk:k<σ.ls.length):fQ σ k=σ.ls[k].t:=by simp [fQ,List.getD_eq_getElem?_getD,hk]
theorem Good.has (h:Good l σ) (hb:σ.bad=false) {n:Nat} {t:Tr} (ht:dn σ n t):eV t∧Fit t:=by
 obtain ⟨h1,h2⟩:=ht hb
 rw [←h2,vo h1];exact h.line h1
theorem uJ (h:Good l σ) {k:Nat} (hk:k<σ.ls.length) {us:List LV}:rS (σ.ls.map TL.v++us) (k:Int)=fQ σ k:=by
 rw [m4 (k:=k) (by simp;omega) rfl,List.getElem_append_left (by simpa using hk),vo hk]
 simp only [List.getElem_map,TL.v]
 exact oX (h.line hk).1.1 (h.line hk).2
theorem Bz {ls:List LV} {x:LV} {t:Tr} (ht:bh x.f.f=t) (h:(x.r=10∧rS ls x.b=aP (rS ls x.a) t)∨(x.r=11∧t=ar x.g (rS ls x.a))∨(x.r<10∧oI x.r t)):jY ls x:=by
 subst ht
 unfold jY
 rcases h with ⟨h1,h2⟩|⟨h1,h2⟩|⟨h1,h2⟩
 ·rw [if_pos h1];exact h2
 ·rw [if_neg (by omega),if_pos h1];exact h2
 rw [if_neg (by omega),if_neg (by omega),if_neg (by omega)];exact h2
theorem gF {t:Tr} {r g:Int} {a b:Nat} (h:Good l σ) (ha:σ.bad=false→Fit t→HN l σ t r a b g):sG l (fun T=>bR T t r a b g) σ:=by
 have hsame:bR af t r a b g σ=bR lK t r a b g σ:=by
  cases hb:σ.bad with
  |true=>rw [jy hb,jy hb]
  |false=>
   by_cases hf:Fit t
   ·obtain ⟨_,_,hc⟩:=ha hb hf
    by_cases hr:r=1
    ·have:af t=lK t:=by
      rcases hc with ⟨h1,_,_,_,h2⟩|⟨h1,_⟩|⟨h1,_⟩|⟨h1,_⟩
      ·exact propext ⟨fun h=>⟨h,h2⟩,fun h=>h.1⟩
      all_goals omega
     unfold bR;rw [this]
    have e:∀T:Tr→Prop,(σ.bad=true∨¬Fit t∨400≤σ.ls.length∨(r=1∧¬T t))↔(400≤σ.ls.length):=fun T=>
     ⟨fun h=>by
      rcases h with h|h|h|h
      ·rw [hb] at h;cases h
      ·exact absurd hf h
      ·exact h
      exact absurd h.1 hr,fun h=>.inr (.inr (.inl h))⟩
    unfold bR
    by_cases h4:400≤σ.ls.length
    ·rw [if_pos ((e _).2 h4),if_pos ((e _).2 h4)]
    rw [if_neg (fun h=>h4 ((e _).1 h)),if_neg (fun h=>h4 ((e _).1 h))]
   unfold bR;rw [if_pos (.inr (.inl hf)),if_pos (.inr (.inl hf))]
 refine ⟨hsame,?_⟩
 unfold bR
 split
 ·exact ⟨h.len,h.tok,h.ok⟩
 rename_i hn
 have hb:σ.bad=false:=by
  cases e:σ.bad with
  |false=>rfl
  |true=>exact absurd (.inl e) hn
 have hf:Fit t:=Classical.byContradiction fun e=>hn (.inr (.inl e))
 have hlen:σ.ls.length<400:=by
  have:¬400≤σ.ls.length:=fun e=>hn (.inr (.inr (.inl e)))
  omega
 have hT:r=1→af t:=fun e=>Classical.byContradiction fun e'=>hn (.inr (.inr (.inr ⟨e,e'⟩)))
 obtain ⟨hfr,hl,hc⟩:=ha hb hf
 refine ⟨by simp;omega,fun k hk=>?_,fun k hk=>?_⟩
 ·by_cases hkl:k<σ.ls.length
  ·rw [List.getElem_append_left hkl];exact h.tok k hkl
  ·rw [List.getElem_append_right (by omega)]
   simp only [List.length_append,List.length_cons,List.length_nil] at hk
   have:k - σ.ls.length=0:=by omega
   simp only [this,List.getElem_cons_zero];exact hfr.1
 simp only [List.map_append,List.map_cons,List.map_nil] at hk⊢
 simp only [List.length_append,List.length_map,List.length_cons,List.length_nil] at hk
 by_cases hkl:k<σ.ls.length
 ·rw [List.getElem_append_left (by simpa using hkl)]
  exact wU _ (by simp;omega) (h.ok k (by simpa using hkl))
 have hke:k=σ.ls.length:=by omega
 subst hke
 rw [List.getElem_append_right (by simp)]
 simp only [List.length_map,Nat.sub_self,List.getElem_cons_zero]
 have htop:bh (TL.v ⟨t,r,a,b,g⟩).f.f=t:=oX hfr.1 hf
 rw [mj]
 refine ⟨zb hfr hf,?_,?_,hl,?_⟩
 ·show 1≤r∧r≤12
  rcases hc with ⟨h1,_⟩|⟨h1,h2,_⟩|⟨h1,_⟩|⟨h1,_⟩<;>omega
 ·rw [qF (by show 1≤r;rcases hc with ⟨h1,_⟩|⟨h1,h2,_⟩|⟨h1,_⟩|⟨h1,_⟩<;>omega) (by show r≤12;rcases hc with ⟨h1,_⟩|⟨h1,h2,_⟩|⟨h1,_⟩|⟨h1,_⟩<;>omega)]
  unfold pJ pI
  simp only [TL.v]
  rcases hc with ⟨h1,h2,h3,h4,_⟩|⟨h1,h2,h3,h4,h5,_⟩|⟨h1,h2,A,hA,hB⟩|⟨h1,h2,h3,A,hA,_⟩
  ·subst h2 h3 h4 h1;omega
  ·subst h3 h4 h5;omega
  ·have:=(hA hb).1;have:=(hB hb).1;omega
  have:=(hA hb).1;omega
 refine Bz htop ?_
 rcases hc with ⟨h1,h2,h3,h4,h5⟩|⟨h1,h2,h3,h4,h5,h6⟩|⟨h1,h2,A,hA,hB⟩|⟨h1,h2,h3,A,hA,h4⟩
 ·refine .inr (.inr ⟨show r<10 by omega,?_⟩)
  show oI r t
  rw [h1];exact ⟨hT h1,h5⟩
 ·exact .inr (.inr ⟨h2,h6⟩)
 ·refine .inl ⟨h1,?_⟩
  show rS _ (b:Int)=aP (rS _ (a:Int)) t
  rw [uJ h (hA hb).1,uJ h (hB hb).1,(hA hb).2,(hB hb).2]
 refine .inr (.inl ⟨h1,?_⟩)
 show t=ar g (rS _ (a:Int))
 rw [uJ h (hA hb).1,(hA hb).2];exact h4
theorem vK {g:Tr} (hg:eV g):∀{ps:List (Nat×Tr)} {n:Nat} {σ:Sg},Good l σ→cn l 10=true→(∀p∈ps,dn σ p.1 p.2)→dn σ n (cy (ps.map (·.2)) g)→sG l (fun T=>lu T g ps n) σ
 |[],n,σ,h,_,_,_=>⟨rfl,h⟩
 |p::ps,n,σ,h,h10,hps,hn=>by
  have hadm:σ.bad=false→Fit (cy (ps.map (·.2)) g)→HN l σ (cy (ps.map (·.2)) g) 10 p.1 n 0:=fun hb _=>
   ⟨eV.ch (fun u hu=>by
    obtain ⟨q,hq,rfl⟩:=List.mem_map.1 hu
    exact (h.has hb (hps q (List.mem_cons_of_mem _ hq))).1) hg,h10,.inr (.inr (.inl ⟨rfl,rfl,p.2,hps p (List.mem_cons_self ..),hn⟩))⟩
  have h1:=gF h hadm
  have h2:=vK hg (ps:=ps) (n:=(bR af (cy (ps.map (·.2)) g) 10 p.1 n 0 σ).1) h1.dJ h10 (fun q hq=>(hps q (List.mem_cons_of_mem _ hq)).le df) bP
  refine ⟨?_,h2.dJ⟩
  show lu af g ps _ _=lu lK g ps _ _
  have e:=h1.same
  rw [←e]
  exact h2.same
theorem DW (l:Int) {r:Int} (h:r=1∨r=2∨r=7∨r=10∨r=11):cn l r=true:=by
 unfold cn;rw [if_neg (by omega),if_neg (by omega),if_neg (by omega),if_neg (by omega)]
theorem dZ {g:Tr} {from_:List Nat} (h:Good l σ) (hg:eV g) (hf:σ.bad=false→∀n∈from_,n<σ.ls.length) (ht:σ.bad=false→Fit g→∀v,(∀n∈from_,bZ v (fQ σ n)=true)→bZ v g=true):sG l (fun T=>aV T g from_) σ:=by
 cases hb:σ.bad with
 |true=>exact ⟨by rw [gA hb,gA hb],by rw [gA hb];exact h⟩
 |false=>
  have hhas:∀n∈from_,dn σ n (fQ σ n):=fun n hn=>fun _=>⟨hf hb n hn,rfl⟩
  have hfit:∀ts:List Tr,Fit (cy ts g)→Fit g:=fun ts=>by
   induction ts with
   |nil=>exact id
   |cons t ts ih=>exact fun h=>ih (Fit.r h)
  have hadm:σ.bad=false→Fit (cy (from_.map (fQ σ)) g)→HN l σ (cy (from_.map (fQ σ)) g) 1 0 0 0:=fun _ hft=>
   ⟨eV.ch (fun u hu=>by
    obtain ⟨q,hq,rfl⟩:=List.mem_map.1 hu
    exact (h.has hb (hhas q hq)).1) hg,DW l (.inl rfl),.inl ⟨rfl,rfl,rfl,rfl,fun v=>uX.2 fun hall=>ht hb (hfit _ hft) v (fun n hn=>hall _ (List.mem_map_of_mem hn))⟩⟩
  have h1:=gF h hadm
  have h2:=vK hg (ps:=from_.map (fun n=>(n,fQ σ n))) (n:=(bR af (cy (from_.map (fQ σ)) g) 1 0 0 0 σ).1) h1.dJ (DW l (by omega)) (fun q hq=>by
   obtain ⟨n,hn,rfl⟩:=List.mem_map.1 hq
   exact (hhas n hn).le df) (by rw [List.map_map];exact bP)
  have e:=h1.same
  have e2:=h2.same
  have g2:=h2.dJ
  constructor
  ·unfold aV
   rw [if_neg (by rw [hb];decide),if_neg (by rw [hb];decide),←e]
   exact e2
  unfold aV
  rw [if_neg (by rw [hb];decide)]
  exact g2
theorem Cp {i:Int} {p q:Tr} (hi:0≤i∧i<4) (h:Good l σ) (hp:eV p) (hq:eV q):sG l (fun T=>kW T i p q) σ:=
 gF h (fun _ _=>⟨(hp.im hq|>.kw hi).im ((hp.kw hi).im (hq.kw hi)),DW l (by omega),.inr (.inl ⟨by decide,by decide,rfl,rfl,rfl,⟨i,p,q,rfl⟩⟩)⟩)
theorem rM {i:Int} {v:Tr} (hi:0≤i∧i<4) (h:Good l σ) (hv:eV v):sG l (fun T=>dV T i v) σ:=
 gF h (fun _ _=>⟨(hv.po hi).if (hv.nt.kw hi).nt,DW l (by omega),.inr (.inl ⟨by decide,by decide,rfl,rfl,rfl,⟨i,v,rfl⟩⟩)⟩)
theorem vY {i:Int} {p q:Tr} {n:Nat} (hi:0≤i∧i<4) (h:Good l σ) (hp:eV p) (hq:eV q) (hn:dn σ n (aP p q)):sG l (fun T=>gI T i p q n) σ:=by
 have h1:sG l (fun T=>bR T (ar i (aP p q)) 11 n 0 i) σ:=gF h (fun _ _=>⟨(hp.im hq).kw hi,DW l (by omega),.inr (.inr (.inr ⟨rfl,rfl,hi,_,hn,rfl⟩))⟩)
 have h2:=Cp (i:=i) (p:=p) (q:=q) hi h1.dJ hp hq
 have a1:dn _ _ (ar i (aP p q)):=bP (T:=af) (σ:=σ) (t:=ar i (aP p q)) (r:=11) (a:=n) (b:=0) (gg:=i)
 have a2:dn _ _ (aP (ar i (aP p q)) (aP (ar i p) (ar i q))):=bP (T:=af) (σ:=(bR af (ar i (aP p q)) 11 n 0 i σ).2) (t:=aP (ar i (aP p q)) (aP (ar i p) (ar i q))) (r:=2) (a:=0) (b:=0) (gg:=0)
 have h3:=gF (t:=aP (ar i p) (ar i q)) (r:=10) (a:=(bR af (ar i (aP p q)) 11 n 0 i σ).1) (b:=(kW af i p q (bR af (ar i (aP p q)) 11 n 0 i σ).2).1) (g:=0) h2.dJ (fun _ _=>⟨(hp.kw hi).im (hq.kw hi),DW l (by omega),.inr (.inr (.inl ⟨rfl,rfl,_,a1.le tG,a2⟩))⟩)
 have e1:=h1.same;have e2:=h2.same;have e3:=h3.same
 constructor
 ·simp only [gI]
  rw [←e1,←e2];exact e3
 exact h3.dJ
end
end Go.Proofs.Wit
namespace Go.Proofs.Wit
open Go Go.RowKit
theorem o8 {t:Tr} (h:Fit (fg t)):Fit (aE t)∧fg t=(aN t).2:=by
 unfold fg at*
 split at h
 ·rename_i hf;rw [if_pos hf];exact ⟨hf,rfl⟩
 rename_i hf;exact absurd h hf
theorem uV {t c:Tr} (h:Fit (aE t)) (hc:c∈kids t):Fit (aE c):=by
 have h1:=js hc
 have h2:(bX (aE t)).length=(bX t).length+1:=sy
 have h3:(bX (aE c)).length=(bX c).length+1:=sy
 unfold Fit at*;omega
theorem pH {t:Tr} (h:Fit (aE t)):fg t=(aN t).2:=if_pos h
theorem sq {ei:Bool} {t:Tr} (h:Fit (lW ei t)):Fit (fg t):=by
 unfold lW at h
 split at h
 ·exact Fit.r h
 exact Fit.r (Fit.u h)
theorem oE {ei:Bool} {t:Tr} {v:Tr→Bool}:bZ v (lW ei t)=if ei=true then (bZ v t||bZ v (fg t)) else !(bZ v t && bZ v (fg t)):=by
 unfold lW
 split<;>rfl
theorem zx {ei:Bool} {t:Tr} {v:Tr→Bool} (h:bZ v (fg t)=!bZ v t):bZ v (lW ei t)=true:=by
 rw [oE,h];cases bZ v t<;>cases ei<;>rfl
theorem vZ {ei:Bool} {t:Tr} (h:ot t) (hok:t.ok):eV (lW ei t):=by
 unfold lW;split
 ·exact (h.fr hok).or (h.op hok)
 exact ((h.fr hok).ad (h.op hok)).nt
theorem yD {op i e g:Int} {v:Tr→Bool} (h:op≤3) (h1:1≤op):bZ v (aN (.leaf op i e g)).2=!bZ v (.leaf op i e g):=by
 rw [aN];dsimp only
 rcases (by omega:op=1∨op=2∨op=3) with rfl|rfl|rfl
 ·rw [if_pos rfl];rfl
 ·rw [if_neg (by decide),if_pos rfl];rfl
 rw [if_neg (by decide),if_neg (by decide)];rfl
section
variable {l:Int} {σ:Sg}
theorem Bd {ei:Bool} {op i e g:Int} {a:Tr} {x:Nat} (ho:op=9∨op=10) (ha:ot a) (hok:(Tr.un op i e g a).ok) (h:Good l σ) (hx:dn σ x (lW ei a)):sG l (fun T=>pP T ei op i a (.un op i e g a) x) σ:=by
 obtain ⟨hi,rfl,rfl⟩:=mV hok ho
 have hao:a.ok:=hok.2.2.2.2
 have fa:=ha.fr hao
 have fo:=ha.op hao
 have fu:eV (uT op a):=by unfold uT;split<;>assumption
 have fv:eV (vT op a):=by unfold vT;split<;>assumption
 have fp:eV (oM ei op a):=by
  unfold oM;split
  ·exact fv.nt
  exact fu
 have fq:eV (oL ei op a):=by
  unfold oL;split
  ·exact fu
  exact fv.nt
 have h1:sG l (fun T=>aV T (aP (oM ei op a) (oL ei op a)) [x]) σ:=dZ h (fp.im fq) (fun hb n hn=>by rw [List.mem_singleton.1 hn];exact (hx hb).1) (fun hb hf v hv=>by
  have h2:=hv x (List.mem_singleton.2 rfl)
  rw [(hx hb).2,oE] at h2
  rw [oP]
  unfold oM oL uT vT
  rcases ho with rfl|rfl
  ·simp only [if_true]
   cases ei
   ·simp only [Bool.false_eq_true,if_false,qI] at h2⊢
    cases e1:bZ v a<;>cases e2:bZ v (fg a)<;>simp_all
   simp only [if_true,qI] at h2⊢
   cases e1:bZ v a<;>cases e2:bZ v (fg a)<;>simp_all
  simp only [show ¬(10:Int)=9 from by decide,if_false]
  cases ei
  ·simp only [Bool.false_eq_true,if_false,qI] at h2⊢
   cases e1:bZ v a<;>cases e2:bZ v (fg a)<;>simp_all
  simp only [if_true,qI] at h2⊢
  cases e1:bZ v a<;>cases e2:bZ v (fg a)<;>simp_all)
 have h2:=vY (i:=i) (p:=oM ei op a) (q:=oL ei op a) (n:=(aV af (aP (oM ei op a) (oL ei op a)) [x] σ).1) hi h1.dJ fp fq eE
 have h3:=rM (i:=i) (v:=vT op a) hi h2.dJ fv
 have k1:dn _ _ (aP (ar i (oM ei op a)) (ar i (oL ei op a))):=lD (T:=af) (i:=i) (p:=oM ei op a) (q:=oL ei op a) (l:=(aV af (aP (oM ei op a) (oL ei op a)) [x] σ).1) (σ:=(aV af (aP (oM ei op a) (oL ei op a)) [x] σ).2)
 have k2:dn _ _ (nJ (gl i (vT op a)) (aE (ar i (aE (vT op a))))):=bP (T:=af) (t:=nJ (gl i (vT op a)) (aE (ar i (aE (vT op a))))) (r:=7) (a:=0) (b:=0) (gg:=0) (σ:=(gI af i (oM ei op a) (oL ei op a) (aV af (aP (oM ei op a) (oL ei op a)) [x] σ).1 (aV af (aP (oM ei op a) (oL ei op a)) [x] σ).2).2)
 have k1':=k1.le (jH (T:=af) (i:=i) (v:=vT op a))
 have hnf:ot (.un op i 0 0 a):=.inr ⟨ho,ha⟩
 have h4:=dZ (g:=lW ei (.un op i 0 0 a)) (from_:=[(gI af i (oM ei op a) (oL ei op a) (aV af (aP (oM ei op a) (oL ei op a)) [x] σ).1 (aV af (aP (oM ei op a) (oL ei op a)) [x] σ).2).1,(dV af i (vT op a) (gI af i (oM ei op a) (oL ei op a) (aV af (aP (oM ei op a) (oL ei op a)) [x] σ).1 (aV af (aP (oM ei op a) (oL ei op a)) [x] σ).2).2).1]) h3.dJ (vZ hnf hok) (fun hb n hn=>by
   simp only [List.mem_cons,List.not_mem_nil,or_false] at hn
   rcases hn with rfl|rfl
   ·exact (k1' hb).1
   exact (k2 hb).1) (fun hb hf v hv=>by
  have e1:=hv _ (List.mem_cons_self ..)
  have e2:=hv _ (List.mem_cons_of_mem _ (List.mem_cons_self ..))
  have g1:=(k1' hb).2
  have g2:=(k2 hb).2
  rw [g1] at e1
  have e2:bZ v (nJ (gl i (vT op a)) (aE (ar i (aE (vT op a)))))=true:=g2 ▸ e2
  obtain ⟨f1,f2⟩:=o8 (sq hf)
  have f3:fg a=(aN a).2:=pH (uV f1 (List.mem_cons_self ..))
  rw [oE,f2]
  rw [oP] at e1
  rw [BE,qI] at e2
  rcases ho with rfl|rfl
  ·have f4:(aN (.un 9 i 0 0 a)).2=gl i (fg a):=by rw [aN,if_neg (by decide),if_pos rfl,f3]
   rw [f4]
   have u1:uT 9 a=a:=if_pos rfl
   have u2:vT 9 a=fg a:=if_pos rfl
   unfold oM oL at e1
   rw [u2] at e2
   rw [u1,u2] at e1
   cases ei
   ·simp only [Bool.false_eq_true,if_false] at e1⊢
    cases x1:bZ v (.un 9 i 0 0 a)<;>cases x2:bZ v (gl i (fg a))<;>cases x3:bZ v (ar i (aE (fg a)))<;>simp_all
   simp only [if_true] at e1⊢
   cases x1:bZ v (.un 9 i 0 0 a)<;>cases x2:bZ v (gl i (fg a))<;>cases x3:bZ v (ar i (aE (fg a)))<;>simp_all
  have f4:(aN (.un 10 i 0 0 a)).2=ar i (fg a):=by rw [aN,if_neg (by decide),if_neg (by decide),if_pos rfl,f3]
  rw [f4]
  have u1:uT 10 a=fg a:=if_neg (by decide)
  have u2:vT 10 a=a:=if_neg (by decide)
  unfold oM oL at e1
  rw [u2] at e2
  rw [u1,u2] at e1
  cases ei
  ·simp only [Bool.false_eq_true,if_false] at e1⊢
   cases x1:bZ v (.un 10 i 0 0 a)<;>cases x2:bZ v (ar i (fg a))<;>cases x3:bZ v (ar i (aE a))<;>simp_all
  simp only [if_true] at e1⊢
  cases x1:bZ v (.un 10 i 0 0 a)<;>cases x2:bZ v (ar i (fg a))<;>cases x3:bZ v (ar i (aE a))<;>simp_all)
 have s1:=h1.same;have s2:=h2.same;have s3:=h3.same;have s4:=h4.same
 constructor
 ·simp only [pP]
  rw [←s1,←s2,←s3];exact s4
 exact h4.dJ
theorem lR {ei:Bool}:∀{t:Tr},ot t→t.ok→∀{σ:Sg},Good l σ→sG l (fun T=>aI T ei t) σ
 |.leaf op i e g,hn,hok,σ,h=>by
  have h1:sG l (fun T=>aV T (lW ei (.leaf op i e g)) []) σ:=dZ h (vZ hn hok) (fun _ n hn=>by cases hn) (fun _ hf v _=>zx (by
   rw [(o8 (sq hf)).2];exact yD hn hok.1.1))
  exact ⟨by simp only [aI];exact h1.same,by simp only [aI];exact h1.dJ⟩
 |.un op i e g a,hn,hok,σ,h=>by
  by_cases ho:op=9∨op=10
  ·have ha:ot a:=by
    rcases hn with ⟨h1,_⟩|⟨_,h1⟩
    ·omega
    exact h1
   have h1:=lR (ei:=ei) ha hok.2.2.2.2 h
   have h2:=Bd (ei:=ei) (i:=i) (e:=e) (g:=g) (x:=(aI af ei a σ).1) ho ha hok h1.dJ eB
   have s1:=h1.same;have s2:=h2.same
   constructor
   ·simp only [aI]
    rw [if_pos ho,if_pos ho,←s1];exact s2
   simp only [aI]
   rw [if_pos ho];exact h2.dJ
  have h1:sG l (fun T=>aV T (lW ei (.un op i e g a)) []) σ:=dZ h (vZ hn hok) (fun _ n hn=>by cases hn) (fun _ hf v _=>zx (by
   rw [(o8 (sq hf)).2]
   rcases hn with ⟨rfl,j,e',g',rfl⟩|⟨h1,_⟩
   ·rw [aN,if_pos rfl,aN]
    show _=!(!_)
    rw [Bool.not_not]
   exact absurd h1 ho))
  exact ⟨by simp only [aI];rw [if_neg ho,if_neg ho];exact h1.same,by simp only [aI];rw [if_neg ho];exact h1.dJ⟩
 |.bin op i e g a b,hn,hok,σ,h=>by
  have h1:=lR (ei:=ei) hn.2.1 hok.2.2.2.1 h
  have h2:=lR (ei:=ei) hn.2.2 hok.2.2.2.2 h1.dJ
  have k1:dn _ _ (lW ei a):=eB (T:=af) (ei:=ei) (t:=a) (σ:=σ)
  have k2:dn _ _ (lW ei b):=eB (T:=af) (ei:=ei) (t:=b) (σ:=(aI af ei a σ).2)
  have k1':=k1.le (ik (T:=af) (ei:=ei) (t:=b))
  have h3:=dZ (g:=lW ei (.bin op i e g a b)) (from_:=[(aI af ei a σ).1,(aI af ei b (aI af ei a σ).2).1]) h2.dJ (vZ hn hok) (fun hb n hn=>by
   simp only [List.mem_cons,List.not_mem_nil,or_false] at hn
   rcases hn with rfl|rfl
   ·exact (k1' hb).1
   exact (k2 hb).1) (fun hb hf v hv=>by
   have e1:=hv _ (List.mem_cons_self ..)
   have e2:=hv _ (List.mem_cons_of_mem _ (List.mem_cons_self ..))
   rw [(k1' hb).2,oE] at e1
   rw [(k2 hb).2,oE] at e2
   obtain ⟨f1,f2⟩:=o8 (sq hf)
   have fa:fg a=(aN a).2:=pH (uV f1 (List.mem_cons_self ..))
   have fb:fg b=(aN b).2:=pH (uV f1 (List.mem_cons_of_mem _ (List.mem_cons_self ..)))
   rw [oE,f2]
   rcases hn.1 with rfl|rfl
   ·have f4:(aN (.bin 5 i e g a b)).2=.bin 6 0 0 0 (fg a) (fg b):=by rw [aN,if_pos rfl,fa,fb]
    have f5:bZ v (.bin 5 i e g a b)=(bZ v a && bZ v b):=rfl
    rw [f4,FP,f5]
    cases ei<;>cases x1:bZ v a<;>cases x2:bZ v b<;>cases x3:bZ v (fg a)<;>cases x4:bZ v (fg b)<;>simp_all
   have f4:(aN (.bin 6 i e g a b)).2=jA (fg a) (fg b):=by rw [aN,if_neg (by decide),if_pos rfl,fa,fb]
   rw [f4,FP,G4]
   cases ei<;>cases x1:bZ v a<;>cases x2:bZ v b<;>cases x3:bZ v (fg a)<;>cases x4:bZ v (fg b)<;>simp_all)
  have s1:=h1.same;have s2:=h2.same;have s3:=h3.same
  constructor
  ·simp only [aI]
   rw [←s1,←s2];exact s3
  simp only [aI];exact h3.dJ
theorem BU {i:Int} {f z:Tr} (hi:0≤i∧i<4) (hz:eV z) (hf:(f=ar i z∧cn l 4=true)∨(f=gl i z∧cn l 5=true)) (h:Good l σ):sG l (fun T=>kV T i f) σ:=by
 rcases hf with ⟨rfl,h4⟩|⟨rfl,h5⟩
 ·exact gF h (fun _ _=>⟨(hz.kw hi).im ((hz.kw hi).kw hi),h4,.inr (.inl ⟨by decide,by decide,rfl,rfl,rfl,⟨i,z,rfl⟩⟩)⟩)
 have fnz:eV (aE (ar i (aE z))):=(hz.nt.kw hi).nt
 have h1:=rM (i:=i) (v:=z) hi h hz
 have k1:dn _ _ (nJ (gl i z) (aE (ar i (aE z)))):=bP (T:=af) (t:=nJ (gl i z) (aE (ar i (aE z)))) (r:=7) (a:=0) (b:=0) (gg:=0) (σ:=σ)
 have h2:=gF (t:=aP (aE (ar i (aE z))) (ar i (aE (ar i (aE z))))) (r:=5) (a:=0) (b:=0) (g:=0) h1.dJ (fun _ _=>⟨fnz.im (fnz.kw hi),h5,.inr (.inl ⟨by decide,by decide,rfl,rfl,rfl,⟨i,aE z,rfl⟩⟩)⟩)
 have k2:=bP (T:=af) (t:=aP (aE (ar i (aE z))) (ar i (aE (ar i (aE z))))) (r:=5) (a:=0) (b:=0) (gg:=0) (σ:=(dV af i z σ).2)
 obtain ⟨σ1,e1⟩:∃s,s=dV af i z σ:=⟨_,rfl⟩
 obtain ⟨σ2,e2⟩:∃s,s=bR af (aP (aE (ar i (aE z))) (ar i (aE (ar i (aE z))))) 5 0 0 0 σ1.2:=⟨_,rfl⟩
 have k1a:dn σ1.2 σ1.1 (nJ (gl i z) (aE (ar i (aE z)))):=by rw [e1];exact k1
 have g1:Good l σ1.2:=by rw [e1];exact h1.dJ
 have le2:σ1.2.Le σ2.2:=by rw [e2];exact df
 have k2a:dn σ2.2 σ2.1 (aP (aE (ar i (aE z))) (ar i (aE (ar i (aE z))))):=by rw [e2,e1];exact k2
 have g2:Good l σ2.2:=by rw [e2,e1];exact h2.dJ
 have h3:=dZ (g:=aP (aE (ar i (aE z))) (gl i z)) (from_:=[σ1.1]) g2 (fnz.im (hz.po hi)) (fun hb n hn=>by rw [List.mem_singleton.1 hn];exact ((k1a.le le2) hb).1) (fun hb _ v hv=>by
  have q:=hv _ (List.mem_singleton.2 rfl)
  rw [((k1a.le le2) hb).2,BE] at q
  rw [oP]
  cases x1:bZ v (gl i z)<;>cases x2:bZ v (aE (ar i (aE z)))<;>simp_all)
 obtain ⟨σ3,e3⟩:∃s,s=aV af (aP (aE (ar i (aE z))) (gl i z)) [σ1.1] σ2.2:=⟨_,rfl⟩
 have le3:σ2.2.Le σ3.2:=by rw [e3];exact dc
 have g3:Good l σ3.2:=by rw [e3];exact h3.dJ
 have k3:dn σ3.2 σ3.1 (aP (aE (ar i (aE z))) (gl i z)):=by rw [e3];exact eE
 have h4:=vY (i:=i) (p:=aE (ar i (aE z))) (q:=gl i z) (n:=σ3.1) hi g3 fnz (hz.po hi) k3
 obtain ⟨σ4,e4⟩:∃s,s=gI af i (aE (ar i (aE z))) (gl i z) σ3.1 σ3.2:=⟨_,rfl⟩
 have le4:σ3.2.Le σ4.2:=by rw [e4];exact nj
 have g4:Good l σ4.2:=by rw [e4];exact h4.dJ
 have k4:dn σ4.2 σ4.1 (aP (ar i (aE (ar i (aE z)))) (ar i (gl i z))):=by rw [e4];exact lD
 have k1b:=k1a.le (le2.trans (le3.trans le4))
 have k2b:=k2a.le (le3.trans le4)
 have h5':=dZ (g:=aP (gl i z) (ar i (gl i z))) (from_:=[σ1.1,σ2.1,σ4.1]) g4 ((hz.po hi).im ((hz.po hi).kw hi)) (fun hb n hn=>by
  simp only [List.mem_cons,List.not_mem_nil,or_false] at hn
  rcases hn with rfl|rfl|rfl
  ·exact (k1b hb).1
  ·exact (k2b hb).1
  exact (k4 hb).1) (fun hb _ v hv=>by
  have q1:=hv _ (List.mem_cons_self ..)
  have q2:=hv _ (List.mem_cons_of_mem _ (List.mem_cons_self ..))
  have q3:=hv _ (List.mem_cons_of_mem _ (List.mem_cons_of_mem _ (List.mem_cons_self ..)))
  rw [(k1b hb).2,BE] at q1
  rw [(k2b hb).2,oP] at q2
  rw [(k4 hb).2,oP] at q3
  rw [oP]
  cases x1:bZ v (gl i z)<;>cases x2:bZ v (aE (ar i (aE z)))<;>cases x3:bZ v (ar i (aE (ar i (aE z))))<;>cases x4:bZ v (ar i (gl i z))<;>simp_all)
 have s1:=h1.same;have s2:=h2.same;have s3:=h3.same;have s4:=h4.same;have s5:=h5'.same
 rw [←e1] at s1 s2
 rw [←e2] at s2
 rw [←e3] at s3
 rw [←e4] at s4
 constructor
 ·simp only [kV]
  rw [←s1,←e1,←s2,←e2,←s3,←e3,←s4,←e4];exact s5
 simp only [kV]
 rw [←e1,←e2,←e3,←e4];exact h5'.dJ
end
end Go.Proofs.Wit
namespace Go.Proofs.Wit
open Go Go.RowKit
structure SD where
  set:aB
  av:Int
  on:Int
  e:Int
  fr:List Int
structure SV where
  d:SD
  fa:Option Addr
  fc:Nat
def nd (b:List NV) (i:Int):NV:=b.getD i.toNat ⟨0,0,0,0,0,0⟩
def tA (b:List NV) (i:Int):Tr:=aa b i.toNat
def eT (s:aB) (i:Int):Bool:=decide (0≤i∧i<64) && s.getLsbD i.toNat
def bW (i:Int):aB:=1#64<<<i.toNat
theorem lB {s:aB} {i:Nat}:eT s i=true↔s.getLsbD i=true:=by
 unfold eT
 simp only [Bool.and_eq_true,decide_eq_true_eq,Int.toNat_natCast]
 exact ⟨fun h=>h.2,fun h=>⟨⟨by omega,by have:=BitVec.lt_of_getLsbD h;omega⟩,h⟩⟩
theorem fU {s:aB} {i:Int}:eT s i=true↔∃k:Nat,i=k∧k<64∧s.getLsbD k=true:=by
 unfold eT
 simp only [Bool.and_eq_true,decide_eq_true_eq]
 exact ⟨fun h=>⟨i.toNat,by omega,by omega,h.2⟩,fun ⟨k,h1,h2,h3⟩=>⟨by omega,by subst h1;exact h3⟩⟩
theorem oi {i:Int} {k:Nat} (h:0≤i∧i<64):(bW i).getLsbD k=true↔(k:Int)=i:=by
 unfold bW
 rw [vC (by omega)];omega
noncomputable def jC (b:List NV) (i:Int):Int:=match (List.range b.length).find? (fun j=>decide (aa b j=fg (tA b i))) with
 |some j=>(j:Int)
 |none=>-1
theorem qY {b:List NV} {i:Int} {j:Nat} (hj:j<b.length) (h:aa b j=fg (tA b i)) (hf:∀k,k<j→aa b k≠fg (tA b i)):jC b i=j:=by
 have:(List.range b.length).find? (fun j=>decide (aa b j=fg (tA b i)))=some j:=by
  rw [List.find?_range_eq_some]
  exact ⟨by simpa using h,by simpa using hj,fun k hk=>by simpa using hf k hk⟩
 unfold jC;rw [this]
theorem wP {b:List NV} {i:Int} (hf:∀k,k<b.length→aa b k≠fg (tA b i)):jC b i=-1:=by
 have:(List.range b.length).find? (fun j=>decide (aa b j=fg (tA b i)))=none:=by
  rw [List.find?_eq_none]
  intro k hk
  simpa using hf k (List.mem_range.1 hk)
 unfold jC;rw [this]
theorem vJ {b:List NV} {i:Int} (h:0≤jC b i):∃j:Nat,jC b i=j∧j<b.length∧aa b j=fg (tA b i):=by
 cases e:(List.range b.length).find? (fun j=>decide (aa b j=fg (tA b i))) with
 |none=>unfold jC at h;rw [e] at h;exact absurd h (by decide)
 |some j=>
  have h1:=List.mem_of_find?_eq_some e
  have h2:=List.find?_some e
  exact ⟨j,by unfold jC;rw [e],List.mem_range.1 h1,by simpa using h2⟩
def tE (l:Int):Prop:=l=3∨l=4∨l=5∨l=6
def uY (l:Int):Prop:=l=5∨l=6
instance {l:Int}:Decidable (tE l):=by unfold tE;infer_instance
instance {l:Int}:Decidable (uY l):=by unfold uY;infer_instance
def xi (l:Int) (b:List NV) (i:Int):aB:=(if (nd b i).op=9 then bW (nd b i).x else 0#64)|||(if ((nd b i).op=9∧tE l)∨((nd b i).op=10∧uY l) then bW i else 0#64)
def lF (l:Int) (b:List NV) (s:aB) (ag:Int):Nat→aB
 |0=>0#64
 |k+1=>if eT s k=true∧(nd b k).i=ag then lF l b s ag k|||xi l b k else lF l b s ag k
def lG (l:Int) (b:List NV) (s:aB) (ag:Int):aB:=lF l b s ag b.length
def iM (b:List NV) (s:aB):Prop:=∀k,s.getLsbD k=true→k<b.length
def cu (ss:List SD) (k:Int):aB:=(ss.map SD.set).getD k.toNat 0#64
def eH (ss:List SD) (k:Nat):List Int→List aB→Prop
 |[],[]=>True
 |f::fs,s::us=>((0≤f∧f<k)∧cu ss f &&& ~~~ s=0#64)∧eH ss k fs us
 |_,_=>False
def Af (b:List NV) (x:SD) (op:Int):Prop:=x.on<b.length∧eT x.set x.on=true∧(nd b x.on).op=op
def ey (l:Int) (b:List NV) (ss:List SD) (k:Nat) (x:SD):Prop:=
 iM b x.set∧(
 (x.av=1∧x.fr=[]∧((Af b x 2∧x.e=0)∨(eT x.set x.on=true∧x.on<b.length∧eT x.set x.e=true∧jC b x.on=x.e)))∨
 (x.av=2∧x.e=0∧Af b x 5∧eH ss k x.fr [x.set|||bW (nd b x.on).x|||bW (nd b x.on).y])∨
 (x.av=3∧x.e=0∧Af b x 6∧eH ss k x.fr [x.set|||bW (nd b x.on).x,x.set|||bW (nd b x.on).y])∨
 (x.av=4∧(0≤x.on∧x.on<b.length)∧0≤x.e∧jC b x.on=x.e∧eH ss k x.fr [x.set|||bW x.on,x.set|||bW x.e])∨
 (x.av=5∧x.e=0∧(l=2∨l=4∨l=6)∧Af b x 9∧eH ss k x.fr [x.set|||bW (nd b x.on).x])∨
 (x.av=6∧x.e=0∧Af b x 10∧eH ss k x.fr [bW (nd b x.on).x|||lG l b x.set (nd b x.on).i])∨
 (x.av=7∧x.e=0∧(l=1∨l=5)∧(0≤x.on∧x.on<4)∧eH ss k x.fr [lG l b x.set x.on]))
def eG (b:List NV) (n:NV):Prop:=(n.op=1∨n.op=2∨n.op=3∨n.op=5∨n.op=6∨n.op=9∨n.op=10)∨(n.op=4∧(nd b n.x).op=3)
open Classical in
noncomputable def ko (b:List NV):Int:=if aW b≠0 then aW b else if 64<b.length then 8 else if ∀n∈b,eG b n then 0 else 10
noncomputable def eJ (l:Int) (b:List NV) (m:Nat):Int:=if ¬(0≤l∧l≤6) then 2 else if ko b≠0 then ko b else if m=0∨4096<m then 3 else 0
open Classical in
noncomputable def nH (l:Int) (b:List NV) (ss:List SD):Int:=if eJ l b ss.length≠0 then eJ l b ss.length else if ∀(k:Nat) (hk:k<ss.length),ey l b ss k ss[k] then 0 else 13
theorem mw {b:List NV}:ko b=0↔aW b=0∧b.length≤64∧∀n∈b,eG b n:=by
 unfold ko
 by_cases h2:aW b=0
 ·rw [if_neg (by simp [h2])]
  by_cases h3:64<b.length
  ·rw [if_pos h3];exact ⟨fun h=>absurd h (by decide),fun h=>by omega⟩
  rw [if_neg h3]
  by_cases h4:∀n∈b,eG b n
  ·rw [if_pos h4];exact ⟨fun _=>⟨h2,by omega,h4⟩,fun _=>rfl⟩
  rw [if_neg h4];exact ⟨fun h=>absurd h (by decide),fun h=>absurd h.2.2 h4⟩
 rw [if_pos h2];exact ⟨fun h=>absurd h h2,fun h=>absurd h.1 h2⟩
theorem mn {l:Int} {b:List NV} {m:Nat}:eJ l b m=0↔(0≤l∧l≤6)∧ko b=0∧0<m∧m≤4096:=by
 unfold eJ
 by_cases h1:0≤l∧l≤6
 ·rw [if_neg (by simp [h1])]
  by_cases h2:ko b=0
  ·rw [if_neg (by simp [h2])]
   by_cases h3:m=0∨4096<m
   ·rw [if_pos h3];exact ⟨fun h=>absurd h (by decide),fun h=>by omega⟩
   rw [if_neg h3];exact ⟨fun _=>⟨h1,h2,by omega⟩,fun _=>rfl⟩
  rw [if_pos h2];exact ⟨fun h=>absurd h h2,fun h=>absurd h.2.1 h2⟩
 rw [if_pos h1];exact ⟨fun h=>absurd h (by decide),fun h=>absurd h.1 h1⟩
theorem ye {l:Int} {b:List NV} {ss:List SD}:nH l b ss=0↔(0≤l∧l≤6)∧(aW b=0∧b.length≤64∧∀n∈b,eG b n)∧(0<ss.length∧ss.length≤4096)∧∀(k:Nat) (hk:k<ss.length),ey l b ss k ss[k]:=by
 unfold nH
 by_cases h1:eJ l b ss.length=0
 ·rw [if_neg (by simp [h1])]
  have h2:=mn.1 h1
  have h3:=mw.1 h2.2.1
  by_cases h6:∀(k:Nat) (hk:k<ss.length),ey l b ss k ss[k]
  ·rw [if_pos h6];exact ⟨fun _=>⟨h2.1,h3,h2.2.2,h6⟩,fun _=>rfl⟩
  rw [if_neg h6];exact ⟨fun h=>absurd h (by decide),fun h=>absurd h.2.2.2 h6⟩
 rw [if_pos h1]
 exact ⟨fun h=>absurd h h1,fun ⟨a,c,d,_⟩=>absurd (mn.2 ⟨a,mw.2 c,d⟩) h1⟩
def fB (b:List NV) (s:aB) (ag:Int) (n:Nat):Nat:=((List.range b.length).find? (fun i=>s.getLsbD i && ((nd b i).op==9 && ((nd b i).i==ag && (nd b i).x==(n:Int))))).getD n
def xT (b:List NV) (s:aB) (ag:Int) (p:aB):aB:=(dG p).foldl (fun o n=>o|||1#64<<<fB b s ag n) 0#64
def jR (b:List NV) (x:SD) (bf:List aB):aB:=
 let p:=bf.getD (x.fr.getD 0 0).toNat 0#64
 let q:=bf.getD (x.fr.getD 1 0).toNat 0#64
 let n:=nd b x.on
 if x.av=1 then (if n.op=2 then bW x.on else bW x.on|||bW x.e)
 else if x.av=4 then p &&& ~~~ bW x.on|||q &&& ~~~ bW x.e
 else if x.av=7 then xT b x.set x.on p
 else if x.av=2 then p &&& ~~~ (bW n.x|||bW n.y)|||bW x.on
 else if x.av=3 then p &&& ~~~ bW n.x|||q &&& ~~~ bW n.y|||bW x.on
 else if x.av=5 then p &&& ~~~ bW n.x|||bW x.on
 else xT b x.set n.i (p &&& ~~~ bW n.x)|||bW x.on
def eQ (b:List NV) (ss:List SD):Nat→List aB
 |0=>[]
 |k+1=>match ss[k]? with
  |some x=>eQ b ss k++[jR b x (eQ b ss k)]
  |none=>eQ b ss k
theorem lL {b:List NV} {ss:List SD} {k:Nat} (hk:k<ss.length):eQ b ss (k+1)=eQ b ss k++[jR b ss[k] (eQ b ss k)]:=by
 rw [eQ,List.getElem?_eq_getElem hk]
theorem lg {b:List NV} {ss:List SD}:∀{k:Nat},k≤ss.length→(eQ b ss k).length=k
 |0,_=>rfl
 |k+1,h=>by rw [lL (by omega),List.length_append,lg (by omega)];rfl
theorem sO {b:List NV} {ss:List SD} {j:Nat}:∀{k:Nat},j≤k→k≤ss.length→eQ b ss j<+:eQ b ss k
 |0,h,_=>by rw [show j=0 by omega];exact List.prefix_refl _
 |k+1,h,h2=>by
  by_cases e:j=k+1
  ·rw [e];exact List.prefix_refl _
  rw [lL (by omega)]
  exact (sO (by omega) (by omega)).trans (List.prefix_append _ _)
def oV (b:List NV) (ss:List SD) (k:Nat):aB:=(eQ b ss ss.length).getD k 0#64
theorem mE {b:List NV} {ss:List SD} {j k:Nat} (hj:j<k) (hk:k≤ss.length):(eQ b ss k).getD j 0#64=oV b ss j:=by
 obtain ⟨u,hu⟩:=sO (b:=b) (ss:=ss) hk (Nat.le_refl _)
 unfold oV
 rw [←hu,List.getD_eq_getElem?_getD,List.getD_eq_getElem?_getD,List.getElem?_append_left (by rw [lg hk];exact hj)]
theorem CQ {b:List NV} {ss:List SD} {k:Nat} (hk:k<ss.length):oV b ss k=jR b ss[k] (eQ b ss k):=by
 rw [←mE (Nat.lt_succ_self k) (by omega),lL hk,List.getD_eq_getElem?_getD,List.getElem?_append_right (by rw [lg (by omega)];exact Nat.le_refl _)]
 simp [lg (Nat.le_of_lt hk)]
inductive Ah (ss:List SD):Nat→Prop
  |last {k:Nat}:k+1=ss.length→Ah ss k
  |fr {k j:Nat} (hk:k<ss.length):Ah ss k→(j:Int)∈ss[k].fr→Ah ss j
open Classical in
noncomputable def dR (ss:List SD) (k:Nat):Bool:=decide (Ah ss k)
theorem ig {ss:List SD} {k:Nat}:dR ss k=true↔Ah ss k:=by unfold dR;exact @decide_eq_true_iff _ (Classical.propDecidable _)
noncomputable def gG (b:List NV) (ss:List SD) (k:Nat) (x:SD):SD:=
 ⟨oV b ss k,x.av,x.on,if x.av=1∧(nd b x.on).op=2 then 0 else x.e,x.fr.map (fun j=>((bJ (dR ss) j.toNat:Nat):Int))⟩
noncomputable def mG (b:List NV) (ss:List SD):Nat→List SD
 |0=>[]
 |k+1=>match ss[k]? with
  |some x=>if dR ss k=true then mG b ss k++[gG b ss k x] else mG b ss k
  |none=>mG b ss k
noncomputable def dB (b:List NV) (ss:List SD):List SD:=mG b ss ss.length
theorem j7 {b:List NV} {ss:List SD} {k:Nat} (hk:k<ss.length):mG b ss (k+1)=if dR ss k=true then mG b ss k++[gG b ss k ss[k]] else mG b ss k:=by
 rw [mG,List.getElem?_eq_getElem hk]
theorem lk {b:List NV} {ss:List SD}:∀{k:Nat},k≤ss.length→(mG b ss k).length=bJ (dR ss) k
 |0,_=>by simp [mG,bJ]
 |k+1,h=>by
  have h1:=lk (b:=b) (ss:=ss) (k:=k) (by omega)
  rw [j7 (by omega),gY]
  split<;>simp [h1]
theorem vn {b:List NV} {ss:List SD} {j:Nat} (hn:dR ss j=true):∀{k:Nat},k≤ss.length→j<k→∀hj:j<ss.length,(mG b ss k)[bJ (dR ss) j]?=some (gG b ss j ss[j])
 |0,_,h,_=>by omega
 |k+1,h,h2,hj=>by
  rw [j7 (by omega)]
  by_cases e:j=k
  ·subst e
   rw [if_pos hn,List.getElem?_append_right (by rw [lk (by omega)];exact Nat.le_refl _),lk (by omega)]
   simp
  have h3:=vn (b:=b) hn (k:=k) (by omega) (by omega) hj
  split
  ·rw [List.getElem?_append_left (List.getElem?_eq_some_iff.1 h3).1];exact h3
  exact h3
end Go.Proofs.Wit
namespace Go.Proofs.Wit
open Go Go.RowKit
theorem mH {s t:aB}:s &&& ~~~ t=0#64↔∀k,s.getLsbD k=true→t.getLsbD k=true:=by
 constructor
 ·intro h k hk
  have:=congrArg (fun x=>x.getLsbD k) h
  simp only [BitVec.getLsbD_and,BitVec.getLsbD_not,hk,BitVec.getLsbD_zero,Bool.true_and] at this
  have h64:=BitVec.lt_of_getLsbD hk
  simpa [h64] using this
 intro h
 apply BitVec.eq_of_getLsbD_eq
 intro i hi
 simp only [BitVec.getLsbD_and,BitVec.getLsbD_not,BitVec.getLsbD_zero]
 cases hs:s.getLsbD i with
 |false=>rfl
 |true=>simp [h i hs]
theorem cX {s t:aB} {k:Nat}:(s|||t).getLsbD k=true↔s.getLsbD k=true∨t.getLsbD k=true:=by simp
theorem gx {s t:aB} {k:Nat}:(s &&& ~~~ t).getLsbD k=true↔s.getLsbD k=true∧¬t.getLsbD k=true:=by
 simp only [BitVec.getLsbD_and,BitVec.getLsbD_not,Bool.and_eq_true,decide_eq_true_eq,Bool.not_eq_true',Bool.not_eq_true]
 exact ⟨fun h=>⟨h.1,h.2.2⟩,fun h=>⟨h.1,BitVec.lt_of_getLsbD h.1,h.2⟩⟩
structure aX (b:List NV):Prop where
  jD:aW b=0
  len:b.length≤64
  Cl:∀n∈b,eG b n
section
variable {l:Int} {b:List NV} {ss:List SD}
theorem dH {i:Nat} (hi:i<b.length):nd b i=b[i]:=by simp [nd,List.getD_eq_getElem?_getD,hi]
theorem aX.x (h:aX b) {i:Nat} (hi:i<b.length) (hX:4≤(nd b i).op):0≤(nd b i).x∧(nd b i).x<i:=by
 rw [dH hi] at*
 have ho:=(aA.1 h.jD).nodes i hi
 have h1:=h.Cl _ (List.getElem_mem hi)
 have hu:cG b[i].op=true:=by unfold cG;unfold eG at h1;simp;omega
 have:=ho.x hu;omega
theorem aX.y (h:aX b) {i:Nat} (hi:i<b.length) (hX:(nd b i).op=5∨(nd b i).op=6):0≤(nd b i).y∧(nd b i).y<i:=by
 rw [dH hi] at*
 have ho:=(aA.1 h.jD).nodes i hi
 have hu:ct b[i].op=true:=by unfold ct;rcases hX with e|e<;>rw [e]<;>rfl
 have:=ho.y hu;omega
theorem fA {s:aB} {ag:Int} {n:Nat}:(∃i,fB b s ag n=i∧i<b.length∧s.getLsbD i=true∧(nd b i).op=9∧(nd b i).i=ag∧(nd b i).x=n∧∀j,j<i→s.getLsbD j=true→(nd b j).op=9→(nd b j).i=ag→(nd b j).x≠n)∨(fB b s ag n=n∧∀j,j<b.length→s.getLsbD j=true→(nd b j).op=9→(nd b j).i=ag→(nd b j).x≠n):=by
 cases e:(List.range b.length).find? (fun i=>s.getLsbD i && ((nd b i).op==9 && ((nd b i).i==ag && (nd b i).x==(n:Int)))) with
 |none=>
  refine .inr ⟨by unfold fB;rw [e];rfl,fun j hj h1 h2 h3 h4=>?_⟩
  rw [List.find?_eq_none] at e
  exact e j (List.mem_range.2 hj) (by simp [h1,h2,h3,h4])
 |some i=>
  rw [List.find?_range_eq_some] at e
  obtain ⟨e1,e2,e3⟩:=e
  simp only [Bool.and_eq_true,beq_iff_eq] at e1
  refine .inl ⟨i,?_,List.mem_range.1 e2,e1.1,e1.2.1,e1.2.2.1,e1.2.2.2,fun j hj h1 h2 h3 h4=>?_⟩
  ·have:(List.range b.length).find? (fun i=>s.getLsbD i && ((nd b i).op==9 && ((nd b i).i==ag && (nd b i).x==(n:Int))))=some i:=by
    rw [List.find?_range_eq_some]
    exact ⟨by simp [e1],e2,e3⟩
   unfold fB;rw [this];rfl
  have:=e3 j hj
  simp [h1,h2,h3,h4] at this
theorem AJ (hl:b.length≤64) {s:aB} {ag:Int} {n:Nat} (hn:n<64):fB b s ag n<64:=by
 rcases fA (b:=b) (s:=s) (ag:=ag) (n:=n) with ⟨i,h1,h2,_⟩|⟨h1,_⟩
 ·omega
 omega
theorem vA {f:Nat→Nat}:∀{ns:List Nat} {o:aB} {k:Nat},(∀n∈ns,f n<64)→((ns.foldl (fun o n=>o|||1#64<<<f n) o).getLsbD k=true↔o.getLsbD k=true∨∃n∈ns,f n=k)
 |[],o,k,_=>by simp
 |n::ns,o,k,h=>by
  rw [List.foldl_cons,vA (fun m hm=>h m (List.mem_cons_of_mem _ hm)),cX,vC (h n (List.mem_cons_self ..))]
  simp only [List.mem_cons,exists_eq_or_imp]
  constructor
  ·rintro ((h1|h1)|h1)
   ·exact .inl h1
   ·exact .inr (.inl h1.symm)
   ·exact .inr (.inr h1)
  rintro (h1|h1|h1)
  ·exact .inl (.inl h1)
  ·exact .inl (.inr h1.symm)
  exact .inr h1
theorem cH {s:aB} {k:Nat}:k∈dG s↔s.getLsbD k=true:=by
 unfold dG
 rw [List.mem_filter,List.mem_range]
 exact ⟨fun h=>h.2,fun h=>⟨BitVec.lt_of_getLsbD h,h⟩⟩
theorem sS (hl:b.length≤64) {s p:aB} {ag:Int} {k:Nat}:(xT b s ag p).getLsbD k=true↔∃n,p.getLsbD n=true∧fB b s ag n=k:=by
 unfold xT
 rw [vA (fun n hn=>AJ hl (BitVec.lt_of_getLsbD (cH.1 hn)))]
 simp only [BitVec.getLsbD_zero,Bool.false_eq_true,false_or,cH]
theorem oe (h:aX b) {s:aB} {ag:Int} {k:Nat}:∀{m:Nat},m≤b.length→((lF l b s ag m).getLsbD k=true↔∃i:Nat,i<m∧s.getLsbD i=true∧(nd b i).i=ag∧(((nd b i).op=9∧(nd b i).x=k)∨(k=i∧(((nd b i).op=9∧tE l)∨((nd b i).op=10∧uY l)))))
 |0,_=>by simp [lF]
 |m+1,hm=>by
  have hcn:(xi l b m).getLsbD k=true↔(((nd b m).op=9∧(nd b m).x=k)∨(k=m∧(((nd b m).op=9∧tE l)∨((nd b m).op=10∧uY l)))):=by
   unfold xi
   rw [cX]
   apply or_congr
   ·by_cases h9:(nd b m).op=9
    ·have:=h.x (i:=m) (by omega) (by omega)
     have:=h.len
     rw [if_pos h9,oi (by omega)]
     exact ⟨fun e=>⟨h9,e.symm⟩,fun e=>e.2.symm⟩
    ·rw [if_neg h9];simp [h9]
   by_cases h9:((nd b m).op=9∧tE l)∨((nd b m).op=10∧uY l)
   ·have:=h.len
    rw [if_pos h9,oi (by omega)]
    exact ⟨fun e=>⟨by omega,h9⟩,fun e=>by omega⟩
   rw [if_neg h9];simp [h9]
  rw [lF]
  by_cases h1:eT s m=true∧(nd b m).i=ag
  ·rw [if_pos h1,cX,oe h (by omega),hcn]
   constructor
   ·rintro (⟨i,h2,h3⟩|h2)
    ·exact ⟨i,by omega,h3⟩
    ·exact ⟨m,by omega,lB.1 h1.1,h1.2,h2⟩
   rintro ⟨i,h2,h3,h4,h5⟩
   by_cases e:i=m
   ·subst e;exact .inr h5
   exact .inl ⟨i,by omega,h3,h4,h5⟩
  rw [if_neg h1,oe h (by omega)]
  constructor
  ·rintro ⟨i,h2,h3⟩
   exact ⟨i,by omega,h3⟩
  rintro ⟨i,h2,h3,h4,h5⟩
  by_cases e:i=m
  ·subst e;exact absurd ⟨lB.2 h3,h4⟩ h1
  exact ⟨i,by omega,h3,h4,h5⟩
theorem kl (h:aX b) {s:aB} {ag:Int} {k:Nat}:(lG l b s ag).getLsbD k=true↔∃i:Nat,i<b.length∧s.getLsbD i=true∧(nd b i).i=ag∧(((nd b i).op=9∧(nd b i).x=k)∨(k=i∧(((nd b i).op=9∧tE l)∨((nd b i).op=10∧uY l)))):=oe h (Nat.le_refl _)
theorem eH.one {k:Nat} {fs:List Int} {s:aB} (h:eH ss k fs [s]):∃j:Nat,fs=[(j:Int)]∧j<k∧∀n,(cu ss j).getLsbD n=true→s.getLsbD n=true:=by
 cases fs with
 |nil=>exact h.elim
 |cons f fs=>
  cases fs with
  |cons _ _=>exact h.2.elim
  |nil=>
   obtain ⟨⟨h1,h2⟩,_⟩:=h
   refine ⟨f.toNat,by rw [show ((f.toNat:Nat):Int)=f by omega],by omega,?_⟩
   rw [show ((f.toNat:Nat):Int)=f by omega];exact mH.1 h2
theorem eH.two {k:Nat} {fs:List Int} {s u:aB} (h:eH ss k fs [s,u]):∃j i:Nat,fs=[(j:Int),(i:Int)]∧j<k∧i<k∧(∀n,(cu ss j).getLsbD n=true→s.getLsbD n=true)∧∀n,(cu ss i).getLsbD n=true→u.getLsbD n=true:=by
 cases fs with
 |nil=>exact h.elim
 |cons f fs=>
  obtain ⟨⟨h1,h2⟩,h3⟩:=h
  obtain ⟨i,rfl,hi,hu⟩:=eH.one h3
  refine ⟨f.toNat,i,by rw [show ((f.toNat:Nat):Int)=f by omega],by omega,hi,?_,hu⟩
  rw [show ((f.toNat:Nat):Int)=f by omega];exact mH.1 h2
theorem eH.Fv {k j:Nat} {s:aB} (hj:j<k) (h:∀n,(cu ss j).getLsbD n=true→s.getLsbD n=true):eH ss k [(j:Int)] [s]:=⟨⟨by omega,mH.2 h⟩,trivial⟩
theorem eH.HV {k j i:Nat} {s u:aB} (hj:j<k) (hi:i<k) (h:∀n,(cu ss j).getLsbD n=true→s.getLsbD n=true) (h2:∀n,(cu ss i).getLsbD n=true→u.getLsbD n=true):eH ss k [(j:Int),(i:Int)] [s,u]:=⟨⟨by omega,mH.2 h⟩,eH.Fv hi h2⟩
theorem ey.m8 {k:Nat} {x:SD} (h:ey l b ss k x) {f:Int} (hf:f∈x.fr):0≤f∧f<k:=by
 have one:∀{s:aB},eH ss k x.fr [s]→0≤f∧f<k:=fun h=>by
  obtain ⟨j,e,hj,_⟩:=h.one
  rw [e,List.mem_singleton] at hf;omega
 have two:∀{s u:aB},eH ss k x.fr [s,u]→0≤f∧f<k:=fun h=>by
  obtain ⟨j,i,e,hj,hi,_⟩:=h.two
  rw [e] at hf
  simp only [List.mem_cons,List.not_mem_nil,or_false] at hf
  omega
 rcases h.2 with ⟨_,h,_⟩|⟨_,_,_,h⟩|⟨_,_,_,h⟩|⟨_,_,_,_,h⟩|⟨_,_,_,_,h⟩|⟨_,_,_,h⟩|⟨_,_,_,_,h⟩
 ·rw [h] at hf;cases hf
 ·exact one h
 ·exact two h
 ·exact two h
 ·exact one h
 ·exact one h
 exact one h
theorem Af.nat (_h:aX b) {x:SD} {op:Int} (g:Af b x op):∃o:Nat,x.on=o∧o<b.length∧x.set.getLsbD o=true∧(nd b x.on).op=op:=by
 obtain ⟨h1,h2,h3⟩:=g
 obtain ⟨k,h4,h5,h6⟩:=fU.1 h2
 exact ⟨k,h4,by omega,h6,h3⟩
end
end Go.Proofs.Wit
namespace Go.Proofs.Wit
open Go Go.RowKit
section
variable {l:Int} {b:List NV} {ss:List SD}
abbrev Us (b:List NV) (ss:List SD) (k n:Nat):Prop:=(oV b ss k).getLsbD n=true
inductive qK (l:Int) (b:List NV) (ss:List SD) (k:Nat) (x:SD):Prop
  |Cv (o:Nat):x.av=1→x.fr=[]→x.on=o→o<b.length→x.set.getLsbD o=true→(nd b o).op=2→(∀n,Us b ss k n↔n=o)→qK l b ss k x
  |neg (o e:Nat):x.av=1→x.fr=[]→x.on=o→o<b.length→x.set.getLsbD o=true→(nd b o).op≠2→x.e=e→e<b.length→x.set.getLsbD e=true→jC b o=e→aa b e=fg (aa b o)→(∀n,Us b ss k n↔n=o∨n=e)→qK l b ss k x
  |and (o j:Nat):x.av=2→x.e=0→x.fr=[(j:Int)]→j<k→x.on=o→o<b.length→x.set.getLsbD o=true→(nd b o).op=5→(∀n:Nat,(cu ss j).getLsbD n=true→x.set.getLsbD n=true∨(n:Int)=(nd b o).x∨(n:Int)=(nd b o).y)→(∀n:Nat,Us b ss k n↔(Us b ss j n∧(n:Int)≠(nd b o).x∧(n:Int)≠(nd b o).y)∨n=o)→qK l b ss k x
  |or (o j i:Nat):x.av=3→x.e=0→x.fr=[(j:Int),(i:Int)]→j<k→i<k→x.on=o→o<b.length→x.set.getLsbD o=true→(nd b o).op=6→(∀n:Nat,(cu ss j).getLsbD n=true→x.set.getLsbD n=true∨(n:Int)=(nd b o).x)→(∀n:Nat,(cu ss i).getLsbD n=true→x.set.getLsbD n=true∨(n:Int)=(nd b o).y)→(∀n:Nat,Us b ss k n↔(Us b ss j n∧(n:Int)≠(nd b o).x)∨(Us b ss i n∧(n:Int)≠(nd b o).y)∨n=o)→qK l b ss k x
  |cut (o e j i:Nat):x.av=4→x.fr=[(j:Int),(i:Int)]→j<k→i<k→x.on=o→o<b.length→x.e=e→e<b.length→jC b o=e→aa b e=fg (aa b o)→(∀n:Nat,(cu ss j).getLsbD n=true→x.set.getLsbD n=true∨n=o)→(∀n:Nat,(cu ss i).getLsbD n=true→x.set.getLsbD n=true∨n=e)→(∀n:Nat,Us b ss k n↔(Us b ss j n∧n≠o)∨(Us b ss i n∧n≠e))→qK l b ss k x
  |t (o j:Nat):x.av=5→x.e=0→(l=2∨l=4∨l=6)→x.fr=[(j:Int)]→j<k→x.on=o→o<b.length→x.set.getLsbD o=true→(nd b o).op=9→(∀n:Nat,(cu ss j).getLsbD n=true→x.set.getLsbD n=true∨(n:Int)=(nd b o).x)→(∀n:Nat,Us b ss k n↔(Us b ss j n∧(n:Int)≠(nd b o).x)∨n=o)→qK l b ss k x
  |k (o j:Nat):x.av=6→x.e=0→x.fr=[(j:Int)]→j<k→x.on=o→o<b.length→x.set.getLsbD o=true→(nd b o).op=10→(∀n:Nat,(cu ss j).getLsbD n=true→(lG l b x.set (nd b o).i).getLsbD n=true∨(n:Int)=(nd b o).x)→(∀n:Nat,Us b ss k n↔(∃m,Us b ss j m∧(m:Int)≠(nd b o).x∧fB b x.set (nd b o).i m=n)∨n=o)→qK l b ss k x
  |d (j:Nat):x.av=7→x.e=0→(l=1∨l=5)→x.fr=[(j:Int)]→j<k→(0≤x.on∧x.on<4)→(∀n:Nat,(cu ss j).getLsbD n=true→(lG l b x.set x.on).getLsbD n=true)→(∀n:Nat,Us b ss k n↔∃m,Us b ss j m∧fB b x.set x.on m=n)→qK l b ss k x
theorem C1 (hb:aX b) {k:Nat} (hk:k<ss.length) (h:ey l b ss k ss[k]):qK l b ss k ss[k]:=by
 obtain ⟨x,hx⟩:∃x,x=ss[k]:=⟨_,rfl⟩
 have hu:=CQ (b:=b) hk
 rw [←hx] at h hu⊢
 have hlen:=hb.len
 have hbw:∀{i:Int} {n:Nat},0≤i→i<64→((bW i).getLsbD n=true↔(n:Int)=i):=fun h1 h2=>oi ⟨h1,h2⟩
 have hp0:∀{j:Nat} {fs:List Int},j<k→x.fr=(j:Int)::fs→(eQ b ss k).getD (x.fr.getD 0 0).toNat 0#64=oV b ss j:=fun hj e=>by
  rw [e];exact mE hj (Nat.le_of_lt hk)
 have hp1:∀{j i:Nat},i<k→x.fr=[(j:Int),(i:Int)]→(eQ b ss k).getD (x.fr.getD 1 0).toNat 0#64=oV b ss i:=fun hj e=>by
  rw [e];exact mE hj (Nat.le_of_lt hk)
 rcases h.2 with ⟨h1,h2,h3⟩|⟨h1,h2,h3,h4⟩|⟨h1,h2,h3,h4⟩|⟨h1,h2,h3,h4,h5⟩|⟨h1,h2,h3,h4,h5⟩|⟨h1,h2,h3,h4⟩|⟨h1,h2,h3,h4,h5⟩
 ·unfold jR at hu
  rw [if_pos h1] at hu
  rcases h3 with ⟨h3,h4⟩|⟨h3,h4,h5,h6⟩
  ·obtain ⟨o,e1,e2,e3,e4⟩:=h3.nat hb
   rw [if_pos e4] at hu
   rw [e1] at e4
   exact .Cv o h1 h2 e1 e2 e3 e4 (fun n=>by unfold Us;rw [hu,e1,hbw (by omega) (by omega)];omega)
  obtain ⟨o,e1,e2,e3⟩:=fU.1 h3
  obtain ⟨e,f1,f2,f3⟩:=fU.1 h5
  have ho:o<b.length:=by omega
  obtain ⟨j,g1,g2,g3⟩:=vJ (b:=b) (i:=x.on) (by omega)
  have hje:j=e:=by omega
  subst hje
  by_cases h2':(nd b x.on).op=2
  ·rw [if_pos h2'] at hu
   rw [e1] at h2'
   exact .Cv o h1 h2 e1 ho e3 h2' (fun n=>by unfold Us;rw [hu,e1,hbw (by omega) (by omega)];omega)
  rw [if_neg h2'] at hu
  rw [e1] at h2' g3 g1
  refine .neg o j h1 h2 e1 ho e3 h2' f1 g2 f3 g1 (by rw [g3];rfl) (fun n=>?_)
  unfold Us
  rw [hu,cX,e1,f1,hbw (by omega) (by omega),hbw (by omega) (by omega)];omega
 ·obtain ⟨o,e1,e2,e3,e4⟩:=h3.nat hb
  obtain ⟨j,f1,f2,f3⟩:=h4.one
  rw [e1] at e4 f3
  have hx1:=hb.x e2 (by omega)
  have hy1:=hb.y e2 (by omega)
  unfold jR at hu
  rw [if_neg (by omega),if_neg (by omega),if_neg (by omega),if_pos h1,hp0 f2 f1,e1] at hu
  refine .and o j h1 h2 f1 f2 e1 e2 e3 e4 (fun n hn=>?_) (fun n=>?_)
  ·have:=f3 n hn
   rw [cX,cX,hbw (by omega) (by omega),hbw (by omega) (by omega)] at this
   rcases this with (h|h)|h
   ·exact .inl h
   ·exact .inr (.inl h)
   exact .inr (.inr h)
  unfold Us
  rw [hu,cX,gx,cX,hbw (by omega) (by omega),hbw (by omega) (by omega),hbw (by omega) (by omega),not_or]
  exact or_congr Iff.rfl (by omega)
 ·obtain ⟨o,e1,e2,e3,e4⟩:=h3.nat hb
  obtain ⟨j,i,f1,f2,f3,f4,f5⟩:=h4.two
  rw [e1] at e4 f4 f5
  have hx1:=hb.x e2 (by omega)
  have hy1:=hb.y e2 (by omega)
  unfold jR at hu
  rw [if_neg (by omega),if_neg (by omega),if_neg (by omega),if_neg (by omega),if_pos h1,hp0 f2 f1,hp1 f3 f1,e1] at hu
  refine .or o j i h1 h2 f1 f2 f3 e1 e2 e3 e4 (fun n hn=>?_) (fun n hn=>?_) (fun n=>?_)
  ·have:=f4 n hn
   rwa [cX,hbw (by omega) (by omega)] at this
  ·have:=f5 n hn
   rwa [cX,hbw (by omega) (by omega)] at this
  unfold Us
  rw [hu,cX,cX,gx,gx,hbw (by omega) (by omega),hbw (by omega) (by omega),hbw (by omega) (by omega),or_assoc]
  exact or_congr Iff.rfl (or_congr Iff.rfl (by omega))
 ·obtain ⟨j,i,f1,f2,f3,f4,f5⟩:=h5.two
  obtain ⟨e,g1,g2,g3⟩:=vJ (b:=b) (i:=x.on) (by omega)
  obtain ⟨o,e1⟩:∃o:Nat,x.on=o:=⟨x.on.toNat,by omega⟩
  have ee:x.e=e:=by omega
  rw [e1] at h2 h4 f4 g1 g3
  rw [ee] at f5
  unfold jR at hu
  rw [if_neg (by omega),if_pos h1,hp0 f2 f1,hp1 f3 f1,e1,ee] at hu
  refine .cut o e j i h1 f1 f2 f3 e1 (by omega) ee g2 g1 (by rw [g3];rfl) (fun n hn=>?_) (fun n hn=>?_) (fun n=>?_)
  ·have:=f4 n hn
   rw [cX,hbw (by omega) (by omega)] at this
   exact this.imp id (fun h=>by omega)
  ·have:=f5 n hn
   rw [cX,hbw (by omega) (by omega)] at this
   exact this.imp id (fun h=>by omega)
  unfold Us
  rw [hu,cX,gx,gx,hbw (by omega) (by omega),hbw (by omega) (by omega)]
  exact or_congr (and_congr Iff.rfl (by omega)) (and_congr Iff.rfl (by omega))
 ·obtain ⟨o,e1,e2,e3,e4⟩:=h4.nat hb
  obtain ⟨j,f1,f2,f3⟩:=h5.one
  rw [e1] at e4 f3
  have hx1:=hb.x e2 (by omega)
  unfold jR at hu
  rw [if_neg (by omega),if_neg (by omega),if_neg (by omega),if_neg (by omega),if_neg (by omega),if_pos h1,hp0 f2 f1,e1] at hu
  refine .t o j h1 h2 h3 f1 f2 e1 e2 e3 e4 (fun n hn=>?_) (fun n=>?_)
  ·have:=f3 n hn
   rwa [cX,hbw (by omega) (by omega)] at this
  unfold Us
  rw [hu,cX,gx,hbw (by omega) (by omega),hbw (by omega) (by omega)]
  exact or_congr Iff.rfl (by omega)
 ·obtain ⟨o,e1,e2,e3,e4⟩:=h3.nat hb
  obtain ⟨j,f1,f2,f3⟩:=h4.one
  rw [e1] at e4 f3
  have hx1:=hb.x e2 (by omega)
  unfold jR at hu
  rw [if_neg (by omega),if_neg (by omega),if_neg (by omega),if_neg (by omega),if_neg (by omega),if_neg (by omega),hp0 f2 f1,e1] at hu
  refine .k o j h1 h2 f1 f2 e1 e2 e3 e4 (fun n hn=>?_) (fun n=>?_)
  ·have:=f3 n hn
   rw [cX,hbw (by omega) (by omega)] at this
   exact this.symm
  unfold Us
  rw [hu,cX,sS hlen,hbw (by omega) (by omega)]
  refine or_congr (exists_congr fun m=>?_) (by omega)
  rw [gx,hbw (by omega) (by omega)]
  exact and_assoc
 obtain ⟨j,f1,f2,f3⟩:=h5.one
 unfold jR at hu
 rw [if_neg (by omega),if_neg (by omega),if_pos h1,hp0 f2 f1] at hu
 refine .d j h1 h2 h3 f1 f2 h4 f3 (fun n=>?_)
 unfold Us
 rw [hu,sS hlen]
theorem dL {j:Nat} (hj:j<ss.length):cu ss j=ss[j].set:=by simp [cu,List.getD_eq_getElem?_getD,hj]
structure gZ (l:Int) (b:List NV) (ss:List SD):Prop where
  log:0≤l∧l≤6
  base:aX b
  pos:0<ss.length
  len:ss.length≤4096
  kX:∀(k:Nat) (hk:k<ss.length),ey l b ss k ss[k]
theorem iw:nH l b ss=0↔gZ l b ss:=by
 rw [ye]
 exact ⟨fun ⟨h1,⟨h2,h3,h4⟩,⟨h5,h6⟩,h7⟩=>⟨h1,⟨h2,h3,h4⟩,h5,h6,h7⟩,fun h=>⟨h.log,⟨h.base.jD,h.base.len,h.base.Cl⟩,⟨h.pos,h.len⟩,h.kX⟩⟩
theorem gZ.E2 (h:gZ l b ss) {k:Nat} (hk:k<ss.length):qK l b ss k ss[k]:=C1 h.base hk (h.kX k hk)
theorem xV (hb:aX b) {s:aB} {ag:Int} {n:Nat} (hn:(lG l b s ag).getLsbD n=true):s.getLsbD (fB b s ag n)=true:=by
 rcases fA (b:=b) (s:=s) (ag:=ag) (n:=n) with ⟨i,h1,h2,h3,_⟩|⟨h1,h2⟩
 ·rw [h1];exact h3
 rw [h1]
 obtain ⟨i,g1,g2,g3,g4⟩:=(kl hb).1 hn
 rcases g4 with ⟨g4,g5⟩|⟨g4,g5⟩
 ·exact absurd g5 (h2 i g1 g2 g4 g3)
 rw [g4];exact g2
theorem gZ.sub (h:gZ l b ss):∀(k:Nat) (hk:k<ss.length) (n:Nat),Us b ss k n→ss[k].set.getLsbD n=true:=by
 intro k
 induction k using Nat.strongRecOn with
 |_ k ih=>
 intro hk n hn
 have ihS:∀(j:Nat),j<k→∀m,Us b ss j m→(cu ss j).getLsbD m=true:=fun j hj m hm=>by
  rw [dL (by omega)];exact ih j hj (by omega) m hm
 cases h.E2 hk with
 |Cv o h1 h2 h3 h4 h5 h6 h7=>rw [(h7 n).1 hn];exact h5
 |neg o e h1 h2 h3 h4 h5 h6 h7 h8 h9 h10 h11 h12=>
  rcases (h12 n).1 hn with e|e
  ·rw [e];exact h5
  rw [e];exact h9
 |and o j h1 h2 h3 h4 h5 h6 h7 h8 h9 h10=>
  rcases (h10 n).1 hn with ⟨e1,e2,e3⟩|e
  ·rcases h9 n (ihS j h4 n e1) with g|g|g
   ·exact g
   ·exact absurd g e2
   ·exact absurd g e3
  rw [e];exact h7
 |or o j i h1 h2 h3 h4 h5 h6 h7 h8 h9 h10 h11 h12=>
  rcases (h12 n).1 hn with ⟨e1,e2⟩|⟨e1,e2⟩|e
  ·exact (h10 n (ihS j h4 n e1)).resolve_right e2
  ·exact (h11 n (ihS i h5 n e1)).resolve_right e2
  rw [e];exact h8
 |cut o e j i h1 h2 h3 h4 h5 h6 h7 h8 h9 h10 h11 h12 h13=>
  rcases (h13 n).1 hn with ⟨e1,e2⟩|⟨e1,e2⟩
  ·exact (h11 n (ihS j h3 n e1)).resolve_right e2
  exact (h12 n (ihS i h4 n e1)).resolve_right e2
 |t o j h1 h2 h3 h4 h5 h6 h7 h8 h9 h10 h11=>
  rcases (h11 n).1 hn with ⟨e1,e2⟩|e
  ·exact (h10 n (ihS j h5 n e1)).resolve_right e2
  rw [e];exact h8
 |k o j h1 h2 h3 h4 h5 h6 h7 h8 h9 h10=>
  rcases (h10 n).1 hn with ⟨m,e1,e2,e3⟩|e
  ·rw [←e3]
   exact xV h.base ((h9 m (ihS j h4 m e1)).resolve_right e2)
  rw [e];exact h7
 |d j h1 h2 h3 h4 h5 h6 h7 h8=>
  obtain ⟨m,e1,e2⟩:=(h8 n).1 hn
  rw [←e2]
  exact xV h.base (h7 m (ihS j h5 m e1))
theorem oW:(dB b ss).length=bJ (dR ss) ss.length:=lk (Nat.le_refl _)
theorem rG {k:Nat} (hk:k<ss.length) (hn:dR ss k=true):∃hc:bJ (dR ss) k<(dB b ss).length,(dB b ss)[bJ (dR ss) k]=gG b ss k ss[k]:=by
 have:=vn (b:=b) hn (Nat.le_refl _) hk hk
 exact List.getElem?_eq_some_iff.1 this
theorem ui {q:Nat} (hq:q<(dB b ss).length):∃(k:Nat) (hk:k<ss.length),dR ss k=true∧bJ (dR ss) k=q∧(dB b ss)[q]=gG b ss k ss[k]:=by
 rw [oW] at hq
 obtain ⟨k,h1,h2,h3⟩:=D8 hq
 subst h3
 exact ⟨k,h1,h2,rfl,(rG h1 h2).2⟩
theorem rI {k:Nat} (hk:k<ss.length) (hn:dR ss k=true):cu (dB b ss) (bJ (dR ss) k:Nat)=oV b ss k:=by
 obtain ⟨h1,h2⟩:=rG (b:=b) hk hn
 rw [dL h1,h2];rfl
theorem gZ.pre (h:gZ l b ss) {k j:Nat} (hk:k<ss.length) (hn:dR ss k=true) (hj:(j:Int)∈ss[k].fr):dR ss j=true∧j<k∧bJ (dR ss) j<bJ (dR ss) k:=by
 have h1:dR ss j=true:=ig.2 (.fr hk (ig.1 hn) hj)
 have h2:=(h.kX k hk).m8 hj
 exact ⟨h1,by omega,BO (by omega) h1⟩
theorem zC (hb:aX b) {s u:aB} {ag:Int} {n:Nat} (hn:(lG l b s ag).getLsbD n=true) (hu:u.getLsbD (fB b s ag n)=true):(lG l b u ag).getLsbD n=true:=by
 rw [kl hb]
 rcases fA (b:=b) (s:=s) (ag:=ag) (n:=n) with ⟨j,g1,g2,g3,g4,g5,g6,g7⟩|⟨g1,g2⟩
 ·rw [g1] at hu;exact ⟨j,g2,hu,g5,.inl ⟨g4,g6⟩⟩
 rw [g1] at hu
 obtain ⟨i,k1,k2,k3,k4⟩:=(kl hb).1 hn
 rcases k4 with ⟨k4,k5⟩|⟨k4,k5⟩
 ·exact absurd k5 (g2 i k1 k2 k4 k3)
 subst k4;exact ⟨n,k1,hu,k3,.inr ⟨rfl,k5⟩⟩
theorem gZ.CV (h:gZ l b ss) {k:Nat} (hk:k<ss.length) (hn:dR ss k=true):ey l b (dB b ss) (bJ (dR ss) k) (gG b ss k ss[k]):=by
 have hb:=h.base
 have hlen:=hb.len
 have hbw:∀{i:Int} {n:Nat},0≤i→i<64→((bW i).getLsbD n=true↔(n:Int)=i):=fun h1 h2=>oi ⟨h1,h2⟩
 have hsub:=h.sub k hk
 have hsb:∀(j:Nat),(j:Int)∈ss[k].fr→∀m,Us b ss j m→(cu ss j).getLsbD m=true:=fun j hj m hm=>by
  have:=(h.pre hk hn hj).2.1
  rw [dL (by omega)];exact h.sub j (by omega) m hm
 have hset:∀(j:Nat),(j:Int)∈ss[k].fr→cu (dB b ss) (bJ (dR ss) j:Nat)=oV b ss j:=fun j hj=>
  rI (by have:=(h.pre hk hn hj).2.1;omega) (h.pre hk hn hj).1
 refine ⟨fun n hn=>(h.kX k hk).1 n (hsub n hn),?_⟩
 have hin:∀{o:Nat},Us b ss k o→eT (gG b ss k ss[k]).set o=true:=fun h=>lB.2 h
 cases h.E2 hk with
 |Cv o h1 h2 h3 h4 h5 h6 h7=>
  have e0:(nd b ss[k].on).op=2:=by rw [h3];exact h6
  refine .inl ⟨h1,by simp [gG,h2],.inl ⟨⟨by show ss[k].on<_;omega,by show eT _ ss[k].on=true;rw [h3];exact hin ((h7 o).2 rfl),e0⟩,?_⟩⟩
  show (if _ then _ else _)=_
  rw [if_pos ⟨h1,e0⟩]
 |neg o e h1 h2 h3 h4 h5 h6 h7 h8 h9 h10 h11 h12=>
  have e0:¬(nd b ss[k].on).op=2:=by rw [h3];exact h6
  have ee:(gG b ss k ss[k]).e=e:=by
   show (if _ then _ else _)=_
   rw [if_neg (fun h=>e0 h.2)];exact h7
  have eo:(gG b ss k ss[k]).on=o:=h3
  refine .inl ⟨h1,by simp [gG,h2],.inr ⟨?_,?_,?_,?_⟩⟩
  ·rw [eo];exact hin ((h12 o).2 (.inl rfl))
  ·rw [eo];omega
  ·rw [ee];exact hin ((h12 e).2 (.inr rfl))
  rw [eo,ee];exact h10
 |and o j h1 h2 h3 h4 h5 h6 h7 h8 h9 h10=>
  have hm:(j:Int)∈ss[k].fr:=by rw [h3];exact List.mem_singleton.2 rfl
  have ee:(gG b ss k ss[k]).e=0:=by show (if _ then _ else _)=_;rw [if_neg (by omega)];exact h2
  have eo:(gG b ss k ss[k]).on=o:=h5
  have ef:(gG b ss k ss[k]).fr=[((bJ (dR ss) j:Nat):Int)]:=by simp [gG,h3]
  have hx1:=hb.x h6 (by omega)
  have hy1:=hb.y h6 (by omega)
  refine .inr (.inl ⟨h1,ee,⟨by rw [eo];omega,by rw [eo];exact hin ((h10 o).2 (.inr rfl)),by rw [eo];exact h8⟩,?_⟩)
  rw [ef,eo]
  refine eH.Fv (h.pre hk hn hm).2.2 (fun n hn=>?_)
  rw [hset j hm] at hn
  rw [cX,cX,hbw (by omega) (by omega),hbw (by omega) (by omega)]
  by_cases c1:(n:Int)=(nd b o).x
  ·exact .inl (.inr c1)
  by_cases c2:(n:Int)=(nd b o).y
  ·exact .inr c2
  exact .inl (.inl ((h10 n).2 (.inl ⟨hn,c1,c2⟩)))
 |or o j i h1 h2 h3 h4 h5 h6 h7 h8 h9 h10 h11 h12=>
  have hm:(j:Int)∈ss[k].fr:=by rw [h3];simp
  have hm2:(i:Int)∈ss[k].fr:=by rw [h3];simp
  have ee:(gG b ss k ss[k]).e=0:=by show (if _ then _ else _)=_;rw [if_neg (by omega)];exact h2
  have eo:(gG b ss k ss[k]).on=o:=h6
  have ef:(gG b ss k ss[k]).fr=[((bJ (dR ss) j:Nat):Int),((bJ (dR ss) i:Nat):Int)]:=by simp [gG,h3]
  have hx1:=hb.x h7 (by omega)
  have hy1:=hb.y h7 (by omega)
  refine .inr (.inr (.inl ⟨h1,ee,⟨by rw [eo];omega,by rw [eo];exact hin ((h12 o).2 (.inr (.inr rfl))),by rw [eo];exact h9⟩,?_⟩))
  rw [ef,eo]
  refine eH.HV (h.pre hk hn hm).2.2 (h.pre hk hn hm2).2.2 (fun n hn=>?_) (fun n hn=>?_)
  ·rw [hset j hm] at hn
   rw [cX,hbw (by omega) (by omega)]
   by_cases c1:(n:Int)=(nd b o).x
   ·exact .inr c1
   exact .inl ((h12 n).2 (.inl ⟨hn,c1⟩))
  rw [hset i hm2] at hn
  rw [cX,hbw (by omega) (by omega)]
  by_cases c1:(n:Int)=(nd b o).y
  ·exact .inr c1
  exact .inl ((h12 n).2 (.inr (.inl ⟨hn,c1⟩)))
 |cut o e j i h1 h2 h3 h4 h5 h6 h7 h8 h9 h10 h11 h12 h13=>
  have hm:(j:Int)∈ss[k].fr:=by rw [h2];simp
  have hm2:(i:Int)∈ss[k].fr:=by rw [h2];simp
  have ee:(gG b ss k ss[k]).e=e:=by show (if _ then _ else _)=_;rw [if_neg (by omega)];exact h7
  have eo:(gG b ss k ss[k]).on=o:=h5
  have ef:(gG b ss k ss[k]).fr=[((bJ (dR ss) j:Nat):Int),((bJ (dR ss) i:Nat):Int)]:=by simp [gG,h2]
  refine .inr (.inr (.inr (.inl ⟨h1,by rw [eo];omega,by rw [ee];omega,by rw [eo,ee];exact h9,?_⟩)))
  rw [ef,eo,ee]
  refine eH.HV (h.pre hk hn hm).2.2 (h.pre hk hn hm2).2.2 (fun n hn=>?_) (fun n hn=>?_)
  ·rw [hset j hm] at hn
   rw [cX,hbw (by omega) (by omega)]
   by_cases c1:n=o
   ·exact .inr (by omega)
   exact .inl ((h13 n).2 (.inl ⟨hn,c1⟩))
  rw [hset i hm2] at hn
  rw [cX,hbw (by omega) (by omega)]
  by_cases c1:n=e
  ·exact .inr (by omega)
  exact .inl ((h13 n).2 (.inr ⟨hn,c1⟩))
 |t o j h1 h2 h3 h4 h5 h6 h7 h8 h9 h10 h11=>
  have hm:(j:Int)∈ss[k].fr:=by rw [h4];exact List.mem_singleton.2 rfl
  have ee:(gG b ss k ss[k]).e=0:=by show (if _ then _ else _)=_;rw [if_neg (by omega)];exact h2
  have eo:(gG b ss k ss[k]).on=o:=h6
  have ef:(gG b ss k ss[k]).fr=[((bJ (dR ss) j:Nat):Int)]:=by simp [gG,h4]
  have hx1:=hb.x h7 (by omega)
  refine .inr (.inr (.inr (.inr (.inl ⟨h1,ee,h3,⟨by rw [eo];omega,by rw [eo];exact hin ((h11 o).2 (.inr rfl)),by rw [eo];exact h9⟩,?_⟩))))
  rw [ef,eo]
  refine eH.Fv (h.pre hk hn hm).2.2 (fun n hn=>?_)
  rw [hset j hm] at hn
  rw [cX,hbw (by omega) (by omega)]
  by_cases c1:(n:Int)=(nd b o).x
  ·exact .inr c1
  exact .inl ((h11 n).2 (.inl ⟨hn,c1⟩))
 |k o j h1 h2 h3 h4 h5 h6 h7 h8 h9 h10=>
  have hm:(j:Int)∈ss[k].fr:=by rw [h3];exact List.mem_singleton.2 rfl
  have ee:(gG b ss k ss[k]).e=0:=by show (if _ then _ else _)=_;rw [if_neg (by omega)];exact h2
  have eo:(gG b ss k ss[k]).on=o:=h5
  have ef:(gG b ss k ss[k]).fr=[((bJ (dR ss) j:Nat):Int)]:=by simp [gG,h3]
  have hx1:=hb.x h6 (by omega)
  refine .inr (.inr (.inr (.inr (.inr (.inl ⟨h1,ee,⟨by rw [eo];omega,by rw [eo];exact hin ((h10 o).2 (.inr rfl)),by rw [eo];exact h8⟩,?_⟩)))))
  rw [ef,eo]
  refine eH.Fv (h.pre hk hn hm).2.2 (fun n hn=>?_)
  rw [hset j hm] at hn
  rw [cX,hbw (by omega) (by omega)]
  by_cases c1:(n:Int)=(nd b o).x
  ·exact .inl c1
  exact .inr (zC hb ((h9 n (hsb j hm n hn)).resolve_right c1) ((h10 _).2 (.inl ⟨n,hn,c1,rfl⟩)))
 |d j h1 h2 h3 h4 h5 h6 h7 h8=>
  have hm:(j:Int)∈ss[k].fr:=by rw [h4];exact List.mem_singleton.2 rfl
  have ee:(gG b ss k ss[k]).e=0:=by show (if _ then _ else _)=_;rw [if_neg (by omega)];exact h2
  have ef:(gG b ss k ss[k]).fr=[((bJ (dR ss) j:Nat):Int)]:=by simp [gG,h4]
  refine .inr (.inr (.inr (.inr (.inr (.inr ⟨h1,ee,h3,h6,?_⟩)))))
  rw [ef]
  refine eH.Fv (h.pre hk hn hm).2.2 (fun n hn=>?_)
  rw [hset j hm] at hn
  exact zC hb (h7 n (hsb j hm n hn)) ((h8 _).2 ⟨n,hn,rfl⟩)
theorem gZ.tr (h:gZ l b ss):gZ l b (dB b ss):=by
 have hlast:dR ss (ss.length - 1)=true:=ig.2 (.last (by have:=h.pos;omega))
 refine ⟨h.log,h.base,?_,?_,fun q hq=>?_⟩
 ·obtain ⟨h1,_⟩:=rG (b:=b) (k:=ss.length - 1) (by have:=h.pos;omega) hlast
  omega
 ·rw [oW];have:=so (p:=dR ss) (k:=ss.length);have:=h.len;omega
 obtain ⟨k,hk,h1,h2,h3⟩:=ui hq
 rw [h3,←h2];exact h.CV hk h1
end
end Go.Proofs.Wit
namespace Go.Proofs.Wit
open Go Go.RowKit
section
variable {l:Int} {b:List NV} {ss:List SD}
theorem gZ.Ar (h:gZ l b ss):∃(h1:(dB b ss).length - 1<(dB b ss).length) (h2:ss.length - 1<ss.length),(dB b ss)[(dB b ss).length - 1]=gG b ss (ss.length - 1) ss[ss.length - 1]∧dR ss (ss.length - 1)=true:=by
 have hp:=h.pos
 have hlast:dR ss (ss.length - 1)=true:=ig.2 (.last (by omega))
 have hl:ss.length - 1<ss.length:=by omega
 obtain ⟨h1,h2⟩:=rG (b:=b) hl hlast
 have e:(dB b ss).length=bJ (dR ss) (ss.length - 1)+1:=by
  rw [oW]
  conv=>lhs;rw [show ss.length=(ss.length - 1)+1 by omega]
  rw [gY,if_pos hlast]
 refine ⟨by omega,hl,?_,hlast⟩
 rw [←h2];congr 1;omega
def sI:Tr→Bool
 |.leaf op _ _ _=>op==1
 |.un op _ _ _ a=>if op=4 then !sI a else sI a
 |.bin op _ _ _ a c=>if op=5 then sI a && sI c else sI a||sI c
theorem pb:∀{t:Tr},ot t→t.ok→sI (aN t).2=!sI t
 |.leaf op i e g,h,hok=>by
  have h1:op≤3:=h
  have h2:=hok.1.1
  rw [aN];dsimp only
  rcases (by omega:op=1∨op=2∨op=3) with rfl|rfl|rfl
  ·rfl
  ·rfl
  rfl
 |.un op i e g a,h,hok=>by
  rcases h with ⟨rfl,j,e',g',rfl⟩|⟨h1,h2⟩
  ·rfl
  have ih:=pb h2 hok.2.2.2.2
  rcases h1 with rfl|rfl
  ·rw [aN,if_neg (by decide),if_pos rfl];exact ih
  rw [aN,if_neg (by decide),if_neg (by decide),if_pos rfl];exact ih
 |.bin op i e g a c,h,hok=>by
  have iha:=pb h.2.1 hok.2.2.2.1
  have ihc:=pb h.2.2 hok.2.2.2.2
  rcases h.1 with rfl|rfl
  ·rw [aN,if_pos rfl]
   show (if (6:Int)=5 then _ else _)=!(if (5:Int)=5 then _ else _)
   rw [if_neg (by decide),if_pos rfl,iha,ihc]
   cases sI a<;>cases sI c<;>rfl
  rw [aN,if_neg (by decide),if_pos rfl]
  show (if (5:Int)=5 then _ else _)=!(if (6:Int)=5 then _ else _)
  rw [if_pos rfl,if_neg (by decide),iha,ihc]
  cases sI a<;>cases sI c<;>rfl
theorem aX.node (h:aX b) {i:Nat} (hi:i<b.length):((nd b i).op≤3∧aa b i=.leaf (nd b i).op (nd b i).i (nd b i).e (nd b i).g)∨(((nd b i).op=4∨(nd b i).op=9∨(nd b i).op=10)∧aa b i=.un (nd b i).op (nd b i).i (nd b i).e (nd b i).g (aa b (nd b i).x.toNat))∨(((nd b i).op=5∨(nd b i).op=6)∧aa b i=.bin (nd b i).op (nd b i).i (nd b i).e (nd b i).g (aa b (nd b i).x.toNat) (aa b (nd b i).y.toNat)):=by
 rw [dH hi]
 have hO:=(aA.1 h.jD).nodes
 have hn:=h.Cl _ (List.getElem_mem hi)
 unfold eG at hn
 have hX:cG b[i].op=true↔4≤b[i].op:=by
  unfold cG;simp;omega
 have hY:ct b[i].op=true↔b[i].op=5∨b[i].op=6:=by
  unfold ct;simp;omega
 rcases dE hi hO with ⟨h1,h2⟩|⟨h1,h2,h3⟩|⟨h1,h2⟩
 ·refine .inl ⟨?_,h2⟩
  have:¬4≤b[i].op:=fun e=>by rw [hX.2 e] at h1;cases h1
  omega
 ·refine .inr (.inl ⟨?_,h3⟩)
  have:=hX.1 h1
  have:¬(b[i].op=5∨b[i].op=6):=fun e=>by rw [hY.2 e] at h2;cases h2
  omega
 exact .inr (.inr ⟨hY.1 h1,h2⟩)
theorem aX.ok (h:aX b) {i:Nat} (hi:i<b.length):(aa b i).ok:=(aA.1 h.jD).nodes.tree i hi
theorem aX.nf (h:aX b):∀(i:Nat),i<b.length→ot (aa b i):=by
 intro i
 induction i using Nat.strongRecOn with
 |_ i ih=>
 intro hi
 rcases h.node hi with ⟨h1,h2⟩|⟨h1,h2⟩|⟨h1,h2⟩
 ·rw [h2];exact h1
 ·have hx:=h.x hi (by omega)
  rw [h2]
  by_cases h4:(nd b i).op=4
  ·have hn:=h.Cl _ (List.getElem_mem hi)
   unfold eG at hn
   rw [←dH hi] at hn
   have h3:(nd b (nd b i).x).op=3:=by omega
   obtain ⟨k,hk⟩:∃k:Nat,(nd b i).x=k:=⟨(nd b i).x.toNat,by omega⟩
   rw [hk] at h3⊢
   have hkl:k<b.length:=by omega
   rcases h.node hkl with ⟨g1,g2⟩|⟨g1,g2⟩|⟨g1,g2⟩
   ·rw [Int.toNat_natCast,g2,h3]
    exact .inl ⟨h4,_,_,_,rfl⟩
   ·omega
   omega
  exact .inr ⟨by omega,ih _ (by omega) (by omega)⟩
 have hx:=h.x hi (by omega)
 have hy:=h.y hi h1
 rw [h2]
 exact ⟨h1,ih _ (by omega) (by omega),ih _ (by omega) (by omega)⟩
theorem aX.fit (h:aX b) {i:Nat} (hi:i<b.length):Fit (aE (aa b i))∧Fit (aa b i):=by
 have h1:=og (aA.1 h.jD).nodes.ord hi
 have h2:=h.len
 have h3:(bX (aE (aa b i))).length=(bX (aa b i)).length+1:=sy
 unfold Fit;omega
theorem aX.zj (h:aX b) {i:Nat} (hi:i<b.length):sI (fg (aa b i))=!sI (aa b i):=by
 rw [pH (h.fit hi).1];exact pb (h.nf i hi) (h.ok hi)
theorem gZ.zd (h:gZ l b ss):∀(k:Nat),k<ss.length→∃n,Us b ss k n∧sI (aa b n)=false:=by
 have hb:=h.base
 intro k
 induction k using Nat.strongRecOn with
 |_ k ih=>
 intro hk
 have hsrc:∀{j:Nat} {s:aB} {ag:Int} {m:Nat},j<ss.length→Us b ss j m→sI (aa b m)=false→sI (aa b (fB b s ag m))=false:=fun {j s ag m} hj hm he=>by
  rcases fA (b:=b) (s:=s) (ag:=ag) (n:=m) with ⟨i,h1,h2,h3,h4,h5,h6,_⟩|⟨h1,_⟩
  ·rw [h1]
   rcases hb.node h2 with ⟨g1,g2⟩|⟨g1,g2⟩|⟨g1,g2⟩
   ·omega
   ·rw [g2,h6]
    show (if _ then _ else _)=_
    rw [if_neg (by omega)];exact he
   omega
  rw [h1];exact he
 cases h.E2 hk with
 |Cv o h1 h2 h3 h4 h5 h6 h7=>
  refine ⟨o,(h7 o).2 rfl,?_⟩
  rcases hb.node h4 with ⟨g1,g2⟩|⟨g1,g2⟩|⟨g1,g2⟩
  ·rw [g2,h6];rfl
  ·omega
  omega
 |neg o e h1 h2 h3 h4 h5 h6 h7 h8 h9 h10 h11 h12=>
  cases hv:sI (aa b o) with
  |false=>exact ⟨o,(h12 o).2 (.inl rfl),hv⟩
  |true=>exact ⟨e,(h12 e).2 (.inr rfl),by rw [h11,hb.zj h4,hv];rfl⟩
 |and o j h1 h2 h3 h4 h5 h6 h7 h8 h9 h10=>
  obtain ⟨n,hn,hv⟩:=ih j h4 (by omega)
  have hx:=hb.x h6 (by omega)
  have hy:=hb.y h6 (by omega)
  by_cases c1:(n:Int)=(nd b o).x∨(n:Int)=(nd b o).y
  ·refine ⟨o,(h10 o).2 (.inr rfl),?_⟩
   rcases hb.node h6 with ⟨g1,g2⟩|⟨g1,g2⟩|⟨g1,g2⟩
   ·omega
   ·omega
   rw [g2,h8]
   show (if (5:Int)=5 then _ else _)=_
   rw [if_pos rfl]
   rcases c1 with c1|c1
   ·rw [←c1,Int.toNat_natCast,hv];rfl
   rw [←c1,Int.toNat_natCast,hv,Bool.and_false]
  exact ⟨n,(h10 n).2 (.inl ⟨hn,fun e=>c1 (.inl e),fun e=>c1 (.inr e)⟩),hv⟩
 |or o j i h1 h2 h3 h4 h5 h6 h7 h8 h9 h10 h11 h12=>
  obtain ⟨n,hn,hv⟩:=ih j h4 (by omega)
  obtain ⟨m,hm,hw⟩:=ih i h5 (by omega)
  by_cases c1:(n:Int)=(nd b o).x
  ·by_cases c2:(m:Int)=(nd b o).y
   ·refine ⟨o,(h12 o).2 (.inr (.inr rfl)),?_⟩
    rcases hb.node h7 with ⟨g1,g2⟩|⟨g1,g2⟩|⟨g1,g2⟩
    ·omega
    ·omega
    rw [g2,h9]
    show (if (6:Int)=5 then _ else _)=_
    rw [if_neg (by decide),←c1,←c2,Int.toNat_natCast,Int.toNat_natCast,hv,hw];rfl
   ·exact ⟨m,(h12 m).2 (.inr (.inl ⟨hm,c2⟩)),hw⟩
  exact ⟨n,(h12 n).2 (.inl ⟨hn,c1⟩),hv⟩
 |cut o e j i h1 h2 h3 h4 h5 h6 h7 h8 h9 h10 h11 h12 h13=>
  obtain ⟨n,hn,hv⟩:=ih j h3 (by omega)
  obtain ⟨m,hm,hw⟩:=ih i h4 (by omega)
  by_cases c1:n=o
  ·by_cases c2:m=e
   ·subst c1 c2
    rw [h10,hb.zj h6,hv] at hw;cases hw
   ·exact ⟨m,(h13 m).2 (.inr ⟨hm,c2⟩),hw⟩
  exact ⟨n,(h13 n).2 (.inl ⟨hn,c1⟩),hv⟩
 |t o j h1 h2 h3 h4 h5 h6 h7 h8 h9 h10 h11=>
  obtain ⟨n,hn,hv⟩:=ih j h5 (by omega)
  by_cases c1:(n:Int)=(nd b o).x
  ·refine ⟨o,(h11 o).2 (.inr rfl),?_⟩
   rcases hb.node h7 with ⟨g1,g2⟩|⟨g1,g2⟩|⟨g1,g2⟩
   ·omega
   ·rw [g2,h9,←c1,Int.toNat_natCast]
    show (if (9:Int)=4 then _ else _)=_
    rw [if_neg (by decide)];exact hv
   omega
  exact ⟨n,(h11 n).2 (.inl ⟨hn,c1⟩),hv⟩
 |k o j h1 h2 h3 h4 h5 h6 h7 h8 h9 h10=>
  obtain ⟨n,hn,hv⟩:=ih j h4 (by omega)
  by_cases c1:(n:Int)=(nd b o).x
  ·refine ⟨o,(h10 o).2 (.inr rfl),?_⟩
   rcases hb.node h6 with ⟨g1,g2⟩|⟨g1,g2⟩|⟨g1,g2⟩
   ·omega
   ·rw [g2,h8,←c1,Int.toNat_natCast]
    show (if (10:Int)=4 then _ else _)=_
    rw [if_neg (by decide)];exact hv
   omega
  exact ⟨_,(h10 _).2 (.inl ⟨n,hn,c1,rfl⟩),hsrc (by omega:j<ss.length) hn hv⟩
 |d j h1 h2 h3 h4 h5 h6 h7 h8=>
  obtain ⟨n,hn,hv⟩:=ih j h5 (by omega)
  exact ⟨_,(h8 _).2 ⟨n,hn,rfl⟩,hsrc (by omega:j<ss.length) hn hv⟩
end
end Go.Proofs.Wit
namespace Go.Proofs.Wit
open Go Go.RowKit
/-- not all of a set of nodes -/
def dh (b:List NV) (s:aB):Tr:=aE (jM ((dG s).map (aa b)))
section
variable (T:Tr→Prop)
noncomputable def sr (a:Int) (h:Tr):List Tr→List Tr→Nat→Sg→Nat×Sg
 |_,[],r,σ=>(r,σ)
 |ds,t::ts,r,σ=>
  let k:=kW T a t (cy ts h) σ
  let d:=aV T (cy ((ds++[t]).map (ar a)) (ar a (cy ts h))) [r,k.1] k.2
  sr a h (ds++[t]) ts d.1 d.2
noncomputable def lX (a:Int) (ts:List Tr) (h:Tr) (line:Nat) (σ:Sg):Nat×Sg:=
 let f:=aV T (cy ts h) [line] σ
 let r:=bR T (ar a (cy ts h)) 11 f.1 0 a f.2
 sr T a h [] ts r.1 r.2
noncomputable def eF (b:List NV) (full:aB) (a:Int):List Nat→Sg→List Nat×Sg
 |[],σ=>([],σ)
 |n::ns,σ=>if fB b full a n=n then ((kV T a (aa b n) σ).1::(eF b full a ns (kV T a (aa b n) σ).2).1,(eF b full a ns (kV T a (aa b n) σ).2).2) else eF b full a ns σ
noncomputable def uG (b:List NV) (goal:Tr) (full:aB) (a:Int) (ns:List Nat) (tg:Nat) (own:List Nat) (isK:Bool) (line:Nat) (σ:Sg):Nat×Sg:=
 let c:=lX T a (ns.map (aa b)) (aE (aa b tg)) line σ
 let d:=eF T b full a own c.2
 let e:=if isK=true then dV T a (aa b tg) d.2 else bR T (aP (ar a (aa b tg)) (aE (ar a (aE (aa b tg))))) 6 0 0 0 d.2
 aV T goal (c.1::(d.1++[e.1])) e.2
noncomputable def bH (b:List NV) (tl:List SD) (full:aB) (x:SD) (last:List Nat) (σ:Sg):Nat×Sg:=
 let goal:=dh b x.set
 let p0:=last.getD (x.fr.getD 0 0).toNat 0
 let p1:=last.getD (x.fr.getD 1 0).toNat 0
 if x.av=1 then (if (nd b x.on).op=2 then aV T goal [] σ else aV T goal [(aI T false (tA b x.on) σ).1] (aI T false (tA b x.on) σ).2)
 else if x.av=2 then aV T goal [p0] σ
 else if x.av=3 then aV T goal [p0,p1] σ
 else if x.av=4 then aV T goal [(aI T true (tA b x.on) σ).1,p0,p1] (aI T true (tA b x.on) σ).2
 else if x.av=5 then aV T goal [(bR T (aP (tA b x.on) (tA b (nd b x.on).x)) 3 0 0 0 σ).1,p0] (bR T (aP (tA b x.on) (tA b (nd b x.on).x)) 3 0 0 0 σ).2
 else if x.av=6 then uG T b goal full (nd b x.on).i (dG (cu tl (x.fr.getD 0 0) &&& ~~~ bW (nd b x.on).x)) (nd b x.on).x.toNat (dG (cu tl (x.fr.getD 0 0) &&& ~~~ bW (nd b x.on).x)) true p0 σ
 else uG T b goal full x.on (dG (cu tl (x.fr.getD 0 0))).dropLast ((dG (cu tl (x.fr.getD 0 0))).getLastD 0) (dG (cu tl (x.fr.getD 0 0))) false p0 σ
noncomputable def aT (b:List NV) (tl:List SD) (fl:List aB):Nat→List Nat×Sg
 |0=>([],⟨[],false⟩)
 |q+1=>match tl[q]? with
  |some x=>((aT b tl fl q).1++[(bH T b tl (fl.getD q 0#64) x (aT b tl fl q).1 (aT b tl fl q).2).1],(bH T b tl (fl.getD q 0#64) x (aT b tl fl q).1 (aT b tl fl q).2).2)
  |none=>aT b tl fl q
end
noncomputable def cU (ss:List SD):Nat→List aB
 |0=>[]
 |k+1=>match ss[k]? with
  |some x=>if dR ss k=true then cU ss k++[x.set] else cU ss k
  |none=>cU ss k
noncomputable def fS (T:Tr→Prop) (b:List NV) (ss:List SD):Nat×Sg:=
 let tl:=dB b ss
 let p:=aT T b tl (cU ss ss.length) tl.length
 let ln:=p.1.getD (tl.length - 1) 0
 if cu tl ((tl.length - 1:Nat):Int)=cu ss ((ss.length - 1:Nat):Int) then (ln,p.2) else aV T (dh b (cu ss ((ss.length - 1:Nat):Int))) [ln] p.2
section
variable {l:Int} {b:List NV} {ss:List SD} {σ:Sg} {T:Tr→Prop}
theorem zi {v:Tr→Bool}:∀{ts:List Tr},bZ v (jM ts)=true↔∀u∈ts,bZ v u=true
 |[]=>⟨fun _ _ h=>(by cases h),fun _=>rfl⟩
 |t::ts=>by
  have key:∀(us:List Tr) (a:Tr),bZ v (us.foldl (fun a c=>.bin 5 0 0 0 a c) a)=true↔bZ v a=true∧∀u∈us,bZ v u=true:=by
   intro us
   induction us with
   |nil=>intro a;simp
   |cons u us ih=>
    intro a
    rw [List.foldl_cons,ih,show bZ v (.bin 5 0 0 0 a u)=(bZ v a && bZ v u) from rfl,Bool.and_eq_true]
    simp only [List.mem_cons,forall_eq_or_imp,and_assoc]
  rw [show jM (t::ts)=ts.foldl (fun a c=>.bin 5 0 0 0 a c) t from rfl,key]
  simp
theorem ff {v:Tr→Bool} {s:aB}:bZ v (dh b s)=true↔¬∀n,s.getLsbD n=true→bZ v (aa b n)=true:=by
 unfold dh
 rw [qI,Bool.not_eq_true']
 constructor
 ·intro h hall
  have:bZ v (jM ((dG s).map (aa b)))=true:=zi.2 (fun u hu=>by
   obtain ⟨n,hn,rfl⟩:=List.mem_map.1 hu
   exact hall n (cH.1 hn))
  rw [this] at h;cases h
 intro h
 cases e:bZ v (jM ((dG s).map (aa b))) with
 |false=>rfl
 |true=>exact absurd (fun n hn=>zi.1 e _ (List.mem_map_of_mem (cH.2 hn))) h
theorem sh:∀{ts:List Tr},(∀u∈ts,eV u)→eV (jM ts)
 |[],_=>⟨⟨by decide,rfl,by decide⟩,.inl (by decide)⟩
 |t::ts,h=>by
  have key:∀(us:List Tr) (a:Tr),eV a→(∀u∈us,eV u)→eV (us.foldl (fun a c=>.bin 5 0 0 0 a c) a):=by
   intro us
   induction us with
   |nil=>intro a ha _;exact ha
   |cons u us ih=>intro a ha hu;exact ih _ (ha.ad (hu u (List.mem_cons_self ..))) (fun w hw=>hu w (List.mem_cons_of_mem _ hw))
  exact key ts t (h t (List.mem_cons_self ..)) (fun u hu=>h u (List.mem_cons_of_mem _ hu))
theorem aX.fr (h:aX b) {n:Nat} (hn:n<b.length):eV (aa b n):=(h.nf n hn).fr (h.ok hn)
theorem mW (h:aX b) {s:aB} (hs:iM b s):eV (dh b s):=(sh (fun u hu=>by
 obtain ⟨n,hn,rfl⟩:=List.mem_map.1 hu
 exact h.fr (hs n (cH.1 hn)))).nt
theorem v5 {a:Int} {h:Tr}:∀{ts ds:List Tr} {r:Nat} {σ:Sg},σ.Le (sr T a h ds ts r σ).2
 |[],_,_,σ=>Sg.Le.refl σ
 |_t::ts,_ds,_r,_σ=>tG.trans (dc.trans (v5 (ts:=ts)))
theorem BR {a:Int} {h:Tr} {ts:List Tr} {n:Nat}:σ.Le (lX T a ts h n σ).2:=dc.trans (df.trans v5)
theorem tU {a:Int} {h:Tr}:∀{ts ds:List Tr} {r:Nat} {σ:Sg},dn σ r (cy (ds.map (ar a)) (ar a (cy ts h)))→dn (sr T a h ds ts r σ).2 (sr T a h ds ts r σ).1 (cy ((ds++ts).map (ar a)) (ar a h))
 |[],ds,r,σ,hr=>by rw [List.append_nil];exact hr
 |t::ts,ds,r,σ,_=>by
  rw [show ds++t::ts=(ds++[t])++ts by simp]
  exact tU eE
theorem tT {a:Int} {h:Tr} {ts:List Tr} {n:Nat}:dn (lX T a ts h n σ).2 (lX T a ts h n σ).1 (cy (ts.map (ar a)) (ar a h)):=tU (ds:=[]) bP
theorem kk {full:aB} {a:Int}:∀{ns:List Nat} {σ:Sg},σ.Le (eF T b full a ns σ).2
 |[],σ=>Sg.Le.refl σ
 |n::ns,σ=>by
  rw [eF];split
  ·exact su.trans kk
  exact kk
theorem oc {full:aB} {a:Int}:∀{ns:List Nat} {σ:Sg} (m:Nat),m∈(eF T b full a ns σ).1→∃n∈ns,fB b full a n=n∧dn (eF T b full a ns σ).2 m (aP (aa b n) (ar a (aa b n)))
 |[],σ,m,h=>by cases h
 |n::ns,σ,m,h=>by
  rw [eF] at h⊢
  by_cases e:fB b full a n=n
  ·rw [if_pos e] at h⊢
   rcases List.mem_cons.1 h with rfl|h
   ·exact ⟨n,List.mem_cons_self ..,e,qm.le kk⟩
   obtain ⟨k,h1,h2,h3⟩:=oc m h
   exact ⟨k,List.mem_cons_of_mem _ h1,h2,h3⟩
  rw [if_neg e] at h⊢
  obtain ⟨k,h1,h2,h3⟩:=oc m h
  exact ⟨k,List.mem_cons_of_mem _ h1,h2,h3⟩
theorem od {full:aB} {a:Int}:∀{ns:List Nat} {σ:Sg} {n:Nat},n∈ns→fB b full a n=n→∃m∈(eF T b full a ns σ).1,dn (eF T b full a ns σ).2 m (aP (aa b n) (ar a (aa b n)))
 |[],_,_,h,_=>by cases h
 |k::ns,σ,n,h,he=>by
  rw [eF]
  rcases List.mem_cons.1 h with rfl|h
  ·rw [if_pos he]
   exact ⟨_,List.mem_cons_self ..,qm.le kk⟩
  split
  ·obtain ⟨m,h1,h2⟩:=od (σ:=(kV T a (aa b k) σ).2) h he
   exact ⟨m,List.mem_cons_of_mem _ h1,h2⟩
  exact od h he
theorem vO {goal:Tr} {full:aB} {a:Int} {ns:List Nat} {tg:Nat} {own:List Nat} {isK:Bool} {line:Nat}:σ.Le (uG T b goal full a ns tg own isK line σ).2:=by
 have h1:=BR (T:=T) (σ:=σ) (a:=a) (h:=aE (aa b tg)) (ts:=ns.map (aa b)) (n:=line)
 have h2:=kk (T:=T) (b:=b) (full:=full) (a:=a) (ns:=own) (σ:=(lX T a (ns.map (aa b)) (aE (aa b tg)) line σ).2)
 cases isK with
 |true=>exact (h1.trans h2).trans (jH.trans dc)
 |false=>exact (h1.trans h2).trans (df.trans dc)
theorem sQ {tl:List SD} {full:aB} {x:SD} {last:List Nat}:σ.Le (bH T b tl full x last σ).2:=by
 unfold bH
 dsimp only
 repeat' split
 ·exact dc
 ·exact ik.trans dc
 ·exact dc
 ·exact dc
 ·exact ik.trans dc
 ·exact df.trans dc
 ·exact vO
 exact vO
theorem wx {tl:List SD} {full:aB} {x:SD} {last:List Nat}:dn (bH T b tl full x last σ).2 (bH T b tl full x last σ).1 (dh b x.set):=by
 unfold bH
 dsimp only
 repeat' split
 all_goals exact eE
def oH (σ:Sg) (n:Nat):Prop:=σ.bad=false→n+1=σ.ls.length
theorem ry {t:Tr} {r g:Int} {a c:Nat}:oH (bR T t r a c g σ).2 (bR T t r a c g σ).1:=by
 unfold bR;split
 ·intro e;cases e
 intro _;simp
theorem qZ {g:Tr}:∀{ps:List (Nat×Tr)} {n:Nat} {σ:Sg},oH σ n→oH (lu T g ps n σ).2 (lu T g ps n σ).1
 |[],_,_,h=>h
 |_::ps,_,_,_=>qZ (ps:=ps) ry
theorem ru {g:Tr} {fr:List Nat}:oH (aV T g fr σ).2 (aV T g fr σ).1:=by
 unfold aV;split
 ·rename_i h;intro e;rw [h] at e;cases e
 exact qZ ry
theorem um {tl:List SD} {full:aB} {x:SD} {last:List Nat}:oH (bH T b tl full x last σ).2 (bH T b tl full x last σ).1:=by
 unfold bH
 dsimp only
 repeat' split
 all_goals exact ru
end
end Go.Proofs.Wit
