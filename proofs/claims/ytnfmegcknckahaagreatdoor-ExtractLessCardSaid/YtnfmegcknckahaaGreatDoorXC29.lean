/- Laws of walks, for any program, under the conditions that each theorem states. -/
import Derived.Test.YtnfmegcknckahaaGreatDoorXC23
import Derived.Test.YtnfmegcknckahaaGreatDoorXC13
import Derived.Test.YtnfmegcknckahaaGreatDoorXC15
import Derived.Test.YtnfmegcknckahaaGreatDoorXC02
import Derived.Test.YtnfmegcknckahaaGreatDoorXC25
import Derived.Test.YtnfmegcknckahaaGreatDoorXC01
namespace Go.Proofs.Wit
open Go
/-! soundness of Hilbert's proofs -/
structure KM where
  n:Nat
  R:Nat→Nat→Nat→Prop
  V:Nat→Nat→Prop
  lt:∀k w u,w<n→R k w u→u<n
def KM.Gr (M:KM) (g:Nat) (w u:Nat):Prop:=∃k,k<4∧gb g k=1∧M.R k w u
inductive KM.HI (M:KM) (g:Nat) (c:Nat→Bool):Nat→Nat→Prop
  |one {w u:Nat}:M.Gr g w u→c u=true→KM.HI M g c w u
  |step {w u v:Nat}:KM.HI M g c w u→M.Gr g u v→c v=true→KM.HI M g c w v
section
variable {M:KM}
structure Jh (M:KM) (l:Int):Prop where
  t:ct l 3=true→∀k w,w<M.n→M.R k w w
  f:ct l 4=true→∀k w u v,w<M.n→M.R k w u→M.R k u v→M.R k w v
  v:ct l 5=true→∀k w u v,w<M.n→M.R k w u→M.R k w v→M.R k u v
  d:ct l 6=true→∀k w,w<M.n→∃u,M.R k w u
end
end Go.Proofs.Wit
namespace Go.Proofs.Wit
open Go Go.RowKit
/-! characteristic sets -/
section
variable {n:Nat} {val:List aB} {rel:List (List aB)}
structure IS (n:Nat) (val:List aB) (rel:List (List aB)) (f:List NV) (t:Tr):Prop where
  jH:aV f=0
  fit:FT f rel.length val.length=true
  Jc:kl (kS (aj f)) 1=0
  can:aj f=cd t
  top:bj f=t
  hold:FL (n:Int) val rel f=0
  ok:t.ok
end
end Go.Proofs.Wit
namespace Go.Proofs.Wit
open Go Go.RowKit
end Go.Proofs.Wit
namespace Go.Proofs.Wit
open Go
structure Jk (n1:Nat) (v1:List aB) (r1:List (List aB)) (n:Nat) (v:List aB) (r:List (List aB)) (e:Nat→Nat):Prop where
  Ir:n≤64
  Iq:n1≤64
  lt:∀x,x<n1→e x<n
  val:∀i x,x<n1→((v.getD i 0#64).getLsbD (e x)=true↔(v1.getD i 0#64).getLsbD x=true)
  fwd:∀i x y,x<n1→Rl (r1.getD i []) x y→Rl (r.getD i []) (e x) (e y)
  bwd:∀i x z,x<n1→Rl (r.getD i []) (e x) z→∃y,y<n1∧z=e y∧Rl (r1.getD i []) x y
  Ja:∀i x y,Rl (r1.getD i []) x y→y<n1
section
variable {n1 n:Nat} {v1 v:List aB} {r1 r:List (List aB)} {e:Nat→Nat}
end
end Go.Proofs.Wit
namespace Go.Proofs.Wit
open Go
/-! the union of two models: bisimulations -/
section
variable {na nb:Nat} {va vb:List aB} {ra rb:List (List aB)}
structure Jf (na nb:Nat) (va vb:List aB) (ra rb:List (List aB)):Prop where
  a:Gm (na:Int) va ra
  b:Gm (nb:Int) vb rb
  rl:ra.length=rb.length
  vl:va.length=vb.length
  le:na+nb≤64
end
end Go.Proofs.Wit
namespace Go.Proofs.Wit
open Go Go.RowKit
/-! soundness: the models of the program -/
section
variable {n:Nat} {val:List aB} {rel:List (List aB)}
theorem By {op:Int} (ho:1≤op∧op≤21):kl (xx op).toNat 11=0↔op≤11∨op=13:=
 yx (p:=fun op=>kl (xx op).toNat 11=0↔op≤11∨op=13) (by decide) ho
theorem pX {f:List NV}:gm f=0↔aV f=0∧jS (fun op _ _=>op≤11∨op=13) (bj f):=by
 unfold gm
 by_cases h1:aV f=0
 ·rw [if_neg (by simp [h1]),dv h1,←Bw (aE.1 h1).top By]
  constructor
  ·intro h
   refine ⟨h1,Classical.byContradiction (fun h2=>?_)⟩
   rw [if_pos h2] at h;exact absurd h (by decide)
  intro h;rw [if_neg (by simp [h.2])]
 rw [if_pos h1];exact ⟨fun h=>absurd h h1,fun h=>absurd h.1 h1⟩
end
theorem lC {l:Int} {ls:List LV}:gF l ls=0↔(0≤l∧l≤6)∧0<ls.length∧ls.length≤400∧∀(k:Nat) (hk:k<ls.length),dR l ls k ls[k]=0:=by
 have hs:∀{k:Nat},da l ls k=0→∀hk:k<ls.length,da l ls (k+1)=dR l ls k ls[k]:=fun {k} h hk=>by
  show (if da l ls k≠0 then da l ls k else match ls[k]? with|some x=>dR l ls k x|none=>0)=_
  rw [if_neg (by simp [h]),List.getElem?_eq_getElem hk]
 have hb:∀{k:Nat},da l ls k≠0→da l ls (k+1)=da l ls k:=fun {k} h=>by
  show (if da l ls k≠0 then da l ls k else _)=_
  rw [if_pos h]
 have key:∀k,k≤ls.length→(da l ls k=0↔∀(j:Nat) (hj:j<ls.length),j<k→dR l ls j ls[j]=0):=by
  intro k
  induction k with
  |zero=>exact fun _=>⟨fun _ j _ h=>absurd h (Nat.not_lt_zero _),fun _=>rfl⟩
  |succ k ih=>
   intro hk
   have ih:=ih (by omega)
   constructor
   ·intro h
    have h0:da l ls k=0:=Classical.byContradiction (fun hne=>hne (by rw [←hb hne];exact h))
    intro j hj hjk
    by_cases e:j=k
    ·subst e;rw [←hs h0 hj];exact h
    exact ih.1 h0 j hj (by omega)
   intro h
   have h0:=ih.2 (fun j hj hjk=>h j hj (by omega))
   rw [hs h0 (by omega)]
   exact h k (by omega) (by omega)
 unfold gF
 by_cases h1:¬(0≤l∧l≤6)
 ·rw [if_pos h1];exact ⟨fun h=>absurd h (by decide),fun h=>absurd h.1 h1⟩
 rw [if_neg h1]
 by_cases h2:ls.length=0
 ·rw [if_pos h2];exact ⟨fun h=>absurd h (by decide),fun h=>absurd h.2.1 (by omega)⟩
 rw [if_neg h2]
 by_cases h3:400<ls.length
 ·rw [if_pos h3];exact ⟨fun h=>absurd h (by decide),fun h=>absurd h.2.2.1 (by omega)⟩
 rw [if_neg h3,key _ (Nat.le_refl _)]
 exact ⟨fun h=>⟨Classical.not_not.1 h1,by omega,by omega,fun k hk=>h k hk hk⟩,fun h j hj _=>h.2.2.2 j hj⟩
end Go.Proofs.Wit
namespace Go.Proofs.Wit
open Go Go.RowKit
/-! proofs without superfluous lines, and joined proofs -/
/-- what a line says -/
structure LD where
  f:List NV
  r:Int
  a:Int
  b:Int
  g:Int
def LV.d (x:LV):LD:=⟨x.f.f,x.r,x.a,x.b,x.g⟩
def LD.v (x:LD):LV:=⟨⟨none,0,x.f⟩,x.r,x.a,x.b,x.g⟩
section
variable {l:Int} {ls ls':List LV}
theorem BI (h:ls.map LV.d=ls'.map LV.d):ls.length=ls'.length:=by have:=congrArg List.length h;simpa using this
theorem D9 (h:ls.map LV.d=ls'.map LV.d) {k:Nat} (hk:k<ls.length) (hk':k<ls'.length):ls[k].d=ls'[k].d:=by
 have h1:(ls.map LV.d)[k]'(by simpa using hk)=(ls'.map LV.d)[k]'(by simpa using hk'):=by simp only [h]
 simpa using h1
theorem Bi (h:ls.map LV.d=ls'.map LV.d) (k:Int):rV ls k=rV ls' k:=by
 have e:ls.map (fun x=>bj x.f.f)=ls'.map (fun x=>bj x.f.f):=by
  have h1:∀l:List LV,l.map (fun x=>bj x.f.f)=(l.map LV.d).map (fun x=>bj x.f):=fun l=>by rw [List.map_map];rfl
  rw [h1,h1,h]
 unfold rV
 rw [e]
theorem z9 (h:ls.map LV.d=ls'.map LV.d) {x y:LV} (e:x.d=y.d):jT ls x↔jT ls' y:=by
 obtain ⟨⟨xa,xc,xf⟩,xr,x1,x2,x3⟩:=x
 obtain ⟨⟨ya,yc,yf⟩,yr,y1,y2,y3⟩:=y
 simp only [LV.d,LD.mk.injEq] at e
 obtain ⟨rfl,rfl,rfl,rfl,rfl⟩:=e
 unfold jT
 simp only [Bi h]
theorem wW (h:ls.map LV.d=ls'.map LV.d) {i:Nat} {x y:LV} (e:x.d=y.d):dR l ls i x=dR l ls' i y:=by
 have h2:=z9 h e
 have en:iR i x=iR i y:=by
  obtain ⟨⟨xa,xc,xf⟩,xr,x1,x2,x3⟩:=x
  obtain ⟨⟨ya,yc,yf⟩,yr,y1,y2,y3⟩:=y
  simp only [LV.d,LD.mk.injEq] at e
  obtain ⟨rfl,rfl,rfl,rfl,rfl⟩:=e
  rfl
 have ef:x.f.f=y.f.f:=congrArg LD.f e
 have er:x.r=y.r:=congrArg LD.r e
 unfold dR
 rw [en,ef,er]
 by_cases k:jT ls x
 ·rw [if_pos k,if_pos (h2.1 k)]
 rw [if_neg k,if_neg (fun k'=>k (h2.2 k'))]
theorem u3 (h:ls.map LV.d=ls'.map LV.d) (h0:gF l ls=0):gF l ls'=0:=by
 obtain ⟨h1,h2,h3,h4⟩:=lC.1 h0
 have hl:=BI h
 exact lC.2 ⟨h1,by omega,by omega,fun k hk=>by
  have:=h4 k (by omega)
  rw [←wW h (D9 h (by omega) hk)];exact this⟩
end
theorem mo {l:Int} {ls:List LV} {i:Nat} {x:LV}:dR l ls i x=0↔gm x.f.f=0∧(1≤x.r∧x.r≤12)∧iR i x=0∧ct l x.r=true∧jT ls x:=by
 constructor
 ·intro h
  unfold dR at h
  by_cases h1:gm x.f.f=0
  rotate_left
  ·rw [if_pos h1] at h;exact absurd h h1
  rw [if_neg (by simp [h1])] at h
  by_cases h2:x.r<1∨12<x.r
  ·rw [if_pos h2] at h;exact absurd h (by decide)
  rw [if_neg h2] at h
  by_cases h3:iR i x=0
  rotate_left
  ·rw [if_pos h3] at h;exact absurd h h3
  rw [if_neg (by simp [h3])] at h
  by_cases h4:ct l x.r=false
  ·rw [if_pos h4] at h;exact absurd h (by decide)
  rw [if_neg h4] at h
  by_cases h5:jT ls x
  rotate_left
  ·rw [if_neg h5] at h;exact absurd h (by decide)
  exact ⟨h1,by omega,h3,by simpa using h4,h5⟩
 rintro ⟨h1,h2,h3,h4,h5⟩
 exact yS h1 h2 h3 h4 h5
theorem qD {i:Int} {x:LV} (h1:1≤x.r) (h12:x.r≤12):iR i x=0↔¬pG x∧¬pF i x∧0≤x.g∧x.g<4:=by
 constructor
 ·intro h
  have k1:¬pG x:=fun k=>by rw [yy h1 h12 (.inl k)] at h;exact absurd h (by decide)
  have k2:¬pF i x:=fun k=>by rw [yy h1 h12 (.inr k)] at h;exact absurd h (by decide)
  rw [yz h1 h12 k1 k2] at h
  refine ⟨k1,k2,?_⟩
  by_cases h3:x.g<0∨x.g≥4
  ·rw [if_pos h3] at h;exact absurd h (by decide)
  omega
 rintro ⟨k1,k2,k3⟩
 rw [yz h1 h12 k1 k2,if_neg (by omega)]
/-! the lines that are needed -/
inductive ET (ls:List LV):Nat→Prop
  |last {k:Nat}:k+1=ls.length→ET ls k
  |a {k:Nat} (hk:k<ls.length):ET ls k→10≤ls[k].r→ET ls ls[k].a.toNat
  |b {k:Nat} (hk:k<ls.length):ET ls k→ls[k].r=10→ET ls ls[k].b.toNat
def bd (p:Nat→Bool) (k:Nat):Nat:=((List.range k).filter p).length
theorem fF {p:Nat→Bool} {k:Nat}:bd p (k+1)=bd p k+(if p k=true then 1 else 0):=by
 unfold bd
 rw [List.range_succ,List.filter_append,List.length_append]
 cases h:p k<;>simp [h]
theorem o7 {p:Nat→Bool}:∀{k:Nat},bd p k≤k
 |0=>Nat.le_refl _
 |k+1=>by have:=o7 (p:=p) (k:=k);rw [fF];split<;>omega
theorem xj {p:Nat→Bool} {j k:Nat} (h:j≤k):bd p j≤bd p k:=by
 induction h with
 |refl=>exact Nat.le_refl _
 |step _ ih=>rw [fF];omega
theorem BO {p:Nat→Bool} {j k:Nat} (h:j<k) (hp:p j=true):bd p j<bd p k:=by
 have:=xj (p:=p) (show j+1≤k from h)
 rw [fF,if_pos hp] at this;omega
theorem Ec {p:Nat→Bool} {n q:Nat} (h:q<bd p n):∃j,j<n∧p j=true∧bd p j=q:=by
 induction n with
 |zero=>exact absurd h (Nat.not_lt_zero _)
 |succ n ih=>
  rw [fF] at h
  by_cases h1:q<bd p n
  ·obtain ⟨j,h2,h3⟩:=ih h1;exact ⟨j,by omega,h3⟩
  by_cases h2:p n=true
  ·rw [if_pos h2] at h;exact ⟨n,by omega,h2,by omega⟩
  rw [if_neg h2] at h;omega
section
variable {l:Int} {ls:List LV}
theorem tS {p:Nat→Bool}:∀{n:Nat},(∀j,j<n→p j=true)→∀k,k≤n→bd p k=k
 |_,_,0,_=>rfl
 |n,h,k+1,hk=>by rw [fF,tS h k (by omega),if_pos (h k (by omega))]
end
end Go.Proofs.Wit
namespace Go.Proofs.Wit
open Go Go.RowKit
/-! proofs that are written line by line: lines as trees -/
theorem pZ {t:Tr}:Fit t↔bT t≠[]:=by unfold Fit;exact Cz.symm
open Classical in
noncomputable def fg (t:Tr):Tr:=if Fit (aF t) then (aN t).2 else aF t
theorem pD {t:Tr} (h:t.ok):(fg t).ok:=by
 unfold fg;split
 ·exact (lp h).2
 exact bC h
structure TL where
  t:Tr
  r:Int
  a:Nat
  b:Nat
  g:Int
def TL.v (x:TL):LV:=⟨⟨none,0,bT x.t⟩,x.r,x.a,x.b,x.g⟩
structure Sg where
  ls:List TL
  bad:Bool
def fY (σ:Sg) (n:Nat):Tr:=(σ.ls.map TL.t).getD n (.leaf 0 0 0 0)
def cz (ts:List Tr) (g:Tr):Tr:=ts.foldr aP g
theorem lD:∀{ts:List Tr} {g:Tr},(∀u∈ts,u.ok)→g.ok→(cz ts g).ok
 |[],_,_,h=>h
 |t::ts,_,h,hg=>dD (h t (List.mem_cons_self ..)) (lD (ts:=ts) (fun u hu=>h u (List.mem_cons_of_mem _ hu)) hg)
section
variable (T:Tr→Prop)
open Classical in
noncomputable def bS (t:Tr) (r:Int) (a b:Nat) (g:Int) (σ:Sg):Nat×Sg:=
 if σ.bad=true∨¬Fit t∨400≤σ.ls.length∨(r=1∧¬T t) then (0,⟨σ.ls,true⟩) else (σ.ls.length,⟨σ.ls++[⟨t,r,a,b,g⟩],false⟩)
noncomputable def lq (g:Tr):List (Nat×Tr)→Nat→Sg→Nat×Sg
 |[],n,σ=>(n,σ)
 |p::ps,n,σ=>lq g ps (bS T (cz (ps.map (·.2)) g) 10 p.1 n 0 σ).1 (bS T (cz (ps.map (·.2)) g) 10 p.1 n 0 σ).2
noncomputable def aU (g:Tr) (from_:List Nat) (σ:Sg):Nat×Sg:=
 if σ.bad=true then (0,σ) else
  lq T g (from_.map (fun n=>(n,fY σ n))) (bS T (cz (from_.map (fY σ)) g) 1 0 0 0 σ).1 (bS T (cz (from_.map (fY σ)) g) 1 0 0 0 σ).2
noncomputable def kW (i:Int) (p q:Tr) (σ:Sg):Nat×Sg:=bS T (aP (ar i (aP p q)) (aP (ar i p) (ar i q))) 2 0 0 0 σ
noncomputable def gN (i:Int) (p q:Tr) (line:Nat) (σ:Sg):Nat×Sg:=
 let n:=bS T (ar i (aP p q)) 11 line 0 i σ
 let k:=kW T i p q n.2
 bS T (aP (ar i p) (ar i q)) 10 n.1 k.1 0 k.2
noncomputable def dU (i:Int) (v:Tr) (σ:Sg):Nat×Sg:=bS T (nI (gl i v) (aF (ar i (aF v)))) 7 0 0 0 σ
noncomputable def lY (ei:Bool) (t:Tr):Tr:=if ei=true then .bin 6 0 0 0 t (fg t) else aF (jv t (fg t))
noncomputable def uT (op:Int) (a:Tr):Tr:=if op=9 then a else fg a
noncomputable def vT (op:Int) (a:Tr):Tr:=if op=9 then fg a else a
noncomputable def oJ (ei:Bool) (op:Int) (a:Tr):Tr:=if ei=true then aF (vT op a) else uT op a
noncomputable def oI (ei:Bool) (op:Int) (a:Tr):Tr:=if ei=true then uT op a else aF (vT op a)
noncomputable def pM (ei:Bool) (op i:Int) (a t:Tr) (x:Nat) (σ:Sg):Nat×Sg:=
 let l:=aU T (aP (oJ ei op a) (oI ei op a)) [x] σ
 let d:=gN T i (oJ ei op a) (oI ei op a) l.1 l.2
 let s:=dU T i (vT op a) d.2
 aU T (lY ei t) [d.1,s.1] s.2
noncomputable def aJ (ei:Bool):Tr→Sg→Nat×Sg
 |.leaf op i e g,σ=>aU T (lY ei (.leaf op i e g)) [] σ
 |.un op i e g a,σ=>if op=9∨op=10 then pM T ei op i a (.un op i e g a) (aJ ei a σ).1 (aJ ei a σ).2 else aU T (lY ei (.un op i e g a)) [] σ
 |.bin op i e g a b,σ=>aU T (lY ei (.bin op i e g a b)) [(aJ ei a σ).1,(aJ ei b (aJ ei a σ).2).1] (aJ ei b (aJ ei a σ).2).2
noncomputable def kV (i:Int) (f:Tr) (σ:Sg):Nat×Sg:=
 match f with
 |.un 10 _ _ _ z=>
  let nz:=aF (ar i (aF z))
  let s:=dU T i z σ
  let f5:=bS T (aP nz (ar i nz)) 5 0 0 0 s.2
  let bk:=aU T (aP nz f) [s.1] f5.2
  let kn:=gN T i nz f bk.1 bk.2
  aU T (aP f (ar i f)) [s.1,f5.1,kn.1] kn.2
 |_=>bS T (aP f (ar i f)) 4 0 0 0 σ
end
/-! what holds of every such writer -/
structure Sg.Le (σ σ':Sg):Prop where
  pre:σ.ls<+:σ'.ls
  ok:σ'.bad=false→σ.bad=false
theorem Sg.Le.refl (σ:Sg):σ.Le σ:=⟨List.prefix_refl _,id⟩
theorem Sg.Le.trans {σ σ' σ'':Sg} (h:σ.Le σ') (g:σ'.Le σ''):σ.Le σ'':=⟨h.pre.trans g.pre,fun e=>h.ok (g.ok e)⟩
def dq (σ:Sg) (n:Nat) (t:Tr):Prop:=σ.bad=false→n<σ.ls.length∧fY σ n=t
theorem Av {σ σ':Sg} (h:σ.Le σ') {n:Nat} (hn:n<σ.ls.length):fY σ' n=fY σ n:=by
 obtain ⟨u,hu⟩:=h.pre
 unfold fY
 rw [←hu,List.map_append]
 simp [List.getD_eq_getElem?_getD,List.getElem?_append_left (show n<(σ.ls.map TL.t).length by simpa using hn)]
theorem dq.le {σ σ':Sg} {n:Nat} {t:Tr} (h:dq σ n t) (g:σ.Le σ'):dq σ' n t:=fun e=>by
 obtain ⟨h1,h2⟩:=h (g.ok e)
 exact ⟨Nat.lt_of_lt_of_le h1 g.pre.length_le,by rw [Av g h1];exact h2⟩
section
variable {T:Tr→Prop} {t g:Tr} {r i:Int} {a b n:Nat} {σ:Sg}
theorem js (h:σ.bad=true) {gg:Int}:bS T t r a b gg σ=(0,σ):=by
 rw [bS,if_pos (.inl h),←h]
theorem df {gg:Int}:σ.Le (bS T t r a b gg σ).2:=by
 unfold bS;split
 ·exact ⟨List.prefix_refl _,fun e=>by cases e⟩
 rename_i h
 exact ⟨List.prefix_append _ _,fun _=>by
  cases hb:σ.bad with
  |false=>rfl
  |true=>exact absurd (.inl hb) h⟩
theorem bQ {gg:Int}:dq (bS T t r a b gg σ).2 (bS T t r a b gg σ).1 t:=by
 unfold bS;split
 ·intro e;cases e
 intro _;exact ⟨by simp,by simp [fY,List.getD_eq_getElem?_getD]⟩
theorem Bc {ps:List (Nat×Tr)}:∀{n:Nat} {σ:Sg},σ.Le (lq T g ps n σ).2:=by
 induction ps with
 |nil=>intro n σ;exact Sg.Le.refl _
 |cons p ps ih=>intro n σ;exact df.trans ih
theorem dc {from_:List Nat}:σ.Le (aU T g from_ σ).2:=by
 unfold aU;split
 ·exact Sg.Le.refl _
 exact df.trans Bc
theorem yI {ps:List (Nat×Tr)}:∀{n:Nat} {σ:Sg},dq σ n (cz (ps.map (·.2)) g)→dq (lq T g ps n σ).2 (lq T g ps n σ).1 g:=by
 induction ps with
 |nil=>intro n σ h;exact h
 |cons p ps ih=>intro n σ _;exact ih bQ
theorem eF {from_:List Nat}:dq (aU T g from_ σ).2 (aU T g from_ σ).1 g:=by
 unfold aU;split
 ·rename_i h;intro e;rw [h] at e;cases e
 refine yI ?_
 rw [List.map_map]
 exact bQ
theorem gD {from_:List Nat} (h:σ.bad=true):aU T g from_ σ=(0,σ):=by rw [aU,if_pos h]
theorem tF {p q:Tr}:σ.Le (kW T i p q σ).2:=df
theorem nk {p q:Tr} {l:Nat}:σ.Le (gN T i p q l σ).2:=df.trans (df.trans df)
theorem lB {p q:Tr} {l:Nat}:dq (gN T i p q l σ).2 (gN T i p q l σ).1 (aP (ar i p) (ar i q)):=bQ
theorem zo {p q:Tr} {l:Nat} (h:σ.bad=true):gN T i p q l σ=(0,σ):=by simp only [gN,kW];rw [js h];dsimp only;rw [js h];dsimp only;rw [js h]
theorem jC {v:Tr}:σ.Le (dU T i v σ).2:=df
theorem Be {ei:Bool} {op:Int} {a t:Tr} {x:Nat}:σ.Le (pM T ei op i a t x σ).2:=dc.trans (nk.trans (jC.trans dc))
theorem yK {ei:Bool} {op:Int} {a t:Tr} {x:Nat} (h:σ.bad=true):pM T ei op i a t x σ=(0,σ):=by
 simp only [pM]
 rw [gD h];dsimp only
 rw [zo h];dsimp only
 rw [dU,js h];dsimp only
 rw [gD h]
theorem yJ {ei:Bool} {op:Int} {a t:Tr} {x:Nat}:dq (pM T ei op i a t x σ).2 (pM T ei op i a t x σ).1 (lY ei t):=eF
theorem lz {ei:Bool}:∀{t:Tr} {σ:Sg},σ.bad=true→aJ T ei t σ=(0,σ)
 |.leaf op i e g,σ,h=>by rw [aJ,gD h]
 |.un op i e g a,σ,h=>by
  rw [aJ];split
  ·rw [lz (t:=a) h,yK h]
  rw [gD h]
 |.bin op i e g a b,σ,h=>by rw [aJ,lz (t:=a) h];dsimp only;rw [lz (t:=b) h];dsimp only;rw [gD h]
theorem ik {ei:Bool}:∀{t:Tr} {σ:Sg},σ.Le (aJ T ei t σ).2
 |.leaf op i e g,σ=>by rw [aJ];exact dc
 |.un op i e g a,σ=>by
  rw [aJ];split
  ·exact (ik (t:=a)).trans Be
  exact dc
 |.bin op i e g a b,σ=>by rw [aJ];exact (ik (t:=a)).trans ((ik (t:=b)).trans dc)
theorem eD {ei:Bool}:∀{t:Tr} {σ:Sg},dq (aJ T ei t σ).2 (aJ T ei t σ).1 (lY ei t)
 |.leaf op i e g,σ=>by rw [aJ];exact eF
 |.un op i e g a,σ=>by
  rw [aJ];split
  ·exact yJ
  exact eF
 |.bin op i e g a b,σ=>by rw [aJ];exact eF
theorem su {f:Tr}:σ.Le (kV T i f σ).2:=by
 unfold kV;split
 ·exact jC.trans (df.trans (dc.trans (nk.trans dc)))
 exact df
theorem qh {f:Tr}:dq (kV T i f σ).2 (kV T i f σ).1 (aP f (ar i f)):=by
 unfold kV;split
 ·exact eF
 exact bQ
end
end Go.Proofs.Wit
namespace Go.Proofs.Wit
open Go Go.RowKit
/-! what is written is right; the test by ten atoms and the tautologies agree -/
/-- no more than ten atoms -/
def af (t:Tr):Prop:=∃l:List Tr,l.Nodup∧(∀u,u∈l↔u∈kK t)∧l.length≤10
def eW (t:Tr):Prop:=t.ok∧jS (fun op _ _=>op≤11∨op=13) t
theorem eW.im {a b:Tr} (h:eW a) (g:eW b):eW (aP a b):=⟨dD h.1 g.1,.inl (by decide),h.2,g.2⟩
theorem eW.ad {a b:Tr} (h:eW a) (g:eW b):eW (jv a b):=⟨gq h.1 g.1,.inl (by decide),h.2,g.2⟩
theorem eW.or {a b:Tr} (h:eW a) (g:eW b):eW (.bin 6 0 0 0 a b):=⟨jD h.1 g.1,.inl (by decide),h.2,g.2⟩
theorem eW.if {a b:Tr} (h:eW a) (g:eW b):eW (nI a b):=⟨tI h.1 g.1,.inl (by decide),h.2,g.2⟩
theorem eW.nt {a:Tr} (h:eW a):eW (aF a):=⟨bC h.1,.inl (by decide),h.2⟩
theorem eW.kw {a:Tr} {i:Int} (hi:0≤i∧i<4) (h:eW a):eW (ar i a):=⟨bu hi h.1,.inl (by decide),h.2⟩
theorem eW.po {a:Tr} {i:Int} (hi:0≤i∧i<4) (h:eW a):eW (gl i a):=⟨hJ (.inr rfl) hi h.1,.inl (by decide),h.2⟩
theorem eW.ch:∀{ts:List Tr} {g:Tr},(∀u∈ts,eW u)→eW g→eW (cz ts g)
 |[],_,_,h=>h
 |t::ts,_,h,hg=>(h t (List.mem_cons_self ..)).im (eW.ch (ts:=ts) (fun u hu=>h u (List.mem_cons_of_mem _ hu)) hg)
def om:Tr→Prop
 |.leaf op _ _ _=>op≤3
 |.un op _ _ _ a=>(op=4∧∃i e g,a=.leaf 3 i e g)∨((op=9∨op=10)∧om a)
 |.bin op _ _ _ a b=>(op=5∨op=6)∧om a∧om b
theorem om.w5:∀{t:Tr},om t→jS (fun op _ _=>op≤11∨op=13) t
 |.leaf op _ _ _,h=>.inl (by have:op≤3:=h;omega)
 |.un op _ _ _ a,h=>by
  rcases h with ⟨h1,i,e,g,rfl⟩|⟨h1,h2⟩
  ·exact ⟨.inl (by omega),.inl (by decide)⟩
  exact ⟨.inl (by omega),h2.w5⟩
 |.bin op _ _ _ a b,h=>⟨.inl (by have:=h.1;omega),h.2.1.w5,h.2.2.w5⟩
theorem vG:∀{t:Tr},om t→t.ok→eW (aN t).2
 |.leaf op i e g,h,hok=>by
  have ho:op≤3:=h
  rw [aN];dsimp only
  split
  ·exact ⟨⟨by decide,rfl,by decide⟩,.inl (by decide)⟩
  split
  ·exact ⟨⟨by decide,rfl,by decide⟩,.inl (by decide)⟩
  exact eW.nt ⟨hok,.inl (by omega)⟩
 |.un op i e g a,h,hok=>by
  rcases h with ⟨rfl,j,e',g',rfl⟩|⟨h1,h2⟩
  ·rw [aN,if_pos rfl]
   exact ⟨(lp hok.2.2.2.2).1,.inl (by decide)⟩
  have hf:=vG h2 hok.2.2.2.2
  have hi:=(m4 hok h1).1
  rcases h1 with rfl|rfl
  ·rw [aN,if_neg (by decide),if_pos rfl];exact hf.po hi
  rw [aN,if_neg (by decide),if_neg (by decide),if_pos rfl];exact hf.kw hi
 |.bin op i e g a b,h,hok=>by
  have ha:=vG h.2.1 hok.2.2.2.1
  have hb:=vG h.2.2 hok.2.2.2.2
  rcases h.1 with rfl|rfl
  ·rw [aN,if_pos rfl];exact ha.or hb
  rw [aN,if_neg (by decide),if_pos rfl];exact ha.ad hb
theorem om.fr {t:Tr} (h:om t) (hok:t.ok):eW t:=⟨hok,h.w5⟩
theorem om.op {t:Tr} (h:om t) (hok:t.ok):eW (fg t):=by
 unfold fg;split
 ·exact vG h hok
 exact (h.fr hok).nt
theorem oM {r:Tr→Bool} {a b:Tr}:cg r (aP a b)=(!cg r a||cg r b):=rfl
theorem Hf {r:Tr→Bool} {a b:Tr}:cg r (jv a b)=(cg r a && cg r b):=rfl
theorem FU {r:Tr→Bool} {a b:Tr} {i e g:Int}:cg r (.bin 6 i e g a b)=(cg r a||cg r b):=rfl
theorem BE {r:Tr→Bool} {a b:Tr}:cg r (nI a b)=(cg r a==cg r b):=rfl
theorem qG {r:Tr→Bool} {a:Tr}:cg r (aF a)=!cg r a:=rfl
theorem uV {r:Tr→Bool}:∀{ts:List Tr} {g:Tr},cg r (cz ts g)=true↔((∀u∈ts,cg r u=true)→cg r g=true)
 |[],g=>by simp [cz]
 |t::ts,g=>by
  show cg r (aP t (cz ts g))=true↔_
  rw [oM,Bool.or_eq_true,uV]
  cases ht:cg r t with
  |false=>simp [ht]
  |true=>simp [ht]
def HU (l:Int) (σ:Sg) (t:Tr) (r:Int) (a b:Nat) (g:Int):Prop:=
 eW t∧ct l r=true∧((r=1∧a=0∧b=0∧g=0∧∀v,cg v t=true)∨(2≤r∧r<10∧a=0∧b=0∧g=0∧oF r t)∨(r=10∧g=0∧∃A,dq σ a A∧dq σ b (aP A t))∨(r=11∧b=0∧(0≤g∧g<4)∧∃A,dq σ a A∧t=ar g A))
structure Good (l:Int) (σ:Sg):Prop where
  len:σ.ls.length≤400
  tok:∀(k:Nat) (hk:k<σ.ls.length),σ.ls[k].t.ok
  ok:∀(k:Nat) (hk:k<(σ.ls.map TL.v).length),dR l (σ.ls.map TL.v) k (σ.ls.map TL.v)[k]=0
structure sG (l:Int) (P:(Tr→Prop)→Sg→Nat×Sg) (σ:Sg):Prop where
  same:P af σ=P lJ σ
  dL:Good l (P af σ).2
theorem wV {l:Int} {ls:List LV} {i:Nat} {x:LV} (us:List LV) (hi:i≤ls.length) (h:dR l ls i x=0):dR l (ls++us) i x=0:=by
 rw [mo] at h⊢
 obtain ⟨h1,h2,h3,h4,h5⟩:=h
 refine ⟨h1,h2,h3,h4,?_⟩
 have hp:=lk h2.1 h2.2
 obtain ⟨n1,n2,_⟩:=qV h3
 have hget:∀k:Int,0≤k→k<i→rV (ls++us) k=rV ls k:=fun k h0 hk=>by
  unfold rV
  rw [List.map_append]
  simp only [List.getD_eq_getElem?_getD]
  rw [List.getElem?_append_left (by rw [List.length_map];omega)]
 unfold jT at h5⊢
 split at h5
 ·rename_i e
  rw [if_pos e]
  have ha:=jI n1 (by omega)
  have hb:=jI n2 (by omega)
  rw [hget _ hb.1 hb.2,hget _ ha.1 ha.2];exact h5
 rename_i e
 rw [if_neg e]
 split at h5
 ·rename_i e1
  rw [if_pos e1,hget _ (jI n1 (by omega)).1 (jI n1 (by omega)).2];exact h5
 rename_i e1
 rw [if_neg e1]
 split at h5
 ·rename_i e2
  rw [if_pos e2,hget _ (jI n1 (by omega)).1 (jI n1 (by omega)).2];exact h5
 rename_i e2
 rw [if_neg e2];exact h5
theorem oR {t:Tr} (h:t.ok) (hf:Fit t):bj (bT t)=t:=(Cf.Ab h (pZ.1 hf)).top
theorem zc {t:Tr} (h:eW t) (hf:Fit t):gm (bT t)=0:=pX.2 ⟨(Cf.Ab h.1 (pZ.1 hf)).jH,by rw [oR h.1 hf];exact h.2⟩
section
variable {l:Int} {σ:Sg}
theorem Good.line (h:Good l σ) {k:Nat} (hk:k<σ.ls.length):eW σ.ls[k].t∧Fit σ.ls[k].t:=by
 have h1:=h.ok k (by simpa using hk)
 have h2:gm (bT σ.ls[k].t)=0:=by
  have:=(mo.1 h1).1
  simpa [TL.v] using this
 have hc:=pX.1 h2
 have hne:bT σ.ls[k].t≠[]:=fun e=>by rw [e] at h2;exact absurd h2 (by decide)
 have hfit:=pZ.2 hne
 refine ⟨?_,hfit⟩
 have htop:bj (bT σ.ls[k].t)=σ.ls[k].t:=oR (h.tok k hk) hfit
 exact ⟨h.tok k hk,by rw [←htop];exact hc.2⟩
theorem vp {k:Nat} (hk:k<σ.ls.length):fY σ k=σ.ls[k].t:=by simp [fY,List.getD_eq_getElem?_getD,hk]
theorem Good.has (h:Good l σ) (hb:σ.bad=false) {n:Nat} {t:Tr} (ht:dq σ n t):eW t∧Fit t:=by
 obtain ⟨h1,h2⟩:=ht hb
 rw [←h2,vp h1];exact h.line h1
theorem uH (h:Good l σ) {k:Nat} (hk:k<σ.ls.length) {us:List LV}:rV (σ.ls.map TL.v++us) (k:Int)=fY σ k:=by
 rw [m8 (k:=k) (by simp;omega) rfl,List.getElem_append_left (by simpa using hk),vp hk]
 simp only [List.getElem_map,TL.v]
 exact oR (h.line hk).1.1 (h.line hk).2
theorem Bz {ls:List LV} {x:LV} {t:Tr} (ht:bj x.f.f=t) (h:(x.r=10∧rV ls x.b=aP (rV ls x.a) t)∨(x.r=11∧t=ar x.g (rV ls x.a))∨(x.r<10∧oF x.r t)):jT ls x:=by
 subst ht
 unfold jT
 rcases h with ⟨h1,h2⟩|⟨h1,h2⟩|⟨h1,h2⟩
 ·rw [if_pos h1];exact h2
 ·rw [if_neg (by omega),if_pos h1];exact h2
 rw [if_neg (by omega),if_neg (by omega),if_neg (by omega)];exact h2
theorem gH {t:Tr} {r g:Int} {a b:Nat} (h:Good l σ) (ha:σ.bad=false→Fit t→HU l σ t r a b g):sG l (fun T=>bS T t r a b g) σ:=by
 have hsame:bS af t r a b g σ=bS lJ t r a b g σ:=by
  cases hb:σ.bad with
  |true=>rw [js hb,js hb]
  |false=>
   by_cases hf:Fit t
   ·obtain ⟨_,_,hc⟩:=ha hb hf
    by_cases hr:r=1
    ·have:af t=lJ t:=by
      rcases hc with ⟨h1,_,_,_,h2⟩|⟨h1,_⟩|⟨h1,_⟩|⟨h1,_⟩
      ·exact propext ⟨fun h=>⟨h,h2⟩,fun h=>h.1⟩
      all_goals omega
     unfold bS;rw [this]
    have e:∀T:Tr→Prop,(σ.bad=true∨¬Fit t∨400≤σ.ls.length∨(r=1∧¬T t))↔(400≤σ.ls.length):=fun T=>
     ⟨fun h=>by
      rcases h with h|h|h|h
      ·rw [hb] at h;cases h
      ·exact absurd hf h
      ·exact h
      exact absurd h.1 hr,fun h=>.inr (.inr (.inl h))⟩
    unfold bS
    by_cases h4:400≤σ.ls.length
    ·rw [if_pos ((e _).2 h4),if_pos ((e _).2 h4)]
    rw [if_neg (fun h=>h4 ((e _).1 h)),if_neg (fun h=>h4 ((e _).1 h))]
   unfold bS;rw [if_pos (.inr (.inl hf)),if_pos (.inr (.inl hf))]
 refine ⟨hsame,?_⟩
 unfold bS
 split
 ·exact ⟨h.len,h.tok,h.ok⟩
 rename_i hn
 have hb:σ.bad=false:=by
  cases e:σ.bad with
  |false=>rfl
  |true=>exact absurd (.inl e) hn
 have hf:Fit t:=Classical.byContradiction fun e=>hn (.inr (.inl e))
 have hlen:σ.ls.length<400:=by
  have:¬400≤σ.ls.length:=fun e=>hn (.inr (.inr (.inl e)))
  omega
 have hT:r=1→af t:=fun e=>Classical.byContradiction fun e'=>hn (.inr (.inr (.inr ⟨e,e'⟩)))
 obtain ⟨hfr,hl,hc⟩:=ha hb hf
 refine ⟨by simp;omega,fun k hk=>?_,fun k hk=>?_⟩
 ·by_cases hkl:k<σ.ls.length
  ·rw [List.getElem_append_left hkl];exact h.tok k hkl
  ·rw [List.getElem_append_right (by omega)]
   simp only [List.length_append,List.length_cons,List.length_nil] at hk
   have:k - σ.ls.length=0:=by omega
   simp only [this,List.getElem_cons_zero];exact hfr.1
 simp only [List.map_append,List.map_cons,List.map_nil] at hk⊢
 simp only [List.length_append,List.length_map,List.length_cons,List.length_nil] at hk
 by_cases hkl:k<σ.ls.length
 ·rw [List.getElem_append_left (by simpa using hkl)]
  exact wV _ (by simp;omega) (h.ok k (by simpa using hkl))
 have hke:k=σ.ls.length:=by omega
 subst hke
 rw [List.getElem_append_right (by simp)]
 simp only [List.length_map,Nat.sub_self,List.getElem_cons_zero]
 have htop:bj (TL.v ⟨t,r,a,b,g⟩).f.f=t:=oR hfr.1 hf
 rw [mo]
 refine ⟨zc hfr hf,?_,?_,hl,?_⟩
 ·show 1≤r∧r≤12
  rcases hc with ⟨h1,_⟩|⟨h1,h2,_⟩|⟨h1,_⟩|⟨h1,_⟩<;>omega
 ·rw [qD (by show 1≤r;rcases hc with ⟨h1,_⟩|⟨h1,h2,_⟩|⟨h1,_⟩|⟨h1,_⟩<;>omega) (by show r≤12;rcases hc with ⟨h1,_⟩|⟨h1,h2,_⟩|⟨h1,_⟩|⟨h1,_⟩<;>omega)]
  unfold pG pF
  simp only [TL.v]
  rcases hc with ⟨h1,h2,h3,h4,_⟩|⟨h1,h2,h3,h4,h5,_⟩|⟨h1,h2,A,hA,hB⟩|⟨h1,h2,h3,A,hA,_⟩
  ·subst h2 h3 h4 h1;omega
  ·subst h3 h4 h5;omega
  ·have:=(hA hb).1;have:=(hB hb).1;omega
  have:=(hA hb).1;omega
 refine Bz htop ?_
 rcases hc with ⟨h1,h2,h3,h4,h5⟩|⟨h1,h2,h3,h4,h5,h6⟩|⟨h1,h2,A,hA,hB⟩|⟨h1,h2,h3,A,hA,h4⟩
 ·refine .inr (.inr ⟨show r<10 by omega,?_⟩)
  show oF r t
  rw [h1];exact ⟨hT h1,h5⟩
 ·exact .inr (.inr ⟨h2,h6⟩)
 ·refine .inl ⟨h1,?_⟩
  show rV _ (b:Int)=aP (rV _ (a:Int)) t
  rw [uH h (hA hb).1,uH h (hB hb).1,(hA hb).2,(hB hb).2]
 refine .inr (.inl ⟨h1,?_⟩)
 show t=ar g (rV _ (a:Int))
 rw [uH h (hA hb).1,(hA hb).2];exact h4
theorem vK {g:Tr} (hg:eW g):∀{ps:List (Nat×Tr)} {n:Nat} {σ:Sg},Good l σ→ct l 10=true→(∀p∈ps,dq σ p.1 p.2)→dq σ n (cz (ps.map (·.2)) g)→sG l (fun T=>lq T g ps n) σ
 |[],n,σ,h,_,_,_=>⟨rfl,h⟩
 |p::ps,n,σ,h,h10,hps,hn=>by
  have hadm:σ.bad=false→Fit (cz (ps.map (·.2)) g)→HU l σ (cz (ps.map (·.2)) g) 10 p.1 n 0:=fun hb _=>
   ⟨eW.ch (fun u hu=>by
    obtain ⟨q,hq,rfl⟩:=List.mem_map.1 hu
    exact (h.has hb (hps q (List.mem_cons_of_mem _ hq))).1) hg,h10,.inr (.inr (.inl ⟨rfl,rfl,p.2,hps p (List.mem_cons_self ..),hn⟩))⟩
  have h1:=gH h hadm
  have h2:=vK hg (ps:=ps) (n:=(bS af (cz (ps.map (·.2)) g) 10 p.1 n 0 σ).1) h1.dL h10 (fun q hq=>(hps q (List.mem_cons_of_mem _ hq)).le df) bQ
  refine ⟨?_,h2.dL⟩
  show lq af g ps _ _=lq lJ g ps _ _
  have e:=h1.same
  rw [←e]
  exact h2.same
theorem D0 (l:Int) {r:Int} (h:r=1∨r=2∨r=7∨r=10∨r=11):ct l r=true:=by
 unfold ct;rw [if_neg (by omega),if_neg (by omega),if_neg (by omega),if_neg (by omega)]
theorem dX {g:Tr} {from_:List Nat} (h:Good l σ) (hg:eW g) (hf:σ.bad=false→∀n∈from_,n<σ.ls.length) (ht:σ.bad=false→Fit g→∀v,(∀n∈from_,cg v (fY σ n)=true)→cg v g=true):sG l (fun T=>aU T g from_) σ:=by
 cases hb:σ.bad with
 |true=>exact ⟨by rw [gD hb,gD hb],by rw [gD hb];exact h⟩
 |false=>
  have hhas:∀n∈from_,dq σ n (fY σ n):=fun n hn=>fun _=>⟨hf hb n hn,rfl⟩
  have hfit:∀ts:List Tr,Fit (cz ts g)→Fit g:=fun ts=>by
   induction ts with
   |nil=>exact id
   |cons t ts ih=>exact fun h=>ih (Fit.r h)
  have hadm:σ.bad=false→Fit (cz (from_.map (fY σ)) g)→HU l σ (cz (from_.map (fY σ)) g) 1 0 0 0:=fun _ hft=>
   ⟨eW.ch (fun u hu=>by
    obtain ⟨q,hq,rfl⟩:=List.mem_map.1 hu
    exact (h.has hb (hhas q hq)).1) hg,D0 l (.inl rfl),.inl ⟨rfl,rfl,rfl,rfl,fun v=>uV.2 fun hall=>ht hb (hfit _ hft) v (fun n hn=>hall _ (List.mem_map_of_mem hn))⟩⟩
  have h1:=gH h hadm
  have h2:=vK hg (ps:=from_.map (fun n=>(n,fY σ n))) (n:=(bS af (cz (from_.map (fY σ)) g) 1 0 0 0 σ).1) h1.dL (D0 l (by omega)) (fun q hq=>by
   obtain ⟨n,hn,rfl⟩:=List.mem_map.1 hq
   exact (hhas n hn).le df) (by rw [List.map_map];exact bQ)
  have e:=h1.same
  have e2:=h2.same
  have g2:=h2.dL
  constructor
  ·unfold aU
   rw [if_neg (by rw [hb];decide),if_neg (by rw [hb];decide),←e]
   exact e2
  unfold aU
  rw [if_neg (by rw [hb];decide)]
  exact g2
theorem Cr {i:Int} {p q:Tr} (hi:0≤i∧i<4) (h:Good l σ) (hp:eW p) (hq:eW q):sG l (fun T=>kW T i p q) σ:=
 gH h (fun _ _=>⟨(hp.im hq|>.kw hi).im ((hp.kw hi).im (hq.kw hi)),D0 l (by omega),.inr (.inl ⟨by decide,by decide,rfl,rfl,rfl,⟨i,p,q,rfl⟩⟩)⟩)
theorem rO {i:Int} {v:Tr} (hi:0≤i∧i<4) (h:Good l σ) (hv:eW v):sG l (fun T=>dU T i v) σ:=
 gH h (fun _ _=>⟨(hv.po hi).if (hv.nt.kw hi).nt,D0 l (by omega),.inr (.inl ⟨by decide,by decide,rfl,rfl,rfl,⟨i,v,rfl⟩⟩)⟩)
theorem vY {i:Int} {p q:Tr} {n:Nat} (hi:0≤i∧i<4) (h:Good l σ) (hp:eW p) (hq:eW q) (hn:dq σ n (aP p q)):sG l (fun T=>gN T i p q n) σ:=by
 have h1:sG l (fun T=>bS T (ar i (aP p q)) 11 n 0 i) σ:=gH h (fun _ _=>⟨(hp.im hq).kw hi,D0 l (by omega),.inr (.inr (.inr ⟨rfl,rfl,hi,_,hn,rfl⟩))⟩)
 have h2:=Cr (i:=i) (p:=p) (q:=q) hi h1.dL hp hq
 have a1:dq _ _ (ar i (aP p q)):=bQ (T:=af) (σ:=σ) (t:=ar i (aP p q)) (r:=11) (a:=n) (b:=0) (gg:=i)
 have a2:dq _ _ (aP (ar i (aP p q)) (aP (ar i p) (ar i q))):=bQ (T:=af) (σ:=(bS af (ar i (aP p q)) 11 n 0 i σ).2) (t:=aP (ar i (aP p q)) (aP (ar i p) (ar i q))) (r:=2) (a:=0) (b:=0) (gg:=0)
 have h3:=gH (t:=aP (ar i p) (ar i q)) (r:=10) (a:=(bS af (ar i (aP p q)) 11 n 0 i σ).1) (b:=(kW af i p q (bS af (ar i (aP p q)) 11 n 0 i σ).2).1) (g:=0) h2.dL (fun _ _=>⟨(hp.kw hi).im (hq.kw hi),D0 l (by omega),.inr (.inr (.inl ⟨rfl,rfl,_,a1.le tF,a2⟩))⟩)
 have e1:=h1.same;have e2:=h2.same;have e3:=h3.same
 constructor
 ·simp only [gN]
  rw [←e1,←e2];exact e3
 exact h3.dL
end
end Go.Proofs.Wit
namespace Go.Proofs.Wit
open Go Go.RowKit
/-! contraries, alternatives, carried formulas: the lines are right -/
theorem oV {t:Tr} (h:Fit (fg t)):Fit (aF t)∧fg t=(aN t).2:=by
 unfold fg at*
 split at h
 ·rename_i hf;rw [if_pos hf];exact ⟨hf,rfl⟩
 rename_i hf;exact absurd h hf
theorem uS {t c:Tr} (h:Fit (aF t)) (hc:c∈kids t):Fit (aF c):=by
 have h1:=jl hc
 have h2:(cd (aF t)).length=(cd t).length+1:=sy
 have h3:(cd (aF c)).length=(cd c).length+1:=sy
 unfold Fit at*;omega
theorem pE {t:Tr} (h:Fit (aF t)):fg t=(aN t).2:=if_pos h
theorem sq {ei:Bool} {t:Tr} (h:Fit (lY ei t)):Fit (fg t):=by
 unfold lY at h
 split at h
 ·exact Fit.r h
 exact Fit.r (Fit.u h)
theorem oB {ei:Bool} {t:Tr} {v:Tr→Bool}:cg v (lY ei t)=if ei=true then (cg v t||cg v (fg t)) else !(cg v t && cg v (fg t)):=by
 unfold lY
 split<;>rfl
theorem zy {ei:Bool} {t:Tr} {v:Tr→Bool} (h:cg v (fg t)=!cg v t):cg v (lY ei t)=true:=by
 rw [oB,h];cases cg v t<;>cases ei<;>rfl
theorem v5 {ei:Bool} {t:Tr} (h:om t) (hok:t.ok):eW (lY ei t):=by
 unfold lY;split
 ·exact (h.fr hok).or (h.op hok)
 exact ((h.fr hok).ad (h.op hok)).nt
theorem yH {op i e g:Int} {v:Tr→Bool} (h:op≤3) (h1:1≤op):cg v (aN (.leaf op i e g)).2=!cg v (.leaf op i e g):=by
 rw [aN];dsimp only
 rcases (by omega:op=1∨op=2∨op=3) with rfl|rfl|rfl
 ·rw [if_pos rfl];rfl
 ·rw [if_neg (by decide),if_pos rfl];rfl
 rw [if_neg (by decide),if_neg (by decide)];rfl
section
variable {l:Int} {σ:Sg}
theorem Bd {ei:Bool} {op i e g:Int} {a:Tr} {x:Nat} (ho:op=9∨op=10) (ha:om a) (hok:(Tr.un op i e g a).ok) (h:Good l σ) (hx:dq σ x (lY ei a)):sG l (fun T=>pM T ei op i a (.un op i e g a) x) σ:=by
 obtain ⟨hi,rfl,rfl⟩:=m4 hok ho
 have hao:a.ok:=hok.2.2.2.2
 have fa:=ha.fr hao
 have fo:=ha.op hao
 have fu:eW (uT op a):=by unfold uT;split<;>assumption
 have fv:eW (vT op a):=by unfold vT;split<;>assumption
 have fp:eW (oJ ei op a):=by
  unfold oJ;split
  ·exact fv.nt
  exact fu
 have fq:eW (oI ei op a):=by
  unfold oI;split
  ·exact fu
  exact fv.nt
 have h1:sG l (fun T=>aU T (aP (oJ ei op a) (oI ei op a)) [x]) σ:=dX h (fp.im fq) (fun hb n hn=>by rw [List.mem_singleton.1 hn];exact (hx hb).1) (fun hb hf v hv=>by
  have h2:=hv x (List.mem_singleton.2 rfl)
  rw [(hx hb).2,oB] at h2
  rw [oM]
  unfold oJ oI uT vT
  rcases ho with rfl|rfl
  ·simp only [if_true]
   cases ei
   ·simp only [Bool.false_eq_true,if_false,qG] at h2⊢
    cases e1:cg v a<;>cases e2:cg v (fg a)<;>simp_all
   simp only [if_true,qG] at h2⊢
   cases e1:cg v a<;>cases e2:cg v (fg a)<;>simp_all
  simp only [show ¬(10:Int)=9 from by decide,if_false]
  cases ei
  ·simp only [Bool.false_eq_true,if_false,qG] at h2⊢
   cases e1:cg v a<;>cases e2:cg v (fg a)<;>simp_all
  simp only [if_true,qG] at h2⊢
  cases e1:cg v a<;>cases e2:cg v (fg a)<;>simp_all)
 have h2:=vY (i:=i) (p:=oJ ei op a) (q:=oI ei op a) (n:=(aU af (aP (oJ ei op a) (oI ei op a)) [x] σ).1) hi h1.dL fp fq eF
 have h3:=rO (i:=i) (v:=vT op a) hi h2.dL fv
 have k1:dq _ _ (aP (ar i (oJ ei op a)) (ar i (oI ei op a))):=lB (T:=af) (i:=i) (p:=oJ ei op a) (q:=oI ei op a) (l:=(aU af (aP (oJ ei op a) (oI ei op a)) [x] σ).1) (σ:=(aU af (aP (oJ ei op a) (oI ei op a)) [x] σ).2)
 have k2:dq _ _ (nI (gl i (vT op a)) (aF (ar i (aF (vT op a))))):=bQ (T:=af) (t:=nI (gl i (vT op a)) (aF (ar i (aF (vT op a))))) (r:=7) (a:=0) (b:=0) (gg:=0) (σ:=(gN af i (oJ ei op a) (oI ei op a) (aU af (aP (oJ ei op a) (oI ei op a)) [x] σ).1 (aU af (aP (oJ ei op a) (oI ei op a)) [x] σ).2).2)
 have k1':=k1.le (jC (T:=af) (i:=i) (v:=vT op a))
 have hnf:om (.un op i 0 0 a):=.inr ⟨ho,ha⟩
 have h4:=dX (g:=lY ei (.un op i 0 0 a)) (from_:=[(gN af i (oJ ei op a) (oI ei op a) (aU af (aP (oJ ei op a) (oI ei op a)) [x] σ).1 (aU af (aP (oJ ei op a) (oI ei op a)) [x] σ).2).1,(dU af i (vT op a) (gN af i (oJ ei op a) (oI ei op a) (aU af (aP (oJ ei op a) (oI ei op a)) [x] σ).1 (aU af (aP (oJ ei op a) (oI ei op a)) [x] σ).2).2).1]) h3.dL (v5 hnf hok) (fun hb n hn=>by
   simp only [List.mem_cons,List.not_mem_nil,or_false] at hn
   rcases hn with rfl|rfl
   ·exact (k1' hb).1
   exact (k2 hb).1) (fun hb hf v hv=>by
  have e1:=hv _ (List.mem_cons_self ..)
  have e2:=hv _ (List.mem_cons_of_mem _ (List.mem_cons_self ..))
  have g1:=(k1' hb).2
  have g2:=(k2 hb).2
  rw [g1] at e1
  have e2:cg v (nI (gl i (vT op a)) (aF (ar i (aF (vT op a)))))=true:=g2 ▸ e2
  obtain ⟨f1,f2⟩:=oV (sq hf)
  have f3:fg a=(aN a).2:=pE (uS f1 (List.mem_cons_self ..))
  rw [oB,f2]
  rw [oM] at e1
  rw [BE,qG] at e2
  rcases ho with rfl|rfl
  ·have f4:(aN (.un 9 i 0 0 a)).2=gl i (fg a):=by rw [aN,if_neg (by decide),if_pos rfl,f3]
   rw [f4]
   have u1:uT 9 a=a:=if_pos rfl
   have u2:vT 9 a=fg a:=if_pos rfl
   unfold oJ oI at e1
   rw [u2] at e2
   rw [u1,u2] at e1
   cases ei
   ·simp only [Bool.false_eq_true,if_false] at e1⊢
    cases x1:cg v (.un 9 i 0 0 a)<;>cases x2:cg v (gl i (fg a))<;>cases x3:cg v (ar i (aF (fg a)))<;>simp_all
   simp only [if_true] at e1⊢
   cases x1:cg v (.un 9 i 0 0 a)<;>cases x2:cg v (gl i (fg a))<;>cases x3:cg v (ar i (aF (fg a)))<;>simp_all
  have f4:(aN (.un 10 i 0 0 a)).2=ar i (fg a):=by rw [aN,if_neg (by decide),if_neg (by decide),if_pos rfl,f3]
  rw [f4]
  have u1:uT 10 a=fg a:=if_neg (by decide)
  have u2:vT 10 a=a:=if_neg (by decide)
  unfold oJ oI at e1
  rw [u2] at e2
  rw [u1,u2] at e1
  cases ei
  ·simp only [Bool.false_eq_true,if_false] at e1⊢
   cases x1:cg v (.un 10 i 0 0 a)<;>cases x2:cg v (ar i (fg a))<;>cases x3:cg v (ar i (aF a))<;>simp_all
  simp only [if_true] at e1⊢
  cases x1:cg v (.un 10 i 0 0 a)<;>cases x2:cg v (ar i (fg a))<;>cases x3:cg v (ar i (aF a))<;>simp_all)
 have s1:=h1.same;have s2:=h2.same;have s3:=h3.same;have s4:=h4.same
 constructor
 ·simp only [pM]
  rw [←s1,←s2,←s3];exact s4
 exact h4.dL
theorem lS {ei:Bool}:∀{t:Tr},om t→t.ok→∀{σ:Sg},Good l σ→sG l (fun T=>aJ T ei t) σ
 |.leaf op i e g,hn,hok,σ,h=>by
  have h1:sG l (fun T=>aU T (lY ei (.leaf op i e g)) []) σ:=dX h (v5 hn hok) (fun _ n hn=>by cases hn) (fun _ hf v _=>zy (by
   rw [(oV (sq hf)).2];exact yH hn hok.1.1))
  exact ⟨by simp only [aJ];exact h1.same,by simp only [aJ];exact h1.dL⟩
 |.un op i e g a,hn,hok,σ,h=>by
  by_cases ho:op=9∨op=10
  ·have ha:om a:=by
    rcases hn with ⟨h1,_⟩|⟨_,h1⟩
    ·omega
    exact h1
   have h1:=lS (ei:=ei) ha hok.2.2.2.2 h
   have h2:=Bd (ei:=ei) (i:=i) (e:=e) (g:=g) (x:=(aJ af ei a σ).1) ho ha hok h1.dL eD
   have s1:=h1.same;have s2:=h2.same
   constructor
   ·simp only [aJ]
    rw [if_pos ho,if_pos ho,←s1];exact s2
   simp only [aJ]
   rw [if_pos ho];exact h2.dL
  have h1:sG l (fun T=>aU T (lY ei (.un op i e g a)) []) σ:=dX h (v5 hn hok) (fun _ n hn=>by cases hn) (fun _ hf v _=>zy (by
   rw [(oV (sq hf)).2]
   rcases hn with ⟨rfl,j,e',g',rfl⟩|⟨h1,_⟩
   ·rw [aN,if_pos rfl,aN]
    show _=!(!_)
    rw [Bool.not_not]
   exact absurd h1 ho))
  exact ⟨by simp only [aJ];rw [if_neg ho,if_neg ho];exact h1.same,by simp only [aJ];rw [if_neg ho];exact h1.dL⟩
 |.bin op i e g a b,hn,hok,σ,h=>by
  have h1:=lS (ei:=ei) hn.2.1 hok.2.2.2.1 h
  have h2:=lS (ei:=ei) hn.2.2 hok.2.2.2.2 h1.dL
  have k1:dq _ _ (lY ei a):=eD (T:=af) (ei:=ei) (t:=a) (σ:=σ)
  have k2:dq _ _ (lY ei b):=eD (T:=af) (ei:=ei) (t:=b) (σ:=(aJ af ei a σ).2)
  have k1':=k1.le (ik (T:=af) (ei:=ei) (t:=b))
  have h3:=dX (g:=lY ei (.bin op i e g a b)) (from_:=[(aJ af ei a σ).1,(aJ af ei b (aJ af ei a σ).2).1]) h2.dL (v5 hn hok) (fun hb n hn=>by
   simp only [List.mem_cons,List.not_mem_nil,or_false] at hn
   rcases hn with rfl|rfl
   ·exact (k1' hb).1
   exact (k2 hb).1) (fun hb hf v hv=>by
   have e1:=hv _ (List.mem_cons_self ..)
   have e2:=hv _ (List.mem_cons_of_mem _ (List.mem_cons_self ..))
   rw [(k1' hb).2,oB] at e1
   rw [(k2 hb).2,oB] at e2
   obtain ⟨f1,f2⟩:=oV (sq hf)
   have fa:fg a=(aN a).2:=pE (uS f1 (List.mem_cons_self ..))
   have fb:fg b=(aN b).2:=pE (uS f1 (List.mem_cons_of_mem _ (List.mem_cons_self ..)))
   rw [oB,f2]
   rcases hn.1 with rfl|rfl
   ·have f4:(aN (.bin 5 i e g a b)).2=.bin 6 0 0 0 (fg a) (fg b):=by rw [aN,if_pos rfl,fa,fb]
    have f5:cg v (.bin 5 i e g a b)=(cg v a && cg v b):=rfl
    rw [f4,FU,f5]
    cases ei<;>cases x1:cg v a<;>cases x2:cg v b<;>cases x3:cg v (fg a)<;>cases x4:cg v (fg b)<;>simp_all
   have f4:(aN (.bin 6 i e g a b)).2=jv (fg a) (fg b):=by rw [aN,if_neg (by decide),if_pos rfl,fa,fb]
   rw [f4,FU,Hf]
   cases ei<;>cases x1:cg v a<;>cases x2:cg v b<;>cases x3:cg v (fg a)<;>cases x4:cg v (fg b)<;>simp_all)
  have s1:=h1.same;have s2:=h2.same;have s3:=h3.same
  constructor
  ·simp only [aJ]
   rw [←s1,←s2];exact s3
  simp only [aJ];exact h3.dL
theorem BU {i:Int} {f z:Tr} (hi:0≤i∧i<4) (hz:eW z) (hf:(f=ar i z∧ct l 4=true)∨(f=gl i z∧ct l 5=true)) (h:Good l σ):sG l (fun T=>kV T i f) σ:=by
 rcases hf with ⟨rfl,h4⟩|⟨rfl,h5⟩
 ·exact gH h (fun _ _=>⟨(hz.kw hi).im ((hz.kw hi).kw hi),h4,.inr (.inl ⟨by decide,by decide,rfl,rfl,rfl,⟨i,z,rfl⟩⟩)⟩)
 have fnz:eW (aF (ar i (aF z))):=(hz.nt.kw hi).nt
 have h1:=rO (i:=i) (v:=z) hi h hz
 have k1:dq _ _ (nI (gl i z) (aF (ar i (aF z)))):=bQ (T:=af) (t:=nI (gl i z) (aF (ar i (aF z)))) (r:=7) (a:=0) (b:=0) (gg:=0) (σ:=σ)
 have h2:=gH (t:=aP (aF (ar i (aF z))) (ar i (aF (ar i (aF z))))) (r:=5) (a:=0) (b:=0) (g:=0) h1.dL (fun _ _=>⟨fnz.im (fnz.kw hi),h5,.inr (.inl ⟨by decide,by decide,rfl,rfl,rfl,⟨i,aF z,rfl⟩⟩)⟩)
 have k2:=bQ (T:=af) (t:=aP (aF (ar i (aF z))) (ar i (aF (ar i (aF z))))) (r:=5) (a:=0) (b:=0) (gg:=0) (σ:=(dU af i z σ).2)
 obtain ⟨σ1,e1⟩:∃s,s=dU af i z σ:=⟨_,rfl⟩
 obtain ⟨σ2,e2⟩:∃s,s=bS af (aP (aF (ar i (aF z))) (ar i (aF (ar i (aF z))))) 5 0 0 0 σ1.2:=⟨_,rfl⟩
 have k1a:dq σ1.2 σ1.1 (nI (gl i z) (aF (ar i (aF z)))):=by rw [e1];exact k1
 have g1:Good l σ1.2:=by rw [e1];exact h1.dL
 have le2:σ1.2.Le σ2.2:=by rw [e2];exact df
 have k2a:dq σ2.2 σ2.1 (aP (aF (ar i (aF z))) (ar i (aF (ar i (aF z))))):=by rw [e2,e1];exact k2
 have g2:Good l σ2.2:=by rw [e2,e1];exact h2.dL
 have h3:=dX (g:=aP (aF (ar i (aF z))) (gl i z)) (from_:=[σ1.1]) g2 (fnz.im (hz.po hi)) (fun hb n hn=>by rw [List.mem_singleton.1 hn];exact ((k1a.le le2) hb).1) (fun hb _ v hv=>by
  have q:=hv _ (List.mem_singleton.2 rfl)
  rw [((k1a.le le2) hb).2,BE] at q
  rw [oM]
  cases x1:cg v (gl i z)<;>cases x2:cg v (aF (ar i (aF z)))<;>simp_all)
 obtain ⟨σ3,e3⟩:∃s,s=aU af (aP (aF (ar i (aF z))) (gl i z)) [σ1.1] σ2.2:=⟨_,rfl⟩
 have le3:σ2.2.Le σ3.2:=by rw [e3];exact dc
 have g3:Good l σ3.2:=by rw [e3];exact h3.dL
 have k3:dq σ3.2 σ3.1 (aP (aF (ar i (aF z))) (gl i z)):=by rw [e3];exact eF
 have h4:=vY (i:=i) (p:=aF (ar i (aF z))) (q:=gl i z) (n:=σ3.1) hi g3 fnz (hz.po hi) k3
 obtain ⟨σ4,e4⟩:∃s,s=gN af i (aF (ar i (aF z))) (gl i z) σ3.1 σ3.2:=⟨_,rfl⟩
 have le4:σ3.2.Le σ4.2:=by rw [e4];exact nk
 have g4:Good l σ4.2:=by rw [e4];exact h4.dL
 have k4:dq σ4.2 σ4.1 (aP (ar i (aF (ar i (aF z)))) (ar i (gl i z))):=by rw [e4];exact lB
 have k1b:=k1a.le (le2.trans (le3.trans le4))
 have k2b:=k2a.le (le3.trans le4)
 have h5':=dX (g:=aP (gl i z) (ar i (gl i z))) (from_:=[σ1.1,σ2.1,σ4.1]) g4 ((hz.po hi).im ((hz.po hi).kw hi)) (fun hb n hn=>by
  simp only [List.mem_cons,List.not_mem_nil,or_false] at hn
  rcases hn with rfl|rfl|rfl
  ·exact (k1b hb).1
  ·exact (k2b hb).1
  exact (k4 hb).1) (fun hb _ v hv=>by
  have q1:=hv _ (List.mem_cons_self ..)
  have q2:=hv _ (List.mem_cons_of_mem _ (List.mem_cons_self ..))
  have q3:=hv _ (List.mem_cons_of_mem _ (List.mem_cons_of_mem _ (List.mem_cons_self ..)))
  rw [(k1b hb).2,BE] at q1
  rw [(k2b hb).2,oM] at q2
  rw [(k4 hb).2,oM] at q3
  rw [oM]
  cases x1:cg v (gl i z)<;>cases x2:cg v (aF (ar i (aF z)))<;>cases x3:cg v (ar i (aF (ar i (aF z))))<;>cases x4:cg v (ar i (gl i z))<;>simp_all)
 have s1:=h1.same;have s2:=h2.same;have s3:=h3.same;have s4:=h4.same;have s5:=h5'.same
 rw [←e1] at s1 s2
 rw [←e2] at s2
 rw [←e3] at s3
 rw [←e4] at s4
 constructor
 ·simp only [kV]
  rw [←s1,←e1,←s2,←e2,←s3,←e3,←s4,←e4];exact s5
 simp only [kV]
 rw [←e1,←e2,←e3,←e4];exact h5'.dL
end
end Go.Proofs.Wit
namespace Go.Proofs.Wit
open Go Go.RowKit
/-! refutations: steps, sets, what is right, what is used -/
structure SD where
  set:aB
  av:Int
  on:Int
  e:Int
  fr:List Int
structure SV where
  d:SD
  fa:Option Addr
  fc:Nat
def nd (b:List NV) (i:Int):NV:=b.getD i.toNat ⟨0,0,0,0,0,0⟩
def tA (b:List NV) (i:Int):Tr:=aa b i.toNat
def eU (s:aB) (i:Int):Bool:=decide (0≤i∧i<64) && s.getLsbD i.toNat
def bW (i:Int):aB:=1#64<<<i.toNat
theorem pR {s:aB} {i:Nat}:eU s i=true↔s.getLsbD i=true:=by
 unfold eU
 simp only [Bool.and_eq_true,decide_eq_true_eq,Int.toNat_natCast]
 exact ⟨fun h=>h.2,fun h=>⟨⟨by omega,by have:=BitVec.lt_of_getLsbD h;omega⟩,h⟩⟩
theorem fR {s:aB} {i:Int}:eU s i=true↔∃k:Nat,i=k∧k<64∧s.getLsbD k=true:=by
 unfold eU
 simp only [Bool.and_eq_true,decide_eq_true_eq]
 exact ⟨fun h=>⟨i.toNat,by omega,by omega,h.2⟩,fun ⟨k,h1,h2,h3⟩=>⟨by omega,by subst h1;exact h3⟩⟩
theorem od {i:Int} {k:Nat} (h:0≤i∧i<64):(bW i).getLsbD k=true↔(k:Int)=i:=by
 unfold bW
 rw [vC (by omega)];omega
noncomputable def jy (b:List NV) (i:Int):Int:=match (List.range b.length).find? (fun j=>decide (aa b j=fg (tA b i))) with
 |some j=>(j:Int)
 |none=>-1
theorem qY {b:List NV} {i:Int} {j:Nat} (hj:j<b.length) (h:aa b j=fg (tA b i)) (hf:∀k,k<j→aa b k≠fg (tA b i)):jy b i=j:=by
 have:(List.range b.length).find? (fun j=>decide (aa b j=fg (tA b i)))=some j:=by
  rw [List.find?_range_eq_some]
  exact ⟨by simpa using h,by simpa using hj,fun k hk=>by simpa using hf k hk⟩
 unfold jy;rw [this]
theorem wR {b:List NV} {i:Int} (hf:∀k,k<b.length→aa b k≠fg (tA b i)):jy b i=-1:=by
 have:(List.range b.length).find? (fun j=>decide (aa b j=fg (tA b i)))=none:=by
  rw [List.find?_eq_none]
  intro k hk
  simpa using hf k (List.mem_range.1 hk)
 unfold jy;rw [this]
theorem vJ {b:List NV} {i:Int} (h:0≤jy b i):∃j:Nat,jy b i=j∧j<b.length∧aa b j=fg (tA b i):=by
 cases e:(List.range b.length).find? (fun j=>decide (aa b j=fg (tA b i))) with
 |none=>unfold jy at h;rw [e] at h;exact absurd h (by decide)
 |some j=>
  have h1:=List.mem_of_find?_eq_some e
  have h2:=List.find?_some e
  exact ⟨j,by unfold jy;rw [e],List.mem_range.1 h1,by simpa using h2⟩
def tD (l:Int):Prop:=l=3∨l=4∨l=5∨l=6
def uW (l:Int):Prop:=l=5∨l=6
instance {l:Int}:Decidable (tD l):=by unfold tD;infer_instance
instance {l:Int}:Decidable (uW l):=by unfold uW;infer_instance
def xk (l:Int) (b:List NV) (i:Int):aB:=(if (nd b i).op=9 then bW (nd b i).x else 0#64)|||(if ((nd b i).op=9∧tD l)∨((nd b i).op=10∧uW l) then bW i else 0#64)
def lE (l:Int) (b:List NV) (s:aB) (ag:Int):Nat→aB
 |0=>0#64
 |k+1=>if eU s k=true∧(nd b k).i=ag then lE l b s ag k|||xk l b k else lE l b s ag k
def lF (l:Int) (b:List NV) (s:aB) (ag:Int):aB:=lE l b s ag b.length
def ju (b:List NV) (s:aB):Prop:=∀k,s.getLsbD k=true→k<b.length
def dh (ss:List SD) (k:Int):aB:=(ss.map SD.set).getD k.toNat 0#64
def eJ (ss:List SD) (k:Nat):List Int→List aB→Prop
 |[],[]=>True
 |f::fs,s::us=>((0≤f∧f<k)∧dh ss f &&& ~~~ s=0#64)∧eJ ss k fs us
 |_,_=>False
def Ag (b:List NV) (x:SD) (op:Int):Prop:=x.on<b.length∧eU x.set x.on=true∧(nd b x.on).op=op
def ey (l:Int) (b:List NV) (ss:List SD) (k:Nat) (x:SD):Prop:=
 ju b x.set∧(
 (x.av=1∧x.fr=[]∧((Ag b x 2∧x.e=0)∨(eU x.set x.on=true∧x.on<b.length∧eU x.set x.e=true∧jy b x.on=x.e)))∨
 (x.av=2∧x.e=0∧Ag b x 5∧eJ ss k x.fr [x.set|||bW (nd b x.on).x|||bW (nd b x.on).y])∨
 (x.av=3∧x.e=0∧Ag b x 6∧eJ ss k x.fr [x.set|||bW (nd b x.on).x,x.set|||bW (nd b x.on).y])∨
 (x.av=4∧(0≤x.on∧x.on<b.length)∧0≤x.e∧jy b x.on=x.e∧eJ ss k x.fr [x.set|||bW x.on,x.set|||bW x.e])∨
 (x.av=5∧x.e=0∧(l=2∨l=4∨l=6)∧Ag b x 9∧eJ ss k x.fr [x.set|||bW (nd b x.on).x])∨
 (x.av=6∧x.e=0∧Ag b x 10∧eJ ss k x.fr [bW (nd b x.on).x|||lF l b x.set (nd b x.on).i])∨
 (x.av=7∧x.e=0∧(l=1∨l=5)∧(0≤x.on∧x.on<4)∧eJ ss k x.fr [lF l b x.set x.on]))
def eI (b:List NV) (n:NV):Prop:=(n.op=1∨n.op=2∨n.op=3∨n.op=5∨n.op=6∨n.op=9∨n.op=10)∨(n.op=4∧(nd b n.x).op=3)
open Classical in
noncomputable def kk (b:List NV):Int:=if aV b≠0 then aV b else if 64<b.length then 8 else if ∀n∈b,eI b n then 0 else 10
noncomputable def eL (l:Int) (b:List NV) (m:Nat):Int:=if ¬(0≤l∧l≤6) then 2 else if kk b≠0 then kk b else if m=0∨4096<m then 3 else 0
open Classical in
noncomputable def mQ (l:Int) (b:List NV) (ss:List SD):Int:=if eL l b ss.length≠0 then eL l b ss.length else if ∀(k:Nat) (hk:k<ss.length),ey l b ss k ss[k] then 0 else 13
theorem mE {b:List NV}:kk b=0↔aV b=0∧b.length≤64∧∀n∈b,eI b n:=by
 unfold kk
 by_cases h2:aV b=0
 ·rw [if_neg (by simp [h2])]
  by_cases h3:64<b.length
  ·rw [if_pos h3];exact ⟨fun h=>absurd h (by decide),fun h=>by omega⟩
  rw [if_neg h3]
  by_cases h4:∀n∈b,eI b n
  ·rw [if_pos h4];exact ⟨fun _=>⟨h2,by omega,h4⟩,fun _=>rfl⟩
  rw [if_neg h4];exact ⟨fun h=>absurd h (by decide),fun h=>absurd h.2.2 h4⟩
 rw [if_pos h2];exact ⟨fun h=>absurd h h2,fun h=>absurd h.1 h2⟩
theorem mu {l:Int} {b:List NV} {m:Nat}:eL l b m=0↔(0≤l∧l≤6)∧kk b=0∧0<m∧m≤4096:=by
 unfold eL
 by_cases h1:0≤l∧l≤6
 ·rw [if_neg (by simp [h1])]
  by_cases h2:kk b=0
  ·rw [if_neg (by simp [h2])]
   by_cases h3:m=0∨4096<m
   ·rw [if_pos h3];exact ⟨fun h=>absurd h (by decide),fun h=>by omega⟩
   rw [if_neg h3];exact ⟨fun _=>⟨h1,h2,by omega⟩,fun _=>rfl⟩
  rw [if_pos h2];exact ⟨fun h=>absurd h h2,fun h=>absurd h.2.1 h2⟩
 rw [if_pos h1];exact ⟨fun h=>absurd h (by decide),fun h=>absurd h.1 h1⟩
theorem yk {l:Int} {b:List NV} {ss:List SD}:mQ l b ss=0↔(0≤l∧l≤6)∧(aV b=0∧b.length≤64∧∀n∈b,eI b n)∧(0<ss.length∧ss.length≤4096)∧∀(k:Nat) (hk:k<ss.length),ey l b ss k ss[k]:=by
 unfold mQ
 by_cases h1:eL l b ss.length=0
 ·rw [if_neg (by simp [h1])]
  have h2:=mu.1 h1
  have h3:=mE.1 h2.2.1
  by_cases h6:∀(k:Nat) (hk:k<ss.length),ey l b ss k ss[k]
  ·rw [if_pos h6];exact ⟨fun _=>⟨h2.1,h3,h2.2.2,h6⟩,fun _=>rfl⟩
  rw [if_neg h6];exact ⟨fun h=>absurd h (by decide),fun h=>absurd h.2.2.2 h6⟩
 rw [if_pos h1]
 exact ⟨fun h=>absurd h h1,fun ⟨a,c,d,_⟩=>absurd (mu.2 ⟨a,mE.2 c,d⟩) h1⟩
/-! what is used -/
def eS (b:List NV) (s:aB) (ag:Int) (n:Nat):Nat:=((List.range b.length).find? (fun i=>s.getLsbD i && ((nd b i).op==9 && ((nd b i).i==ag && (nd b i).x==(n:Int))))).getD n
def xW (b:List NV) (s:aB) (ag:Int) (p:aB):aB:=(dY p).foldl (fun o n=>o|||1#64<<<eS b s ag n) 0#64
def jL (b:List NV) (x:SD) (bf:List aB):aB:=
 let p:=bf.getD (x.fr.getD 0 0).toNat 0#64
 let q:=bf.getD (x.fr.getD 1 0).toNat 0#64
 let n:=nd b x.on
 if x.av=1 then (if n.op=2 then bW x.on else bW x.on|||bW x.e)
 else if x.av=4 then p &&& ~~~ bW x.on|||q &&& ~~~ bW x.e
 else if x.av=7 then xW b x.set x.on p
 else if x.av=2 then p &&& ~~~ (bW n.x|||bW n.y)|||bW x.on
 else if x.av=3 then p &&& ~~~ bW n.x|||q &&& ~~~ bW n.y|||bW x.on
 else if x.av=5 then p &&& ~~~ bW n.x|||bW x.on
 else xW b x.set n.i (p &&& ~~~ bW n.x)|||bW x.on
def eR (b:List NV) (ss:List SD):Nat→List aB
 |0=>[]
 |k+1=>match ss[k]? with
  |some x=>eR b ss k++[jL b x (eR b ss k)]
  |none=>eR b ss k
theorem lK {b:List NV} {ss:List SD} {k:Nat} (hk:k<ss.length):eR b ss (k+1)=eR b ss k++[jL b ss[k] (eR b ss k)]:=by
 rw [eR,List.getElem?_eq_getElem hk]
theorem kZ {b:List NV} {ss:List SD}:∀{k:Nat},k≤ss.length→(eR b ss k).length=k
 |0,_=>rfl
 |k+1,h=>by rw [lK (by omega),List.length_append,kZ (by omega)];rfl
theorem sO {b:List NV} {ss:List SD} {j:Nat}:∀{k:Nat},j≤k→k≤ss.length→eR b ss j<+:eR b ss k
 |0,h,_=>by rw [show j=0 by omega];exact List.prefix_refl _
 |k+1,h,h2=>by
  by_cases e:j=k+1
  ·rw [e];exact List.prefix_refl _
  rw [lK (by omega)]
  exact (sO (by omega) (by omega)).trans (List.prefix_append _ _)
def mJ (b:List NV) (ss:List SD) (k:Nat):aB:=(eR b ss ss.length).getD k 0#64
theorem mK {b:List NV} {ss:List SD} {j k:Nat} (hj:j<k) (hk:k≤ss.length):(eR b ss k).getD j 0#64=mJ b ss j:=by
 obtain ⟨u,hu⟩:=sO (b:=b) (ss:=ss) hk (Nat.le_refl _)
 unfold mJ
 rw [←hu,List.getD_eq_getElem?_getD,List.getD_eq_getElem?_getD,List.getElem?_append_left (by rw [kZ hk];exact hj)]
theorem CR {b:List NV} {ss:List SD} {k:Nat} (hk:k<ss.length):mJ b ss k=jL b ss[k] (eR b ss k):=by
 rw [←mK (Nat.lt_succ_self k) (by omega),lK hk,List.getD_eq_getElem?_getD,List.getElem?_append_right (by rw [kZ (by omega)];exact Nat.le_refl _)]
 simp [kZ (Nat.le_of_lt hk)]
/-! what is needed -/
inductive xz (ss:List SD):Nat→Prop
  |last {k:Nat}:k+1=ss.length→xz ss k
  |fr {k j:Nat} (hk:k<ss.length):xz ss k→(j:Int)∈ss[k].fr→xz ss j
open Classical in
noncomputable def cX (ss:List SD) (k:Nat):Bool:=decide (xz ss k)
theorem fh {ss:List SD} {k:Nat}:cX ss k=true↔xz ss k:=by unfold cX;exact @decide_eq_true_iff _ (Classical.propDecidable _)
noncomputable def fW (b:List NV) (ss:List SD) (k:Nat) (x:SD):SD:=
 ⟨mJ b ss k,x.av,x.on,if x.av=1∧(nd b x.on).op=2 then 0 else x.e,x.fr.map (fun j=>((bd (cX ss) j.toNat:Nat):Int))⟩
noncomputable def mM (b:List NV) (ss:List SD):Nat→List SD
 |0=>[]
 |k+1=>match ss[k]? with
  |some x=>if cX ss k=true then mM b ss k++[fW b ss k x] else mM b ss k
  |none=>mM b ss k
noncomputable def cy (b:List NV) (ss:List SD):List SD:=mM b ss ss.length
theorem jX {b:List NV} {ss:List SD} {k:Nat} (hk:k<ss.length):mM b ss (k+1)=if cX ss k=true then mM b ss k++[fW b ss k ss[k]] else mM b ss k:=by
 rw [mM,List.getElem?_eq_getElem hk]
theorem lh {b:List NV} {ss:List SD}:∀{k:Nat},k≤ss.length→(mM b ss k).length=bd (cX ss) k
 |0,_=>by simp [mM,bd]
 |k+1,h=>by
  have h1:=lh (b:=b) (ss:=ss) (k:=k) (by omega)
  rw [jX (by omega),fF]
  split<;>simp [h1]
theorem vo {b:List NV} {ss:List SD} {j:Nat} (hn:cX ss j=true):∀{k:Nat},k≤ss.length→j<k→∀hj:j<ss.length,(mM b ss k)[bd (cX ss) j]?=some (fW b ss j ss[j])
 |0,_,h,_=>by omega
 |k+1,h,h2,hj=>by
  rw [jX (by omega)]
  by_cases e:j=k
  ·subst e
   rw [if_pos hn,List.getElem?_append_right (by rw [lh (by omega)];exact Nat.le_refl _),lh (by omega)]
   simp
  have h3:=vo (b:=b) hn (k:=k) (by omega) (by omega) hj
  split
  ·rw [List.getElem?_append_left (List.getElem?_eq_some_iff.1 h3).1];exact h3
  exact h3
end Go.Proofs.Wit
namespace Go.Proofs.Wit
open Go Go.RowKit
/-! trimmed refutations are right -/
theorem lL {s t:aB}:s &&& ~~~ t=0#64↔∀k,s.getLsbD k=true→t.getLsbD k=true:=by
 constructor
 ·intro h k hk
  have:=congrArg (fun x=>x.getLsbD k) h
  simp only [BitVec.getLsbD_and,BitVec.getLsbD_not,hk,BitVec.getLsbD_zero,Bool.true_and] at this
  have h64:=BitVec.lt_of_getLsbD hk
  simpa [h64] using this
 intro h
 apply BitVec.eq_of_getLsbD_eq
 intro i hi
 simp only [BitVec.getLsbD_and,BitVec.getLsbD_not,BitVec.getLsbD_zero]
 cases hs:s.getLsbD i with
 |false=>rfl
 |true=>simp [h i hs]
theorem cW {s t:aB} {k:Nat}:(s|||t).getLsbD k=true↔s.getLsbD k=true∨t.getLsbD k=true:=by simp
theorem gy {s t:aB} {k:Nat}:(s &&& ~~~ t).getLsbD k=true↔s.getLsbD k=true∧¬t.getLsbD k=true:=by
 simp only [BitVec.getLsbD_and,BitVec.getLsbD_not,Bool.and_eq_true,decide_eq_true_eq,Bool.not_eq_true',Bool.not_eq_true]
 exact ⟨fun h=>⟨h.1,h.2.2⟩,fun h=>⟨h.1,BitVec.lt_of_getLsbD h.1,h.2⟩⟩
theorem Gl {s t:aB} (h:∀k,s.getLsbD k=true↔t.getLsbD k=true):s=t:=by
 apply BitVec.eq_of_getLsbD_eq
 intro i _
 rw [Bool.eq_iff_iff];exact h i
structure aW (b:List NV):Prop where
  jH:aV b=0
  len:b.length≤64
  Cm:∀n∈b,eI b n
section
variable {l:Int} {b:List NV} {ss:List SD}
theorem dJ {i:Nat} (hi:i<b.length):nd b i=b[i]:=by simp [nd,List.getD_eq_getElem?_getD,hi]
theorem aW.x (h:aW b) {i:Nat} (hi:i<b.length) (hX:4≤(nd b i).op):0≤(nd b i).x∧(nd b i).x<i:=by
 rw [dJ hi] at*
 have ho:=(aE.1 h.jH).nodes i hi
 have h1:=h.Cm _ (List.getElem_mem hi)
 have hu:cF b[i].op=true:=by unfold cF;unfold eI at h1;simp;omega
 have:=ho.x hu;omega
theorem aW.y (h:aW b) {i:Nat} (hi:i<b.length) (hX:(nd b i).op=5∨(nd b i).op=6):0≤(nd b i).y∧(nd b i).y<i:=by
 rw [dJ hi] at*
 have ho:=(aE.1 h.jH).nodes i hi
 have hu:cu b[i].op=true:=by unfold cu;rcases hX with e|e<;>rw [e]<;>rfl
 have:=ho.y hu;omega
theorem dH {s:aB} {ag:Int} {n:Nat}:(∃i,eS b s ag n=i∧i<b.length∧s.getLsbD i=true∧(nd b i).op=9∧(nd b i).i=ag∧(nd b i).x=n∧∀j,j<i→s.getLsbD j=true→(nd b j).op=9→(nd b j).i=ag→(nd b j).x≠n)∨(eS b s ag n=n∧∀j,j<b.length→s.getLsbD j=true→(nd b j).op=9→(nd b j).i=ag→(nd b j).x≠n):=by
 cases e:(List.range b.length).find? (fun i=>s.getLsbD i && ((nd b i).op==9 && ((nd b i).i==ag && (nd b i).x==(n:Int)))) with
 |none=>
  refine .inr ⟨by unfold eS;rw [e];rfl,fun j hj h1 h2 h3 h4=>?_⟩
  rw [List.find?_eq_none] at e
  exact e j (List.mem_range.2 hj) (by simp [h1,h2,h3,h4])
 |some i=>
  rw [List.find?_range_eq_some] at e
  obtain ⟨e1,e2,e3⟩:=e
  simp only [Bool.and_eq_true,beq_iff_eq] at e1
  refine .inl ⟨i,?_,List.mem_range.1 e2,e1.1,e1.2.1,e1.2.2.1,e1.2.2.2,fun j hj h1 h2 h3 h4=>?_⟩
  ·have:(List.range b.length).find? (fun i=>s.getLsbD i && ((nd b i).op==9 && ((nd b i).i==ag && (nd b i).x==(n:Int))))=some i:=by
    rw [List.find?_range_eq_some]
    exact ⟨by simp [e1],e2,e3⟩
   unfold eS;rw [this];rfl
  have:=e3 j hj
  simp [h1,h2,h3,h4] at this
theorem AH (hl:b.length≤64) {s:aB} {ag:Int} {n:Nat} (hn:n<64):eS b s ag n<64:=by
 rcases dH (b:=b) (s:=s) (ag:=ag) (n:=n) with ⟨i,h1,h2,_⟩|⟨h1,_⟩
 ·omega
 omega
theorem vA {f:Nat→Nat}:∀{ns:List Nat} {o:aB} {k:Nat},(∀n∈ns,f n<64)→((ns.foldl (fun o n=>o|||1#64<<<f n) o).getLsbD k=true↔o.getLsbD k=true∨∃n∈ns,f n=k)
 |[],o,k,_=>by simp
 |n::ns,o,k,h=>by
  rw [List.foldl_cons,vA (fun m hm=>h m (List.mem_cons_of_mem _ hm)),cW,vC (h n (List.mem_cons_self ..))]
  simp only [List.mem_cons,exists_eq_or_imp]
  constructor
  ·rintro ((h1|h1)|h1)
   ·exact .inl h1
   ·exact .inr (.inl h1.symm)
   ·exact .inr (.inr h1)
  rintro (h1|h1|h1)
  ·exact .inl (.inl h1)
  ·exact .inl (.inr h1.symm)
  exact .inr h1
theorem db {s:aB} {k:Nat}:k∈dY s↔s.getLsbD k=true:=by
 unfold dY
 rw [List.mem_filter,List.mem_range]
 exact ⟨fun h=>h.2,fun h=>⟨BitVec.lt_of_getLsbD h,h⟩⟩
theorem sS (hl:b.length≤64) {s p:aB} {ag:Int} {k:Nat}:(xW b s ag p).getLsbD k=true↔∃n,p.getLsbD n=true∧eS b s ag n=k:=by
 unfold xW
 rw [vA (fun n hn=>AH hl (BitVec.lt_of_getLsbD (db.1 hn)))]
 simp only [BitVec.getLsbD_zero,Bool.false_eq_true,false_or,db]
theorem nZ (h:aW b) {s:aB} {ag:Int} {k:Nat}:∀{m:Nat},m≤b.length→((lE l b s ag m).getLsbD k=true↔∃i:Nat,i<m∧s.getLsbD i=true∧(nd b i).i=ag∧(((nd b i).op=9∧(nd b i).x=k)∨(k=i∧(((nd b i).op=9∧tD l)∨((nd b i).op=10∧uW l)))))
 |0,_=>by simp [lE]
 |m+1,hm=>by
  have hcn:(xk l b m).getLsbD k=true↔(((nd b m).op=9∧(nd b m).x=k)∨(k=m∧(((nd b m).op=9∧tD l)∨((nd b m).op=10∧uW l)))):=by
   unfold xk
   rw [cW]
   apply or_congr
   ·by_cases h9:(nd b m).op=9
    ·have:=h.x (i:=m) (by omega) (by omega)
     have:=h.len
     rw [if_pos h9,od (by omega)]
     exact ⟨fun e=>⟨h9,e.symm⟩,fun e=>e.2.symm⟩
    ·rw [if_neg h9];simp [h9]
   by_cases h9:((nd b m).op=9∧tD l)∨((nd b m).op=10∧uW l)
   ·have:=h.len
    rw [if_pos h9,od (by omega)]
    exact ⟨fun e=>⟨by omega,h9⟩,fun e=>by omega⟩
   rw [if_neg h9];simp [h9]
  rw [lE]
  by_cases h1:eU s m=true∧(nd b m).i=ag
  ·rw [if_pos h1,cW,nZ h (by omega),hcn]
   constructor
   ·rintro (⟨i,h2,h3⟩|h2)
    ·exact ⟨i,by omega,h3⟩
    ·exact ⟨m,by omega,pR.1 h1.1,h1.2,h2⟩
   rintro ⟨i,h2,h3,h4,h5⟩
   by_cases e:i=m
   ·subst e;exact .inr h5
   exact .inl ⟨i,by omega,h3,h4,h5⟩
  rw [if_neg h1,nZ h (by omega)]
  constructor
  ·rintro ⟨i,h2,h3⟩
   exact ⟨i,by omega,h3⟩
  rintro ⟨i,h2,h3,h4,h5⟩
  by_cases e:i=m
  ·subst e;exact absurd ⟨pR.2 h3,h4⟩ h1
  exact ⟨i,by omega,h3,h4,h5⟩
theorem kh (h:aW b) {s:aB} {ag:Int} {k:Nat}:(lF l b s ag).getLsbD k=true↔∃i:Nat,i<b.length∧s.getLsbD i=true∧(nd b i).i=ag∧(((nd b i).op=9∧(nd b i).x=k)∨(k=i∧(((nd b i).op=9∧tD l)∨((nd b i).op=10∧uW l)))):=nZ h (Nat.le_refl _)
theorem eJ.one {k:Nat} {fs:List Int} {s:aB} (h:eJ ss k fs [s]):∃j:Nat,fs=[(j:Int)]∧j<k∧∀n,(dh ss j).getLsbD n=true→s.getLsbD n=true:=by
 cases fs with
 |nil=>exact h.elim
 |cons f fs=>
  cases fs with
  |cons _ _=>exact h.2.elim
  |nil=>
   obtain ⟨⟨h1,h2⟩,_⟩:=h
   refine ⟨f.toNat,by rw [show ((f.toNat:Nat):Int)=f by omega],by omega,?_⟩
   rw [show ((f.toNat:Nat):Int)=f by omega];exact lL.1 h2
theorem eJ.two {k:Nat} {fs:List Int} {s u:aB} (h:eJ ss k fs [s,u]):∃j i:Nat,fs=[(j:Int),(i:Int)]∧j<k∧i<k∧(∀n,(dh ss j).getLsbD n=true→s.getLsbD n=true)∧∀n,(dh ss i).getLsbD n=true→u.getLsbD n=true:=by
 cases fs with
 |nil=>exact h.elim
 |cons f fs=>
  obtain ⟨⟨h1,h2⟩,h3⟩:=h
  obtain ⟨i,rfl,hi,hu⟩:=eJ.one h3
  refine ⟨f.toNat,i,by rw [show ((f.toNat:Nat):Int)=f by omega],by omega,hi,?_,hu⟩
  rw [show ((f.toNat:Nat):Int)=f by omega];exact lL.1 h2
theorem eJ.Fz {k j:Nat} {s:aB} (hj:j<k) (h:∀n,(dh ss j).getLsbD n=true→s.getLsbD n=true):eJ ss k [(j:Int)] [s]:=⟨⟨by omega,lL.2 h⟩,trivial⟩
theorem eJ.H0 {k j i:Nat} {s u:aB} (hj:j<k) (hi:i<k) (h:∀n,(dh ss j).getLsbD n=true→s.getLsbD n=true) (h2:∀n,(dh ss i).getLsbD n=true→u.getLsbD n=true):eJ ss k [(j:Int),(i:Int)] [s,u]:=⟨⟨by omega,lL.2 h⟩,eJ.Fz hi h2⟩
theorem ey.me {k:Nat} {x:SD} (h:ey l b ss k x) {f:Int} (hf:f∈x.fr):0≤f∧f<k:=by
 have one:∀{s:aB},eJ ss k x.fr [s]→0≤f∧f<k:=fun h=>by
  obtain ⟨j,e,hj,_⟩:=h.one
  rw [e,List.mem_singleton] at hf;omega
 have two:∀{s u:aB},eJ ss k x.fr [s,u]→0≤f∧f<k:=fun h=>by
  obtain ⟨j,i,e,hj,hi,_⟩:=h.two
  rw [e] at hf
  simp only [List.mem_cons,List.not_mem_nil,or_false] at hf
  omega
 rcases h.2 with ⟨_,h,_⟩|⟨_,_,_,h⟩|⟨_,_,_,h⟩|⟨_,_,_,_,h⟩|⟨_,_,_,_,h⟩|⟨_,_,_,h⟩|⟨_,_,_,_,h⟩
 ·rw [h] at hf;cases hf
 ·exact one h
 ·exact two h
 ·exact two h
 ·exact one h
 ·exact one h
 exact one h
theorem Ag.nat (_h:aW b) {x:SD} {op:Int} (g:Ag b x op):∃o:Nat,x.on=o∧o<b.length∧x.set.getLsbD o=true∧(nd b x.on).op=op:=by
 obtain ⟨h1,h2,h3⟩:=g
 obtain ⟨k,h4,h5,h6⟩:=fR.1 h2
 exact ⟨k,h4,by omega,h6,h3⟩
end
end Go.Proofs.Wit
namespace Go.Proofs.Wit
open Go Go.RowKit
/-! trimmed refutations are right, and stay as they are -/
section
variable {l:Int} {b:List NV} {ss:List SD}
abbrev Us (b:List NV) (ss:List SD) (k n:Nat):Prop:=(mJ b ss k).getLsbD n=true
inductive qI (l:Int) (b:List NV) (ss:List SD) (k:Nat) (x:SD):Prop
  |tP (o:Nat):x.av=1→x.fr=[]→x.on=o→o<b.length→x.set.getLsbD o=true→(nd b o).op=2→(∀n,Us b ss k n↔n=o)→qI l b ss k x
  |neg (o e:Nat):x.av=1→x.fr=[]→x.on=o→o<b.length→x.set.getLsbD o=true→(nd b o).op≠2→x.e=e→e<b.length→x.set.getLsbD e=true→jy b o=e→aa b e=fg (aa b o)→(∀n,Us b ss k n↔n=o∨n=e)→qI l b ss k x
  |and (o j:Nat):x.av=2→x.e=0→x.fr=[(j:Int)]→j<k→x.on=o→o<b.length→x.set.getLsbD o=true→(nd b o).op=5→(∀n:Nat,(dh ss j).getLsbD n=true→x.set.getLsbD n=true∨(n:Int)=(nd b o).x∨(n:Int)=(nd b o).y)→(∀n:Nat,Us b ss k n↔(Us b ss j n∧(n:Int)≠(nd b o).x∧(n:Int)≠(nd b o).y)∨n=o)→qI l b ss k x
  |or (o j i:Nat):x.av=3→x.e=0→x.fr=[(j:Int),(i:Int)]→j<k→i<k→x.on=o→o<b.length→x.set.getLsbD o=true→(nd b o).op=6→(∀n:Nat,(dh ss j).getLsbD n=true→x.set.getLsbD n=true∨(n:Int)=(nd b o).x)→(∀n:Nat,(dh ss i).getLsbD n=true→x.set.getLsbD n=true∨(n:Int)=(nd b o).y)→(∀n:Nat,Us b ss k n↔(Us b ss j n∧(n:Int)≠(nd b o).x)∨(Us b ss i n∧(n:Int)≠(nd b o).y)∨n=o)→qI l b ss k x
  |cut (o e j i:Nat):x.av=4→x.fr=[(j:Int),(i:Int)]→j<k→i<k→x.on=o→o<b.length→x.e=e→e<b.length→jy b o=e→aa b e=fg (aa b o)→(∀n:Nat,(dh ss j).getLsbD n=true→x.set.getLsbD n=true∨n=o)→(∀n:Nat,(dh ss i).getLsbD n=true→x.set.getLsbD n=true∨n=e)→(∀n:Nat,Us b ss k n↔(Us b ss j n∧n≠o)∨(Us b ss i n∧n≠e))→qI l b ss k x
  |t (o j:Nat):x.av=5→x.e=0→(l=2∨l=4∨l=6)→x.fr=[(j:Int)]→j<k→x.on=o→o<b.length→x.set.getLsbD o=true→(nd b o).op=9→(∀n:Nat,(dh ss j).getLsbD n=true→x.set.getLsbD n=true∨(n:Int)=(nd b o).x)→(∀n:Nat,Us b ss k n↔(Us b ss j n∧(n:Int)≠(nd b o).x)∨n=o)→qI l b ss k x
  |k (o j:Nat):x.av=6→x.e=0→x.fr=[(j:Int)]→j<k→x.on=o→o<b.length→x.set.getLsbD o=true→(nd b o).op=10→(∀n:Nat,(dh ss j).getLsbD n=true→(lF l b x.set (nd b o).i).getLsbD n=true∨(n:Int)=(nd b o).x)→(∀n:Nat,Us b ss k n↔(∃m,Us b ss j m∧(m:Int)≠(nd b o).x∧eS b x.set (nd b o).i m=n)∨n=o)→qI l b ss k x
  |d (j:Nat):x.av=7→x.e=0→(l=1∨l=5)→x.fr=[(j:Int)]→j<k→(0≤x.on∧x.on<4)→(∀n:Nat,(dh ss j).getLsbD n=true→(lF l b x.set x.on).getLsbD n=true)→(∀n:Nat,Us b ss k n↔∃m,Us b ss j m∧eS b x.set x.on m=n)→qI l b ss k x
theorem C2 (hb:aW b) {k:Nat} (hk:k<ss.length) (h:ey l b ss k ss[k]):qI l b ss k ss[k]:=by
 obtain ⟨x,hx⟩:∃x,x=ss[k]:=⟨_,rfl⟩
 have hu:=CR (b:=b) hk
 rw [←hx] at h hu⊢
 have hlen:=hb.len
 have hbw:∀{i:Int} {n:Nat},0≤i→i<64→((bW i).getLsbD n=true↔(n:Int)=i):=fun h1 h2=>od ⟨h1,h2⟩
 have hp0:∀{j:Nat} {fs:List Int},j<k→x.fr=(j:Int)::fs→(eR b ss k).getD (x.fr.getD 0 0).toNat 0#64=mJ b ss j:=fun hj e=>by
  rw [e];exact mK hj (Nat.le_of_lt hk)
 have hp1:∀{j i:Nat},i<k→x.fr=[(j:Int),(i:Int)]→(eR b ss k).getD (x.fr.getD 1 0).toNat 0#64=mJ b ss i:=fun hj e=>by
  rw [e];exact mK hj (Nat.le_of_lt hk)
 rcases h.2 with ⟨h1,h2,h3⟩|⟨h1,h2,h3,h4⟩|⟨h1,h2,h3,h4⟩|⟨h1,h2,h3,h4,h5⟩|⟨h1,h2,h3,h4,h5⟩|⟨h1,h2,h3,h4⟩|⟨h1,h2,h3,h4,h5⟩
 ·unfold jL at hu
  rw [if_pos h1] at hu
  rcases h3 with ⟨h3,h4⟩|⟨h3,h4,h5,h6⟩
  ·obtain ⟨o,e1,e2,e3,e4⟩:=h3.nat hb
   rw [if_pos e4] at hu
   rw [e1] at e4
   exact .tP o h1 h2 e1 e2 e3 e4 (fun n=>by unfold Us;rw [hu,e1,hbw (by omega) (by omega)];omega)
  obtain ⟨o,e1,e2,e3⟩:=fR.1 h3
  obtain ⟨e,f1,f2,f3⟩:=fR.1 h5
  have ho:o<b.length:=by omega
  obtain ⟨j,g1,g2,g3⟩:=vJ (b:=b) (i:=x.on) (by omega)
  have hje:j=e:=by omega
  subst hje
  by_cases h2':(nd b x.on).op=2
  ·rw [if_pos h2'] at hu
   rw [e1] at h2'
   exact .tP o h1 h2 e1 ho e3 h2' (fun n=>by unfold Us;rw [hu,e1,hbw (by omega) (by omega)];omega)
  rw [if_neg h2'] at hu
  rw [e1] at h2' g3 g1
  refine .neg o j h1 h2 e1 ho e3 h2' f1 g2 f3 g1 (by rw [g3];rfl) (fun n=>?_)
  unfold Us
  rw [hu,cW,e1,f1,hbw (by omega) (by omega),hbw (by omega) (by omega)];omega
 ·obtain ⟨o,e1,e2,e3,e4⟩:=h3.nat hb
  obtain ⟨j,f1,f2,f3⟩:=h4.one
  rw [e1] at e4 f3
  have hx1:=hb.x e2 (by omega)
  have hy1:=hb.y e2 (by omega)
  unfold jL at hu
  rw [if_neg (by omega),if_neg (by omega),if_neg (by omega),if_pos h1,hp0 f2 f1,e1] at hu
  refine .and o j h1 h2 f1 f2 e1 e2 e3 e4 (fun n hn=>?_) (fun n=>?_)
  ·have:=f3 n hn
   rw [cW,cW,hbw (by omega) (by omega),hbw (by omega) (by omega)] at this
   rcases this with (h|h)|h
   ·exact .inl h
   ·exact .inr (.inl h)
   exact .inr (.inr h)
  unfold Us
  rw [hu,cW,gy,cW,hbw (by omega) (by omega),hbw (by omega) (by omega),hbw (by omega) (by omega),not_or]
  exact or_congr Iff.rfl (by omega)
 ·obtain ⟨o,e1,e2,e3,e4⟩:=h3.nat hb
  obtain ⟨j,i,f1,f2,f3,f4,f5⟩:=h4.two
  rw [e1] at e4 f4 f5
  have hx1:=hb.x e2 (by omega)
  have hy1:=hb.y e2 (by omega)
  unfold jL at hu
  rw [if_neg (by omega),if_neg (by omega),if_neg (by omega),if_neg (by omega),if_pos h1,hp0 f2 f1,hp1 f3 f1,e1] at hu
  refine .or o j i h1 h2 f1 f2 f3 e1 e2 e3 e4 (fun n hn=>?_) (fun n hn=>?_) (fun n=>?_)
  ·have:=f4 n hn
   rwa [cW,hbw (by omega) (by omega)] at this
  ·have:=f5 n hn
   rwa [cW,hbw (by omega) (by omega)] at this
  unfold Us
  rw [hu,cW,cW,gy,gy,hbw (by omega) (by omega),hbw (by omega) (by omega),hbw (by omega) (by omega),or_assoc]
  exact or_congr Iff.rfl (or_congr Iff.rfl (by omega))
 ·obtain ⟨j,i,f1,f2,f3,f4,f5⟩:=h5.two
  obtain ⟨e,g1,g2,g3⟩:=vJ (b:=b) (i:=x.on) (by omega)
  obtain ⟨o,e1⟩:∃o:Nat,x.on=o:=⟨x.on.toNat,by omega⟩
  have ee:x.e=e:=by omega
  rw [e1] at h2 h4 f4 g1 g3
  rw [ee] at f5
  unfold jL at hu
  rw [if_neg (by omega),if_pos h1,hp0 f2 f1,hp1 f3 f1,e1,ee] at hu
  refine .cut o e j i h1 f1 f2 f3 e1 (by omega) ee g2 g1 (by rw [g3];rfl) (fun n hn=>?_) (fun n hn=>?_) (fun n=>?_)
  ·have:=f4 n hn
   rw [cW,hbw (by omega) (by omega)] at this
   exact this.imp id (fun h=>by omega)
  ·have:=f5 n hn
   rw [cW,hbw (by omega) (by omega)] at this
   exact this.imp id (fun h=>by omega)
  unfold Us
  rw [hu,cW,gy,gy,hbw (by omega) (by omega),hbw (by omega) (by omega)]
  exact or_congr (and_congr Iff.rfl (by omega)) (and_congr Iff.rfl (by omega))
 ·obtain ⟨o,e1,e2,e3,e4⟩:=h4.nat hb
  obtain ⟨j,f1,f2,f3⟩:=h5.one
  rw [e1] at e4 f3
  have hx1:=hb.x e2 (by omega)
  unfold jL at hu
  rw [if_neg (by omega),if_neg (by omega),if_neg (by omega),if_neg (by omega),if_neg (by omega),if_pos h1,hp0 f2 f1,e1] at hu
  refine .t o j h1 h2 h3 f1 f2 e1 e2 e3 e4 (fun n hn=>?_) (fun n=>?_)
  ·have:=f3 n hn
   rwa [cW,hbw (by omega) (by omega)] at this
  unfold Us
  rw [hu,cW,gy,hbw (by omega) (by omega),hbw (by omega) (by omega)]
  exact or_congr Iff.rfl (by omega)
 ·obtain ⟨o,e1,e2,e3,e4⟩:=h3.nat hb
  obtain ⟨j,f1,f2,f3⟩:=h4.one
  rw [e1] at e4 f3
  have hx1:=hb.x e2 (by omega)
  unfold jL at hu
  rw [if_neg (by omega),if_neg (by omega),if_neg (by omega),if_neg (by omega),if_neg (by omega),if_neg (by omega),hp0 f2 f1,e1] at hu
  refine .k o j h1 h2 f1 f2 e1 e2 e3 e4 (fun n hn=>?_) (fun n=>?_)
  ·have:=f3 n hn
   rw [cW,hbw (by omega) (by omega)] at this
   exact this.symm
  unfold Us
  rw [hu,cW,sS hlen,hbw (by omega) (by omega)]
  refine or_congr (exists_congr fun m=>?_) (by omega)
  rw [gy,hbw (by omega) (by omega)]
  exact and_assoc
 obtain ⟨j,f1,f2,f3⟩:=h5.one
 unfold jL at hu
 rw [if_neg (by omega),if_neg (by omega),if_pos h1,hp0 f2 f1] at hu
 refine .d j h1 h2 h3 f1 f2 h4 f3 (fun n=>?_)
 unfold Us
 rw [hu,sS hlen]
theorem eN {j:Nat} (hj:j<ss.length):dh ss j=ss[j].set:=by simp [dh,List.getD_eq_getElem?_getD,hj]
structure fH (l:Int) (b:List NV) (ss:List SD):Prop where
  log:0≤l∧l≤6
  base:aW b
  pos:0<ss.length
  len:ss.length≤4096
  lX:∀(k:Nat) (hk:k<ss.length),ey l b ss k ss[k]
theorem jd:mQ l b ss=0↔fH l b ss:=by
 rw [yk]
 exact ⟨fun ⟨h1,⟨h2,h3,h4⟩,⟨h5,h6⟩,h7⟩=>⟨h1,⟨h2,h3,h4⟩,h5,h6,h7⟩,fun h=>⟨h.log,⟨h.base.jH,h.base.len,h.base.Cm⟩,⟨h.pos,h.len⟩,h.lX⟩⟩
theorem fH.C3 (h:fH l b ss) {k:Nat} (hk:k<ss.length):qI l b ss k ss[k]:=C2 h.base hk (h.lX k hk)
theorem xY (hb:aW b) {s:aB} {ag:Int} {n:Nat} (hn:(lF l b s ag).getLsbD n=true):s.getLsbD (eS b s ag n)=true:=by
 rcases dH (b:=b) (s:=s) (ag:=ag) (n:=n) with ⟨i,h1,h2,h3,_⟩|⟨h1,h2⟩
 ·rw [h1];exact h3
 rw [h1]
 obtain ⟨i,g1,g2,g3,g4⟩:=(kh hb).1 hn
 rcases g4 with ⟨g4,g5⟩|⟨g4,g5⟩
 ·exact absurd g5 (h2 i g1 g2 g4 g3)
 rw [g4];exact g2
theorem fH.sub (h:fH l b ss):∀(k:Nat) (hk:k<ss.length) (n:Nat),Us b ss k n→ss[k].set.getLsbD n=true:=by
 intro k
 induction k using Nat.strongRecOn with
 |_ k ih=>
 intro hk n hn
 have ihS:∀(j:Nat),j<k→∀m,Us b ss j m→(dh ss j).getLsbD m=true:=fun j hj m hm=>by
  rw [eN (by omega)];exact ih j hj (by omega) m hm
 cases h.C3 hk with
 |tP o h1 h2 h3 h4 h5 h6 h7=>rw [(h7 n).1 hn];exact h5
 |neg o e h1 h2 h3 h4 h5 h6 h7 h8 h9 h10 h11 h12=>
  rcases (h12 n).1 hn with e|e
  ·rw [e];exact h5
  rw [e];exact h9
 |and o j h1 h2 h3 h4 h5 h6 h7 h8 h9 h10=>
  rcases (h10 n).1 hn with ⟨e1,e2,e3⟩|e
  ·rcases h9 n (ihS j h4 n e1) with g|g|g
   ·exact g
   ·exact absurd g e2
   ·exact absurd g e3
  rw [e];exact h7
 |or o j i h1 h2 h3 h4 h5 h6 h7 h8 h9 h10 h11 h12=>
  rcases (h12 n).1 hn with ⟨e1,e2⟩|⟨e1,e2⟩|e
  ·exact (h10 n (ihS j h4 n e1)).resolve_right e2
  ·exact (h11 n (ihS i h5 n e1)).resolve_right e2
  rw [e];exact h8
 |cut o e j i h1 h2 h3 h4 h5 h6 h7 h8 h9 h10 h11 h12 h13=>
  rcases (h13 n).1 hn with ⟨e1,e2⟩|⟨e1,e2⟩
  ·exact (h11 n (ihS j h3 n e1)).resolve_right e2
  exact (h12 n (ihS i h4 n e1)).resolve_right e2
 |t o j h1 h2 h3 h4 h5 h6 h7 h8 h9 h10 h11=>
  rcases (h11 n).1 hn with ⟨e1,e2⟩|e
  ·exact (h10 n (ihS j h5 n e1)).resolve_right e2
  rw [e];exact h8
 |k o j h1 h2 h3 h4 h5 h6 h7 h8 h9 h10=>
  rcases (h10 n).1 hn with ⟨m,e1,e2,e3⟩|e
  ·rw [←e3]
   exact xY h.base ((h9 m (ihS j h4 m e1)).resolve_right e2)
  rw [e];exact h7
 |d j h1 h2 h3 h4 h5 h6 h7 h8=>
  obtain ⟨m,e1,e2⟩:=(h8 n).1 hn
  rw [←e2]
  exact xY h.base (h7 m (ihS j h5 m e1))
theorem ku:(cy b ss).length=bd (cX ss) ss.length:=lh (Nat.le_refl _)
theorem mj {k:Nat} (hk:k<ss.length) (hn:cX ss k=true):∃hc:bd (cX ss) k<(cy b ss).length,(cy b ss)[bd (cX ss) k]=fW b ss k ss[k]:=by
 have:=vo (b:=b) hn (Nat.le_refl _) hk hk
 exact List.getElem?_eq_some_iff.1 this
theorem pq {q:Nat} (hq:q<(cy b ss).length):∃(k:Nat) (hk:k<ss.length),cX ss k=true∧bd (cX ss) k=q∧(cy b ss)[q]=fW b ss k ss[k]:=by
 rw [ku] at hq
 obtain ⟨k,h1,h2,h3⟩:=Ec hq
 subst h3
 exact ⟨k,h1,h2,rfl,(mj h1 h2).2⟩
theorem rK {k:Nat} (hk:k<ss.length) (hn:cX ss k=true):dh (cy b ss) (bd (cX ss) k:Nat)=mJ b ss k:=by
 obtain ⟨h1,h2⟩:=mj (b:=b) hk hn
 rw [eN h1,h2];rfl
theorem fH.pre (h:fH l b ss) {k j:Nat} (hk:k<ss.length) (hn:cX ss k=true) (hj:(j:Int)∈ss[k].fr):cX ss j=true∧j<k∧bd (cX ss) j<bd (cX ss) k:=by
 have h1:cX ss j=true:=fh.2 (.fr hk (fh.1 hn) hj)
 have h2:=(h.lX k hk).me hj
 exact ⟨h1,by omega,BO (by omega) h1⟩
theorem sT {s u:aB} {ag:Int} {n:Nat} (hs:∀m,u.getLsbD m=true→s.getLsbD m=true) (hu:u.getLsbD (eS b s ag n)=true):eS b u ag n=eS b s ag n:=by
 rcases dH (b:=b) (s:=u) (ag:=ag) (n:=n) with ⟨i,h1,h2,h3,h4,h5,h6,h7⟩|⟨h1,h2⟩
 ·rcases dH (b:=b) (s:=s) (ag:=ag) (n:=n) with ⟨j,g1,g2,g3,g4,g5,g6,g7⟩|⟨g1,g2⟩
  ·have:¬i<j:=fun hlt=>g7 i hlt (hs _ h3) h4 h5 h6
   rw [h1,g1]
   rw [g1] at hu
   by_cases e:i=j
   ·exact e
   exact absurd g6 (h7 j (by omega) hu g4 g5)
  ·exact absurd h6 (g2 i h2 (hs _ h3) h4 h5)
 rcases dH (b:=b) (s:=s) (ag:=ag) (n:=n) with ⟨j,g1,g2,g3,g4,g5,g6,g7⟩|⟨g1,g2⟩
 ·rw [g1] at hu;exact absurd g6 (h2 j g2 hu g4 g5)
 rw [h1,g1]
theorem zD (hb:aW b) {s u:aB} {ag:Int} {n:Nat} (hn:(lF l b s ag).getLsbD n=true) (hu:u.getLsbD (eS b s ag n)=true):(lF l b u ag).getLsbD n=true:=by
 rw [kh hb]
 rcases dH (b:=b) (s:=s) (ag:=ag) (n:=n) with ⟨j,g1,g2,g3,g4,g5,g6,g7⟩|⟨g1,g2⟩
 ·rw [g1] at hu;exact ⟨j,g2,hu,g5,.inl ⟨g4,g6⟩⟩
 rw [g1] at hu
 obtain ⟨i,k1,k2,k3,k4⟩:=(kh hb).1 hn
 rcases k4 with ⟨k4,k5⟩|⟨k4,k5⟩
 ·exact absurd k5 (g2 i k1 k2 k4 k3)
 subst k4;exact ⟨n,k1,hu,k3,.inr ⟨rfl,k5⟩⟩
theorem fH.CW (h:fH l b ss) {k:Nat} (hk:k<ss.length) (hn:cX ss k=true):ey l b (cy b ss) (bd (cX ss) k) (fW b ss k ss[k]):=by
 have hb:=h.base
 have hlen:=hb.len
 have hbw:∀{i:Int} {n:Nat},0≤i→i<64→((bW i).getLsbD n=true↔(n:Int)=i):=fun h1 h2=>od ⟨h1,h2⟩
 have hsub:=h.sub k hk
 have hsb:∀(j:Nat),(j:Int)∈ss[k].fr→∀m,Us b ss j m→(dh ss j).getLsbD m=true:=fun j hj m hm=>by
  have:=(h.pre hk hn hj).2.1
  rw [eN (by omega)];exact h.sub j (by omega) m hm
 have hset:∀(j:Nat),(j:Int)∈ss[k].fr→dh (cy b ss) (bd (cX ss) j:Nat)=mJ b ss j:=fun j hj=>
  rK (by have:=(h.pre hk hn hj).2.1;omega) (h.pre hk hn hj).1
 refine ⟨fun n hn=>(h.lX k hk).1 n (hsub n hn),?_⟩
 have hin:∀{o:Nat},Us b ss k o→eU (fW b ss k ss[k]).set o=true:=fun h=>pR.2 h
 cases h.C3 hk with
 |tP o h1 h2 h3 h4 h5 h6 h7=>
  have e0:(nd b ss[k].on).op=2:=by rw [h3];exact h6
  refine .inl ⟨h1,by simp [fW,h2],.inl ⟨⟨by show ss[k].on<_;omega,by show eU _ ss[k].on=true;rw [h3];exact hin ((h7 o).2 rfl),e0⟩,?_⟩⟩
  show (if _ then _ else _)=_
  rw [if_pos ⟨h1,e0⟩]
 |neg o e h1 h2 h3 h4 h5 h6 h7 h8 h9 h10 h11 h12=>
  have e0:¬(nd b ss[k].on).op=2:=by rw [h3];exact h6
  have ee:(fW b ss k ss[k]).e=e:=by
   show (if _ then _ else _)=_
   rw [if_neg (fun h=>e0 h.2)];exact h7
  have eo:(fW b ss k ss[k]).on=o:=h3
  refine .inl ⟨h1,by simp [fW,h2],.inr ⟨?_,?_,?_,?_⟩⟩
  ·rw [eo];exact hin ((h12 o).2 (.inl rfl))
  ·rw [eo];omega
  ·rw [ee];exact hin ((h12 e).2 (.inr rfl))
  rw [eo,ee];exact h10
 |and o j h1 h2 h3 h4 h5 h6 h7 h8 h9 h10=>
  have hm:(j:Int)∈ss[k].fr:=by rw [h3];exact List.mem_singleton.2 rfl
  have ee:(fW b ss k ss[k]).e=0:=by show (if _ then _ else _)=_;rw [if_neg (by omega)];exact h2
  have eo:(fW b ss k ss[k]).on=o:=h5
  have ef:(fW b ss k ss[k]).fr=[((bd (cX ss) j:Nat):Int)]:=by simp [fW,h3]
  have hx1:=hb.x h6 (by omega)
  have hy1:=hb.y h6 (by omega)
  refine .inr (.inl ⟨h1,ee,⟨by rw [eo];omega,by rw [eo];exact hin ((h10 o).2 (.inr rfl)),by rw [eo];exact h8⟩,?_⟩)
  rw [ef,eo]
  refine eJ.Fz (h.pre hk hn hm).2.2 (fun n hn=>?_)
  rw [hset j hm] at hn
  rw [cW,cW,hbw (by omega) (by omega),hbw (by omega) (by omega)]
  by_cases c1:(n:Int)=(nd b o).x
  ·exact .inl (.inr c1)
  by_cases c2:(n:Int)=(nd b o).y
  ·exact .inr c2
  exact .inl (.inl ((h10 n).2 (.inl ⟨hn,c1,c2⟩)))
 |or o j i h1 h2 h3 h4 h5 h6 h7 h8 h9 h10 h11 h12=>
  have hm:(j:Int)∈ss[k].fr:=by rw [h3];simp
  have hm2:(i:Int)∈ss[k].fr:=by rw [h3];simp
  have ee:(fW b ss k ss[k]).e=0:=by show (if _ then _ else _)=_;rw [if_neg (by omega)];exact h2
  have eo:(fW b ss k ss[k]).on=o:=h6
  have ef:(fW b ss k ss[k]).fr=[((bd (cX ss) j:Nat):Int),((bd (cX ss) i:Nat):Int)]:=by simp [fW,h3]
  have hx1:=hb.x h7 (by omega)
  have hy1:=hb.y h7 (by omega)
  refine .inr (.inr (.inl ⟨h1,ee,⟨by rw [eo];omega,by rw [eo];exact hin ((h12 o).2 (.inr (.inr rfl))),by rw [eo];exact h9⟩,?_⟩))
  rw [ef,eo]
  refine eJ.H0 (h.pre hk hn hm).2.2 (h.pre hk hn hm2).2.2 (fun n hn=>?_) (fun n hn=>?_)
  ·rw [hset j hm] at hn
   rw [cW,hbw (by omega) (by omega)]
   by_cases c1:(n:Int)=(nd b o).x
   ·exact .inr c1
   exact .inl ((h12 n).2 (.inl ⟨hn,c1⟩))
  rw [hset i hm2] at hn
  rw [cW,hbw (by omega) (by omega)]
  by_cases c1:(n:Int)=(nd b o).y
  ·exact .inr c1
  exact .inl ((h12 n).2 (.inr (.inl ⟨hn,c1⟩)))
 |cut o e j i h1 h2 h3 h4 h5 h6 h7 h8 h9 h10 h11 h12 h13=>
  have hm:(j:Int)∈ss[k].fr:=by rw [h2];simp
  have hm2:(i:Int)∈ss[k].fr:=by rw [h2];simp
  have ee:(fW b ss k ss[k]).e=e:=by show (if _ then _ else _)=_;rw [if_neg (by omega)];exact h7
  have eo:(fW b ss k ss[k]).on=o:=h5
  have ef:(fW b ss k ss[k]).fr=[((bd (cX ss) j:Nat):Int),((bd (cX ss) i:Nat):Int)]:=by simp [fW,h2]
  refine .inr (.inr (.inr (.inl ⟨h1,by rw [eo];omega,by rw [ee];omega,by rw [eo,ee];exact h9,?_⟩)))
  rw [ef,eo,ee]
  refine eJ.H0 (h.pre hk hn hm).2.2 (h.pre hk hn hm2).2.2 (fun n hn=>?_) (fun n hn=>?_)
  ·rw [hset j hm] at hn
   rw [cW,hbw (by omega) (by omega)]
   by_cases c1:n=o
   ·exact .inr (by omega)
   exact .inl ((h13 n).2 (.inl ⟨hn,c1⟩))
  rw [hset i hm2] at hn
  rw [cW,hbw (by omega) (by omega)]
  by_cases c1:n=e
  ·exact .inr (by omega)
  exact .inl ((h13 n).2 (.inr ⟨hn,c1⟩))
 |t o j h1 h2 h3 h4 h5 h6 h7 h8 h9 h10 h11=>
  have hm:(j:Int)∈ss[k].fr:=by rw [h4];exact List.mem_singleton.2 rfl
  have ee:(fW b ss k ss[k]).e=0:=by show (if _ then _ else _)=_;rw [if_neg (by omega)];exact h2
  have eo:(fW b ss k ss[k]).on=o:=h6
  have ef:(fW b ss k ss[k]).fr=[((bd (cX ss) j:Nat):Int)]:=by simp [fW,h4]
  have hx1:=hb.x h7 (by omega)
  refine .inr (.inr (.inr (.inr (.inl ⟨h1,ee,h3,⟨by rw [eo];omega,by rw [eo];exact hin ((h11 o).2 (.inr rfl)),by rw [eo];exact h9⟩,?_⟩))))
  rw [ef,eo]
  refine eJ.Fz (h.pre hk hn hm).2.2 (fun n hn=>?_)
  rw [hset j hm] at hn
  rw [cW,hbw (by omega) (by omega)]
  by_cases c1:(n:Int)=(nd b o).x
  ·exact .inr c1
  exact .inl ((h11 n).2 (.inl ⟨hn,c1⟩))
 |k o j h1 h2 h3 h4 h5 h6 h7 h8 h9 h10=>
  have hm:(j:Int)∈ss[k].fr:=by rw [h3];exact List.mem_singleton.2 rfl
  have ee:(fW b ss k ss[k]).e=0:=by show (if _ then _ else _)=_;rw [if_neg (by omega)];exact h2
  have eo:(fW b ss k ss[k]).on=o:=h5
  have ef:(fW b ss k ss[k]).fr=[((bd (cX ss) j:Nat):Int)]:=by simp [fW,h3]
  have hx1:=hb.x h6 (by omega)
  refine .inr (.inr (.inr (.inr (.inr (.inl ⟨h1,ee,⟨by rw [eo];omega,by rw [eo];exact hin ((h10 o).2 (.inr rfl)),by rw [eo];exact h8⟩,?_⟩)))))
  rw [ef,eo]
  refine eJ.Fz (h.pre hk hn hm).2.2 (fun n hn=>?_)
  rw [hset j hm] at hn
  rw [cW,hbw (by omega) (by omega)]
  by_cases c1:(n:Int)=(nd b o).x
  ·exact .inl c1
  exact .inr (zD hb ((h9 n (hsb j hm n hn)).resolve_right c1) ((h10 _).2 (.inl ⟨n,hn,c1,rfl⟩)))
 |d j h1 h2 h3 h4 h5 h6 h7 h8=>
  have hm:(j:Int)∈ss[k].fr:=by rw [h4];exact List.mem_singleton.2 rfl
  have ee:(fW b ss k ss[k]).e=0:=by show (if _ then _ else _)=_;rw [if_neg (by omega)];exact h2
  have ef:(fW b ss k ss[k]).fr=[((bd (cX ss) j:Nat):Int)]:=by simp [fW,h4]
  refine .inr (.inr (.inr (.inr (.inr (.inr ⟨h1,ee,h3,h6,?_⟩)))))
  rw [ef]
  refine eJ.Fz (h.pre hk hn hm).2.2 (fun n hn=>?_)
  rw [hset j hm] at hn
  exact zD hb (h7 n (hsb j hm n hn)) ((h8 _).2 ⟨n,hn,rfl⟩)
theorem fH.tr (h:fH l b ss):fH l b (cy b ss):=by
 have hlast:cX ss (ss.length - 1)=true:=fh.2 (.last (by have:=h.pos;omega))
 refine ⟨h.log,h.base,?_,?_,fun q hq=>?_⟩
 ·obtain ⟨h1,_⟩:=mj (b:=b) (k:=ss.length - 1) (by have:=h.pos;omega) hlast
  omega
 ·rw [ku];have:=o7 (p:=cX ss) (k:=ss.length);have:=h.len;omega
 obtain ⟨k,hk,h1,h2,h3⟩:=pq hq
 rw [h3,←h2];exact h.CW hk h1
end
end Go.Proofs.Wit
namespace Go.Proofs.Wit
open Go Go.RowKit
/-! trimming twice; the sets of trimmed steps are not empty -/
section
variable {l:Int} {b:List NV} {ss:List SD}
theorem fH.CQ (h:fH l b ss):∀(k:Nat) (_hk:k<ss.length),cX ss k=true→mJ b (cy b ss) (bd (cX ss) k)=mJ b ss k:=by
 intro k
 induction k using Nat.strongRecOn with
 |_ k ih=>
 intro hk hn
 obtain ⟨hc,he⟩:=mj (b:=b) hk hn
 have hT:=h.tr.C3 hc
 rw [he] at hT
 have hus:=h.sub k hk
 have ihn:∀{j:Nat},(j:Int)∈ss[k].fr→∀n,Us b (cy b ss) (bd (cX ss) j) n↔Us b ss j n:=fun {j} hj n=>by
  have h1:=h.pre hk hn hj
  unfold Us
  rw [ih j h1.2.1 (by omega) h1.1]
 have hon:(fW b ss k ss[k]).on=ss[k].on:=rfl
 have hru:(fW b ss k ss[k]).av=ss[k].av:=rfl
 have hse:(fW b ss k ss[k]).set=mJ b ss k:=rfl
 have hfr:(fW b ss k ss[k]).fr=ss[k].fr.map (fun j=>((bd (cX ss) j.toNat:Nat):Int)):=rfl
 apply Gl
 intro n
 show Us b (cy b ss) (bd (cX ss) k) n↔Us b ss k n
 cases h.C3 hk with
 |tP o h1 h2 h3 h4 h5 h6 h7=>
  rw [h7]
  cases hT with
  |tP o' g1 g2 g3 g4 g5 g6 g7=>rw [g7];rw [hon] at g3;omega
  |neg o' e' g1 g2 g3 g4 g5 g6 g7 g8 g9 g10 g11 g12=>
   rw [hon] at g3
   have:o'=o:=by omega
   subst this;exact absurd h6 g6
  |and|or|cut|t|k|d=>simp_all<;>omega
 |neg o e h1 h2 h3 h4 h5 h6 h7 h8 h9 h10 h11 h12=>
  rw [h12]
  cases hT with
  |tP o' g1 g2 g3 g4 g5 g6 g7=>
   rw [hon] at g3
   have:o'=o:=by omega
   subst this;exact absurd g6 h6
  |neg o' e' g1 g2 g3 g4 g5 g6 g7 g8 g9 g10 g11 g12=>
   rw [hon] at g3
   have:o'=o:=by omega
   subst this
   rw [g12];omega
  |and|or|cut|t|k|d=>simp_all<;>omega
 |and o j h1 h2 h3 h4 h5 h6 h7 h8 h9 h10=>
  rw [h10]
  have hm:(j:Int)∈ss[k].fr:=by rw [h3];simp
  rw [h3] at hfr
  cases hT with
  |and o' j' g1 g2 g3 g4 g5 g6 g7 g8 g9 g10=>
   rw [hon] at g5
   have:o'=o:=by omega
   subst this
   rw [hfr] at g3
   simp at g3
   rw [g10,←ihn hm n,show j'=bd (cX ss) j by omega]
  |tP|neg|or|cut|t|k|d=>simp_all<;>omega
 |or o j i h1 h2 h3 h4 h5 h6 h7 h8 h9 h10 h11 h12=>
  rw [h12]
  have hm:(j:Int)∈ss[k].fr:=by rw [h3];simp
  have hm2:(i:Int)∈ss[k].fr:=by rw [h3];simp
  rw [h3] at hfr
  cases hT with
  |or o' j' i' g1 g2 g3 g4 g5 g6 g7 g8 g9 g10 g11 g12=>
   rw [hon] at g6
   have:o'=o:=by omega
   subst this
   rw [hfr] at g3
   simp at g3
   rw [g12,←ihn hm n,←ihn hm2 n,show j'=bd (cX ss) j by omega,show i'=bd (cX ss) i by omega]
  |tP|neg|and|cut|t|k|d=>simp_all<;>omega
 |cut o e j i h1 h2 h3 h4 h5 h6 h7 h8 h9 h10 h11 h12 h13=>
  rw [h13]
  have hm:(j:Int)∈ss[k].fr:=by rw [h2];simp
  have hm2:(i:Int)∈ss[k].fr:=by rw [h2];simp
  rw [h2] at hfr
  cases hT with
  |cut o' e' j' i' g1 g2 g3 g4 g5 g6 g7 g8 g9 g10 g11 g12 g13=>
   rw [hon] at g5
   have:o'=o:=by omega
   subst this
   have:e'=e:=by omega
   subst this
   rw [hfr] at g2
   simp at g2
   rw [g13,←ihn hm n,←ihn hm2 n,show j'=bd (cX ss) j by omega,show i'=bd (cX ss) i by omega]
  |tP|neg|and|or|t|k|d=>simp_all<;>omega
 |t o j h1 h2 h3 h4 h5 h6 h7 h8 h9 h10 h11=>
  rw [h11]
  have hm:(j:Int)∈ss[k].fr:=by rw [h4];simp
  rw [h4] at hfr
  cases hT with
  |t o' j' g1 g2 g3 g4 g5 g6 g7 g8 g9 g10 g11=>
   rw [hon] at g6
   have:o'=o:=by omega
   subst this
   rw [hfr] at g4
   simp at g4
   rw [g11,←ihn hm n,show j'=bd (cX ss) j by omega]
  |tP|neg|and|or|cut|k|d=>simp_all<;>omega
 |k o j h1 h2 h3 h4 h5 h6 h7 h8 h9 h10=>
  have hm:(j:Int)∈ss[k].fr:=by rw [h3];simp
  rw [h3] at hfr
  cases hT with
  |k o' j' g1 g2 g3 g4 g5 g6 g7 g8 g9 g10=>
   rw [hon] at g5
   have:o'=o:=by omega
   subst this
   rw [hfr] at g3
   simp at g3
   rw [g10,h10,hse,show j'=bd (cX ss) j by omega]
   refine or_congr (exists_congr fun m=>?_) Iff.rfl
   rw [ihn hm m]
   refine and_congr_right fun hum=>and_congr_right fun hne=>?_
   rw [sT hus ((h10 _).2 (.inl ⟨m,hum,hne,rfl⟩))]
  |tP|neg|and|or|cut|t|d=>simp_all<;>omega
 |d j h1 h2 h3 h4 h5 h6 h7 h8=>
  have hm:(j:Int)∈ss[k].fr:=by rw [h4];simp
  rw [h4] at hfr
  cases hT with
  |d j' g1 g2 g3 g4 g5 g6 g7 g8=>
   rw [hfr] at g4
   simp at g4
   rw [g8,h8,hse,hon,show j'=bd (cX ss) j by omega]
   refine exists_congr fun m=>?_
   rw [ihn hm m]
   refine and_congr_right fun hum=>?_
   rw [sT hus ((h8 _).2 ⟨m,hum,rfl⟩)]
  |tP|neg|and|or|cut|t|k=>simp_all<;>omega
theorem fH.Fx (_h:fH l b ss) {k:Nat} (hn:xz ss k):xz (cy b ss) (bd (cX ss) k):=by
 induction hn with
 |@last k e=>
  refine .last ?_
  rw [ku,←e,fF,if_pos (fh.2 (.last e))]
 |@fr k j hk hn hm ih=>
  obtain ⟨hc,he⟩:=mj (b:=b) hk (fh.2 hn)
  refine .fr hc ih ?_
  rw [he]
  exact List.mem_map.2 ⟨_,hm,by simp⟩
theorem fH.Eu (h:fH l b ss) {q:Nat} (hq:q<(cy b ss).length):cX (cy b ss) q=true:=by
 obtain ⟨k,_,h1,h2,_⟩:=pq hq
 rw [←h2];exact fh.2 (h.Fx (fh.1 h1))
theorem fH.again (h:fH l b ss):cy b (cy b ss)=cy b ss:=by
 have hall:=fun q hq=>h.Eu (q:=q) hq
 have hcnt:∀k,k≤(cy b ss).length→bd (cX (cy b ss)) k=k:=tS (fun j hj=>hall j hj)
 have hlen:(cy b (cy b ss)).length=(cy b ss).length:=by rw [ku,hcnt _ (Nat.le_refl _)]
 refine List.ext_getElem hlen (fun q h1 h2=>?_)
 obtain ⟨g1,g2⟩:=mj (b:=b) h2 (hall q h2)
 have e1:(cy b (cy b ss))[q]=fW b (cy b ss) q (cy b ss)[q]:=by
  rw [←g2];congr 1;rw [hcnt q (Nat.le_of_lt h2)]
 rw [e1]
 obtain ⟨k,hk,k1,k2,k3⟩:=pq h2
 have hu:mJ b (cy b ss) q=mJ b ss k:=by rw [←k2];exact h.CQ k hk k1
 have hfr:∀f∈(cy b ss)[q].fr,0≤f∧f<q:=fun f hf=>(h.tr.lX q h2).me hf
 have hmap:(cy b ss)[q].fr.map (fun j=>((bd (cX (cy b ss)) j.toNat:Nat):Int))=(cy b ss)[q].fr:=by
  have:∀f∈(cy b ss)[q].fr,((bd (cX (cy b ss)) f.toNat:Nat):Int)=f:=fun f hf=>by
   have:=hfr f hf
   rw [hcnt _ (by omega)];omega
  rw [List.map_congr_left this];simp
 unfold fW
 rw [hmap,hu,k3]
 unfold fW
 dsimp only
 congr 1
 by_cases hc:ss[k].av=1∧(nd b ss[k].on).op=2
 ·rw [if_pos hc,if_pos hc]
 rw [if_neg hc,if_neg hc]
theorem fH.vn (h:fH l b ss):∃(h1:(cy b ss).length - 1<(cy b ss).length) (h2:ss.length - 1<ss.length),(cy b ss)[(cy b ss).length - 1]=fW b ss (ss.length - 1) ss[ss.length - 1]∧cX ss (ss.length - 1)=true:=by
 have hp:=h.pos
 have hlast:cX ss (ss.length - 1)=true:=fh.2 (.last (by omega))
 have hl:ss.length - 1<ss.length:=by omega
 obtain ⟨h1,h2⟩:=mj (b:=b) hl hlast
 have e:(cy b ss).length=bd (cX ss) (ss.length - 1)+1:=by
  rw [ku]
  conv=>lhs;rw [show ss.length=(ss.length - 1)+1 by omega]
  rw [fF,if_pos hlast]
 refine ⟨by omega,hl,?_,hlast⟩
 rw [←h2];congr 1;omega
/-! one world that sees itself -/
def sI:Tr→Bool
 |.leaf op _ _ _=>op==1
 |.un op _ _ _ a=>if op=4 then !sI a else sI a
 |.bin op _ _ _ a c=>if op=5 then sI a && sI c else sI a||sI c
theorem oY:∀{t:Tr},om t→t.ok→sI (aN t).2=!sI t
 |.leaf op i e g,h,hok=>by
  have h1:op≤3:=h
  have h2:=hok.1.1
  rw [aN];dsimp only
  rcases (by omega:op=1∨op=2∨op=3) with rfl|rfl|rfl
  ·rfl
  ·rfl
  rfl
 |.un op i e g a,h,hok=>by
  rcases h with ⟨rfl,j,e',g',rfl⟩|⟨h1,h2⟩
  ·rfl
  have ih:=oY h2 hok.2.2.2.2
  rcases h1 with rfl|rfl
  ·rw [aN,if_neg (by decide),if_pos rfl];exact ih
  rw [aN,if_neg (by decide),if_neg (by decide),if_pos rfl];exact ih
 |.bin op i e g a c,h,hok=>by
  have iha:=oY h.2.1 hok.2.2.2.1
  have ihc:=oY h.2.2 hok.2.2.2.2
  rcases h.1 with rfl|rfl
  ·rw [aN,if_pos rfl]
   show (if (6:Int)=5 then _ else _)=!(if (5:Int)=5 then _ else _)
   rw [if_neg (by decide),if_pos rfl,iha,ihc]
   cases sI a<;>cases sI c<;>rfl
  rw [aN,if_neg (by decide),if_pos rfl]
  show (if (5:Int)=5 then _ else _)=!(if (6:Int)=5 then _ else _)
  rw [if_pos rfl,if_neg (by decide),iha,ihc]
  cases sI a<;>cases sI c<;>rfl
theorem aW.node (h:aW b) {i:Nat} (hi:i<b.length):((nd b i).op≤3∧aa b i=.leaf (nd b i).op (nd b i).i (nd b i).e (nd b i).g)∨(((nd b i).op=4∨(nd b i).op=9∨(nd b i).op=10)∧aa b i=.un (nd b i).op (nd b i).i (nd b i).e (nd b i).g (aa b (nd b i).x.toNat))∨(((nd b i).op=5∨(nd b i).op=6)∧aa b i=.bin (nd b i).op (nd b i).i (nd b i).e (nd b i).g (aa b (nd b i).x.toNat) (aa b (nd b i).y.toNat)):=by
 rw [dJ hi]
 have hO:=(aE.1 h.jH).nodes
 have hn:=h.Cm _ (List.getElem_mem hi)
 unfold eI at hn
 have hX:cF b[i].op=true↔4≤b[i].op:=by
  unfold cF;simp;omega
 have hY:cu b[i].op=true↔b[i].op=5∨b[i].op=6:=by
  unfold cu;simp;omega
 rcases dG hi hO with ⟨h1,h2⟩|⟨h1,h2,h3⟩|⟨h1,h2⟩
 ·refine .inl ⟨?_,h2⟩
  have:¬4≤b[i].op:=fun e=>by rw [hX.2 e] at h1;cases h1
  omega
 ·refine .inr (.inl ⟨?_,h3⟩)
  have:=hX.1 h1
  have:¬(b[i].op=5∨b[i].op=6):=fun e=>by rw [hY.2 e] at h2;cases h2
  omega
 exact .inr (.inr ⟨hY.1 h1,h2⟩)
theorem aW.ok (h:aW b) {i:Nat} (hi:i<b.length):(aa b i).ok:=(aE.1 h.jH).nodes.tree i hi
theorem aW.nf (h:aW b):∀(i:Nat),i<b.length→om (aa b i):=by
 intro i
 induction i using Nat.strongRecOn with
 |_ i ih=>
 intro hi
 rcases h.node hi with ⟨h1,h2⟩|⟨h1,h2⟩|⟨h1,h2⟩
 ·rw [h2];exact h1
 ·have hx:=h.x hi (by omega)
  rw [h2]
  by_cases h4:(nd b i).op=4
  ·have hn:=h.Cm _ (List.getElem_mem hi)
   unfold eI at hn
   rw [←dJ hi] at hn
   have h3:(nd b (nd b i).x).op=3:=by omega
   obtain ⟨k,hk⟩:∃k:Nat,(nd b i).x=k:=⟨(nd b i).x.toNat,by omega⟩
   rw [hk] at h3⊢
   have hkl:k<b.length:=by omega
   rcases h.node hkl with ⟨g1,g2⟩|⟨g1,g2⟩|⟨g1,g2⟩
   ·rw [Int.toNat_natCast,g2,h3]
    exact .inl ⟨h4,_,_,_,rfl⟩
   ·omega
   omega
  exact .inr ⟨by omega,ih _ (by omega) (by omega)⟩
 have hx:=h.x hi (by omega)
 have hy:=h.y hi h1
 rw [h2]
 exact ⟨h1,ih _ (by omega) (by omega),ih _ (by omega) (by omega)⟩
theorem aW.fit (h:aW b) {i:Nat} (hi:i<b.length):Fit (aF (aa b i))∧Fit (aa b i):=by
 have h1:=oc (aE.1 h.jH).nodes.ord hi
 have h2:=h.len
 have h3:(cd (aF (aa b i))).length=(cd (aa b i)).length+1:=sy
 unfold Fit;omega
theorem aW.zk (h:aW b) {i:Nat} (hi:i<b.length):sI (fg (aa b i))=!sI (aa b i):=by
 rw [pE (h.fit hi).1];exact oY (h.nf i hi) (h.ok hi)
theorem fH.ze (h:fH l b ss):∀(k:Nat),k<ss.length→∃n,Us b ss k n∧sI (aa b n)=false:=by
 have hb:=h.base
 intro k
 induction k using Nat.strongRecOn with
 |_ k ih=>
 intro hk
 have hsrc:∀{j:Nat} {s:aB} {ag:Int} {m:Nat},j<ss.length→Us b ss j m→sI (aa b m)=false→sI (aa b (eS b s ag m))=false:=fun {j s ag m} hj hm he=>by
  rcases dH (b:=b) (s:=s) (ag:=ag) (n:=m) with ⟨i,h1,h2,h3,h4,h5,h6,_⟩|⟨h1,_⟩
  ·rw [h1]
   rcases hb.node h2 with ⟨g1,g2⟩|⟨g1,g2⟩|⟨g1,g2⟩
   ·omega
   ·rw [g2,h6]
    show (if _ then _ else _)=_
    rw [if_neg (by omega)];exact he
   omega
  rw [h1];exact he
 cases h.C3 hk with
 |tP o h1 h2 h3 h4 h5 h6 h7=>
  refine ⟨o,(h7 o).2 rfl,?_⟩
  rcases hb.node h4 with ⟨g1,g2⟩|⟨g1,g2⟩|⟨g1,g2⟩
  ·rw [g2,h6];rfl
  ·omega
  omega
 |neg o e h1 h2 h3 h4 h5 h6 h7 h8 h9 h10 h11 h12=>
  cases hv:sI (aa b o) with
  |false=>exact ⟨o,(h12 o).2 (.inl rfl),hv⟩
  |true=>exact ⟨e,(h12 e).2 (.inr rfl),by rw [h11,hb.zk h4,hv];rfl⟩
 |and o j h1 h2 h3 h4 h5 h6 h7 h8 h9 h10=>
  obtain ⟨n,hn,hv⟩:=ih j h4 (by omega)
  have hx:=hb.x h6 (by omega)
  have hy:=hb.y h6 (by omega)
  by_cases c1:(n:Int)=(nd b o).x∨(n:Int)=(nd b o).y
  ·refine ⟨o,(h10 o).2 (.inr rfl),?_⟩
   rcases hb.node h6 with ⟨g1,g2⟩|⟨g1,g2⟩|⟨g1,g2⟩
   ·omega
   ·omega
   rw [g2,h8]
   show (if (5:Int)=5 then _ else _)=_
   rw [if_pos rfl]
   rcases c1 with c1|c1
   ·rw [←c1,Int.toNat_natCast,hv];rfl
   rw [←c1,Int.toNat_natCast,hv,Bool.and_false]
  exact ⟨n,(h10 n).2 (.inl ⟨hn,fun e=>c1 (.inl e),fun e=>c1 (.inr e)⟩),hv⟩
 |or o j i h1 h2 h3 h4 h5 h6 h7 h8 h9 h10 h11 h12=>
  obtain ⟨n,hn,hv⟩:=ih j h4 (by omega)
  obtain ⟨m,hm,hw⟩:=ih i h5 (by omega)
  by_cases c1:(n:Int)=(nd b o).x
  ·by_cases c2:(m:Int)=(nd b o).y
   ·refine ⟨o,(h12 o).2 (.inr (.inr rfl)),?_⟩
    rcases hb.node h7 with ⟨g1,g2⟩|⟨g1,g2⟩|⟨g1,g2⟩
    ·omega
    ·omega
    rw [g2,h9]
    show (if (6:Int)=5 then _ else _)=_
    rw [if_neg (by decide),←c1,←c2,Int.toNat_natCast,Int.toNat_natCast,hv,hw];rfl
   ·exact ⟨m,(h12 m).2 (.inr (.inl ⟨hm,c2⟩)),hw⟩
  exact ⟨n,(h12 n).2 (.inl ⟨hn,c1⟩),hv⟩
 |cut o e j i h1 h2 h3 h4 h5 h6 h7 h8 h9 h10 h11 h12 h13=>
  obtain ⟨n,hn,hv⟩:=ih j h3 (by omega)
  obtain ⟨m,hm,hw⟩:=ih i h4 (by omega)
  by_cases c1:n=o
  ·by_cases c2:m=e
   ·subst c1 c2
    rw [h10,hb.zk h6,hv] at hw;cases hw
   ·exact ⟨m,(h13 m).2 (.inr ⟨hm,c2⟩),hw⟩
  exact ⟨n,(h13 n).2 (.inl ⟨hn,c1⟩),hv⟩
 |t o j h1 h2 h3 h4 h5 h6 h7 h8 h9 h10 h11=>
  obtain ⟨n,hn,hv⟩:=ih j h5 (by omega)
  by_cases c1:(n:Int)=(nd b o).x
  ·refine ⟨o,(h11 o).2 (.inr rfl),?_⟩
   rcases hb.node h7 with ⟨g1,g2⟩|⟨g1,g2⟩|⟨g1,g2⟩
   ·omega
   ·rw [g2,h9,←c1,Int.toNat_natCast]
    show (if (9:Int)=4 then _ else _)=_
    rw [if_neg (by decide)];exact hv
   omega
  exact ⟨n,(h11 n).2 (.inl ⟨hn,c1⟩),hv⟩
 |k o j h1 h2 h3 h4 h5 h6 h7 h8 h9 h10=>
  obtain ⟨n,hn,hv⟩:=ih j h4 (by omega)
  by_cases c1:(n:Int)=(nd b o).x
  ·refine ⟨o,(h10 o).2 (.inr rfl),?_⟩
   rcases hb.node h6 with ⟨g1,g2⟩|⟨g1,g2⟩|⟨g1,g2⟩
   ·omega
   ·rw [g2,h8,←c1,Int.toNat_natCast]
    show (if (10:Int)=4 then _ else _)=_
    rw [if_neg (by decide)];exact hv
   omega
  exact ⟨_,(h10 _).2 (.inl ⟨n,hn,c1,rfl⟩),hsrc (by omega:j<ss.length) hn hv⟩
 |d j h1 h2 h3 h4 h5 h6 h7 h8=>
  obtain ⟨n,hn,hv⟩:=ih j h5 (by omega)
  exact ⟨_,(h8 _).2 ⟨n,hn,rfl⟩,hsrc (by omega:j<ss.length) hn hv⟩
end
end Go.Proofs.Wit
