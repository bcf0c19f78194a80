/- Laws of walks, for any program, under the conditions that each theorem states. -/
import Derived.Test.YtchhieaagchhhaaGreatDoorXT26
set_option maxRecDepth 100000
set_option maxHeartbeats 4000000
namespace Go.Proofs.Wit
open Go
structure KM where
  n:Nat
  R:Nat→Nat→Nat→Prop
  V:Nat→Nat→Prop
  lt:∀k w u,w<n→R k w u→u<n
def KM.Gr (M:KM) (g:Nat) (w u:Nat):Prop:=∃k,k<4∧gb g k=1∧M.R k w u
inductive KM.Ky (M:KM) (g:Nat) (c:Nat→Bool):Nat→Nat→Prop
  |one {w u:Nat}:M.Gr g w u→c u=true→KM.Ky M g c w u
  |step {w u v:Nat}:KM.Ky M g c w u→M.Gr g u v→c v=true→KM.Ky M g c w v
section
variable {M:KM}
structure Mu (M:KM) (l:Int):Prop where
  t:cG l 3=true→∀k w,w<M.n→M.R k w w
  f:cG l 4=true→∀k w u v,w<M.n→M.R k w u→M.R k u v→M.R k w v
  v:cG l 5=true→∀k w u v,w<M.n→M.R k w u→M.R k w v→M.R k u v
  d:cG l 6=true→∀k w,w<M.n→∃u,M.R k w u
end
end Go.Proofs.Wit
namespace Go.Proofs.Wit
open Go Go.RowKit
section
variable {n:Nat} {val:List aC} {rel:List (List aC)}
structure LO (n:Nat) (val:List aC) (rel:List (List aC)) (f:List NV) (t:Tr):Prop where
  jt:aN f=0
  fit:I4 f rel.length val.length=true
  Ml:lp (l6 (ah f)) 1=0
  can:ah f=cm t
  top:bu f=t
  hold:IX (n:Int) val rel f=0
  ok:t.ok
end
end Go.Proofs.Wit
namespace Go.Proofs.Wit
open Go
structure Mx (n1:Nat) (v1:List aC) (r1:List (List aC)) (n:Nat) (v:List aC) (r:List (List aC)) (e:Nat→Nat):Prop where
  Li:n≤64
  Lh:n1≤64
  lt:∀x,x<n1→e x<n
  val:∀i x,x<n1→((v.getD i 0#64).getLsbD (e x)=true↔(v1.getD i 0#64).getLsbD x=true)
  fwd:∀i x y,x<n1→Rl (r1.getD i []) x y→Rl (r.getD i []) (e x) (e y)
  bwd:∀i x z,x<n1→Rl (r.getD i []) (e x) z→∃y,y<n1∧z=e y∧Rl (r1.getD i []) x y
  Me:∀i x y,Rl (r1.getD i []) x y→y<n1
section
variable {n1 n:Nat} {v1 v:List aC} {r1 r:List (List aC)} {e:Nat→Nat}
end
section
variable {na nb:Nat} {va vb:List aC} {ra rb:List (List aC)}
structure Ms (na nb:Nat) (va vb:List aC) (ra rb:List (List aC)):Prop where
  a:Jn (na:Int) va ra
  b:Jn (nb:Int) vb rb
  rl:ra.length=rb.length
  vl:va.length=vb.length
  le:na+nb≤64
end
end Go.Proofs.Wit
namespace Go.Proofs.Wit
open Go Go.RowKit
section
variable {n:Nat} {val:List aC} {rel:List (List aC)}
theorem Eb {op:Int} (ho:1≤op∧op≤21):lp (zS op).toNat 11=0↔op≤11∨op=13:=
 AR (p:=fun op=>lp (zS op).toNat 11=0↔op≤11∨op=13) (by decide) ho
theorem rC {f:List NV}:gO f=0↔aN f=0∧kA (fun op _ _=>op≤11∨op=13) (bu f):=by
 unfold gO;by_cases h1:aN f=0;rw [if_neg (by simp [h1]),dG h1,←D9 (aB.1 h1).top Eb];constructor;intro h;refine ⟨h1,Classical.byContradiction (fun h2=>?_)⟩;rw [if_pos h2] at h;exact absurd h (by decide);intro h;rw [if_neg (by simp [h.2])];rw [if_pos h1];exact ⟨fun h=>absurd h h1,fun h=>absurd h.1 h1⟩
end
theorem mF {l:Int} {ls:List LV}:ik l ls=0↔(0≤l∧l≤6)∧0<ls.length∧ls.length≤400∧∀(k:Nat) (hk:k<ls.length),ec l ls k ls[k]=0:=by
 have hs:∀{k:Nat},dy l ls k=0→∀hk:k<ls.length,dy l ls (k+1)=ec l ls k ls[k]:=fun {k} h hk=>by
  show (if dy l ls k≠0 then dy l ls k else match ls[k]? with|some x=>ec l ls k x|none=>0)=_;rw [if_neg (by simp [h]),List.getElem?_eq_getElem hk]
 have hb:∀{k:Nat},dy l ls k≠0→dy l ls (k+1)=dy l ls k:=fun {k} h=>by
  show (if dy l ls k≠0 then dy l ls k else _)=_;rw [if_pos h]
 have key:∀k,k≤ls.length→(dy l ls k=0↔∀(j:Nat) (hj:j<ls.length),j<k→ec l ls j ls[j]=0):=by
  intro k
  induction k with
  |zero=>exact fun _=>⟨fun _ j _ h=>absurd h (Nat.not_lt_zero _),fun _=>rfl⟩
  |succ k ih=>
   intro hk;have ih:=ih (by omega);constructor;intro h;have h0:dy l ls k=0:=Classical.byContradiction (fun hne=>hne (by rw [←hb hne];exact h));intro j hj hjk;by_cases e:j=k;subst e;rw [←hs h0 hj];exact h;exact ih.1 h0 j hj (by omega);intro h;have h0:=ih.2 (fun j hj hjk=>h j hj (by omega));rw [hs h0 (by omega)];exact h k (by omega) (by omega)
 unfold ik;by_cases h1:¬(0≤l∧l≤6);rw [if_pos h1];exact ⟨fun h=>absurd h (by decide),fun h=>absurd h.1 h1⟩;rw [if_neg h1];by_cases h2:ls.length=0;rw [if_pos h2];exact ⟨fun h=>absurd h (by decide),fun h=>absurd h.2.1 (by omega)⟩;rw [if_neg h2];by_cases h3:400<ls.length;rw [if_pos h3];exact ⟨fun h=>absurd h (by decide),fun h=>absurd h.2.2.1 (by omega)⟩;rw [if_neg h3,key _ (Nat.le_refl _)];exact ⟨fun h=>⟨Classical.not_not.1 h1,by omega,by omega,fun k hk=>h k hk hk⟩,fun h j hj _=>h.2.2.2 j hj⟩
structure LD where
  f:List NV
  r:Int
  a:Int
  b:Int
  g:Int
def LV.d (x:LV):LD:=⟨x.f.f,x.r,x.a,x.b,x.g⟩
def LD.v (x:LD):LV:=⟨⟨none,0,x.f⟩,x.r,x.a,x.b,x.g⟩
section
variable {l:Int} {ls ls':List LV}
theorem El (h:ls.map LV.d=ls'.map LV.d):ls.length=ls'.length:=by have:=congrArg List.length h;simpa using this
theorem G4 (h:ls.map LV.d=ls'.map LV.d) {k:Nat} (hk:k<ls.length) (hk':k<ls'.length):ls[k].d=ls'[k].d:=by
 have h1:(ls.map LV.d)[k]'(by simpa using hk)=(ls'.map LV.d)[k]'(by simpa using hk'):=by simp only [h]
 simpa using h1
theorem DP (h:ls.map LV.d=ls'.map LV.d) (k:Int):uj ls k=uj ls' k:=by
 have e:ls.map (fun x=>bu x.f.f)=ls'.map (fun x=>bu x.f.f):=by
  have h1:∀l:List LV,l.map (fun x=>bu x.f.f)=(l.map LV.d).map (fun x=>bu x.f):=fun l=>by rw [List.map_map];rfl
  rw [h1,h1,h]
 unfold uj;rw [e]
theorem Cx (h:ls.map LV.d=ls'.map LV.d) {x y:LV} (e:x.d=y.d):kC ls x↔kC ls' y:=by
 obtain ⟨⟨xa,xc,xf⟩,xr,x1,x2,x3⟩:=x;obtain ⟨⟨ya,yc,yf⟩,yr,y1,y2,y3⟩:=y;simp only [LV.d,LD.mk.injEq] at e;obtain ⟨rfl,rfl,rfl,rfl,rfl⟩:=e;unfold kC;simp only [DP h]
theorem zl (h:ls.map LV.d=ls'.map LV.d) {i:Nat} {x y:LV} (e:x.d=y.d):ec l ls i x=ec l ls' i y:=by
 have h2:=Cx h e;have en:jy i x=jy i y:=by
  obtain ⟨⟨xa,xc,xf⟩,xr,x1,x2,x3⟩:=x;obtain ⟨⟨ya,yc,yf⟩,yr,y1,y2,y3⟩:=y;simp only [LV.d,LD.mk.injEq] at e;obtain ⟨rfl,rfl,rfl,rfl,rfl⟩:=e;rfl
 have ef:x.f.f=y.f.f:=congrArg LD.f e;have er:x.r=y.r:=congrArg LD.r e;unfold ec;rw [en,ef,er];by_cases k:kC ls x;rw [if_pos k,if_pos (h2.1 k)];rw [if_neg k,if_neg (fun k'=>k (h2.2 k'))]
theorem xd (h:ls.map LV.d=ls'.map LV.d) (h0:ik l ls=0):ik l ls'=0:=by
 obtain ⟨h1,h2,h3,h4⟩:=mF.1 h0;have hl:=El h
 exact mF.2 ⟨h1,by omega,by omega,fun k hk=>by
  have:=h4 k (by omega);rw [←zl h (G4 h (by omega) hk)];exact this⟩
end
theorem nK {l:Int} {ls:List LV} {i:Nat} {x:LV}:ec l ls i x=0↔gO x.f.f=0∧(1≤x.r∧x.r≤12)∧jy i x=0∧cG l x.r=true∧kC ls x:=by
 constructor
 ·intro h
  unfold ec at h;by_cases h1:gO x.f.f=0
  rotate_left
  rw [if_pos h1] at h;exact absurd h h1;rw [if_neg (by simp [h1])] at h;by_cases h2:x.r<1∨12<x.r;rw [if_pos h2] at h;exact absurd h (by decide);rw [if_neg h2] at h;by_cases h3:jy i x=0
  rotate_left
  rw [if_pos h3] at h;exact absurd h h3;rw [if_neg (by simp [h3])] at h;by_cases h4:cG l x.r=false;rw [if_pos h4] at h;exact absurd h (by decide);rw [if_neg h4] at h;by_cases h5:kC ls x
  rotate_left
  rw [if_neg h5] at h;exact absurd h (by decide);exact ⟨h1,by omega,h3,by simpa using h4,h5⟩
 rintro ⟨h1,h2,h3,h4,h5⟩;exact Be h1 h2 h3 h4 h5
theorem sh {i:Int} {x:LV} (h1:1≤x.r) (h12:x.r≤12):jy i x=0↔¬qZ x∧¬qY i x∧0≤x.g∧x.g<4:=by
 constructor;intro h;have k1:¬qZ x:=fun k=>by rw [AS h1 h12 (.inl k)] at h;exact absurd h (by decide)
 have k2:¬qY i x:=fun k=>by rw [AS h1 h12 (.inr k)] at h;exact absurd h (by decide)
 rw [AT h1 h12 k1 k2] at h;refine ⟨k1,k2,?_⟩;by_cases h3:x.g<0∨x.g≥4;rw [if_pos h3] at h;exact absurd h (by decide);omega;rintro ⟨k1,k2,k3⟩;rw [AT h1 h12 k1 k2,if_neg (by omega)]
inductive HV (ls:List LV):Nat→Prop
  |last {k:Nat}:k+1=ls.length→HV ls k
  |a {k:Nat} (hk:k<ls.length):HV ls k→10≤ls[k].r→HV ls ls[k].a.toNat
  |b {k:Nat} (hk:k<ls.length):HV ls k→ls[k].r=10→HV ls ls[k].b.toNat
def br (p:Nat→Bool) (k:Nat):Nat:=((List.range k).filter p).length
theorem iR {p:Nat→Bool} {k:Nat}:br p (k+1)=br p k+(if p k=true then 1 else 0):=by
 unfold br;rw [List.range_succ,List.filter_append,List.length_append];cases h:p k<;>simp [h]
theorem oK {p:Nat→Bool}:∀{k:Nat},br p k≤k
 |0=>Nat.le_refl _
 |k+1=>by have:=oK (p:=p) (k:=k);rw [iR];split<;>omega
theorem zz {p:Nat→Bool} {j k:Nat} (h:j≤k):br p j≤br p k:=by
 induction h with
 |refl=>exact Nat.le_refl _
 |step _ ih=>rw [iR];omega
theorem Er {p:Nat→Bool} {j k:Nat} (h:j<k) (hp:p j=true):br p j<br p k:=by
 have:=zz (p:=p) (show j+1≤k from h);rw [iR,if_pos hp] at this;omega
theorem G6 {p:Nat→Bool} {n q:Nat} (h:q<br p n):∃j,j<n∧p j=true∧br p j=q:=by
 induction n with
 |zero=>exact absurd h (Nat.not_lt_zero _)
 |succ n ih=>
  rw [iR] at h;by_cases h1:q<br p n;obtain ⟨j,h2,h3⟩:=ih h1;exact ⟨j,by omega,h3⟩;by_cases h2:p n=true;rw [if_pos h2] at h;exact ⟨n,by omega,h2,by omega⟩;rw [if_neg h2] at h;omega
section
variable {l:Int} {ls:List LV}
end
theorem rF {t:Tr}:Fit t↔bT t≠[]:=by unfold Fit;exact Fi.symm
open Classical in
noncomputable def eP (t:Tr):Tr:=if Fit (aG t) then (ay t).2 else aG t
theorem o9 {t:Tr} (h:t.ok):(eP t).ok:=by
 unfold eP;split;exact (jQ h).2;exact bH h
structure TL where
  t:Tr
  r:Int
  a:Nat
  b:Nat
  g:Int
def TL.v (x:TL):LV:=⟨⟨none,0,bT x.t⟩,x.r,x.a,x.b,x.g⟩
structure Sg where
  ls:List TL
  bad:Bool
def gA (σ:Sg) (n:Nat):Tr:=(σ.ls.map TL.t).getD n (.leaf 0 0 0 0)
def cI (ts:List Tr) (g:Tr):Tr:=ts.foldr aR g
theorem mG:∀{ts:List Tr} {g:Tr},(∀u∈ts,u.ok)→g.ok→(cI ts g).ok
 |[],_,_,h=>h
 |t::ts,_,h,hg=>dQ (h t (List.mem_cons_self ..)) (mG (ts:=ts) (fun u hu=>h u (List.mem_cons_of_mem _ hu)) hg)
section
variable (T:Tr→Prop)
open Classical in
noncomputable def cy (t:Tr) (r:Int) (a b:Nat) (g:Int) (σ:Sg):Nat×Sg:=
 if σ.bad=true∨¬Fit t∨400≤σ.ls.length∨(r=1∧¬T t) then (0,⟨σ.ls,true⟩) else (σ.ls.length,⟨σ.ls++[⟨t,r,a,b,g⟩],false⟩)
noncomputable def mn (g:Tr):List (Nat×Tr)→Nat→Sg→Nat×Sg
 |[],n,σ=>(n,σ)
 |p::ps,n,σ=>mn g ps (cy T (cI (ps.map (·.2)) g) 10 p.1 n 0 σ).1 (cy T (cI (ps.map (·.2)) g) 10 p.1 n 0 σ).2
noncomputable def aZ (g:Tr) (from_:List Nat) (σ:Sg):Nat×Sg:=
 if σ.bad=true then (0,σ) else
  mn T g (from_.map (fun n=>(n,gA σ n))) (cy T (cI (from_.map (gA σ)) g) 1 0 0 0 σ).1 (cy T (cI (from_.map (gA σ)) g) 1 0 0 0 σ).2
noncomputable def kW (i:Int) (p q:Tr) (σ:Sg):Nat×Sg:=cy T (aR (aw i (aR p q)) (aR (aw i p) (aw i q))) 2 0 0 0 σ
noncomputable def iC (i:Int) (p q:Tr) (line:Nat) (σ:Sg):Nat×Sg:=
 let n:=cy T (aw i (aR p q)) 11 line 0 i σ
 let k:=kW T i p q n.2
 cy T (aR (aw i p) (aw i q)) 10 n.1 k.1 0 k.2
noncomputable def ey (i:Int) (v:Tr) (σ:Sg):Nat×Sg:=cy T (oU (gL i v) (aG (aw i (aG v)))) 7 0 0 0 σ
noncomputable def m4 (ei:Bool) (t:Tr):Tr:=if ei=true then .bin 6 0 0 0 t (eP t) else aG (j8 t (eP t))
noncomputable def uT (op:Int) (a:Tr):Tr:=if op=9 then a else eP a
noncomputable def vT (op:Int) (a:Tr):Tr:=if op=9 then eP a else a
noncomputable def pV (ei:Bool) (op:Int) (a:Tr):Tr:=if ei=true then aG (vT op a) else uT op a
noncomputable def pU (ei:Bool) (op:Int) (a:Tr):Tr:=if ei=true then uT op a else aG (vT op a)
noncomputable def rk (ei:Bool) (op i:Int) (a t:Tr) (x:Nat) (σ:Sg):Nat×Sg:=
 let l:=aZ T (aR (pV ei op a) (pU ei op a)) [x] σ
 let d:=iC T i (pV ei op a) (pU ei op a) l.1 l.2
 let s:=ey T i (vT op a) d.2
 aZ T (m4 ei t) [d.1,s.1] s.2
noncomputable def aK (ei:Bool):Tr→Sg→Nat×Sg
 |.leaf op i e g,σ=>aZ T (m4 ei (.leaf op i e g)) [] σ
 |.un op i e g a,σ=>if op=9∨op=10 then rk T ei op i a (.un op i e g a) (aK ei a σ).1 (aK ei a σ).2 else aZ T (m4 ei (.un op i e g a)) [] σ
 |.bin op i e g a b,σ=>aZ T (m4 ei (.bin op i e g a b)) [(aK ei a σ).1,(aK ei b (aK ei a σ).2).1] (aK ei b (aK ei a σ).2).2
noncomputable def l8 (i:Int) (f:Tr) (σ:Sg):Nat×Sg:=
 match f with
 |.un 10 _ _ _ z=>
  let nz:=aG (aw i (aG z))
  let s:=ey T i z σ
  let f5:=cy T (aR nz (aw i nz)) 5 0 0 0 s.2
  let bk:=aZ T (aR nz f) [s.1] f5.2
  let kn:=iC T i nz f bk.1 bk.2
  aZ T (aR f (aw i f)) [s.1,f5.1,kn.1] kn.2
 |_=>cy T (aR f (aw i f)) 4 0 0 0 σ
end
structure Sg.Le (σ σ':Sg):Prop where
  pre:σ.ls<+:σ'.ls
  ok:σ'.bad=false→σ.bad=false
theorem Sg.Le.refl (σ:Sg):σ.Le σ:=⟨List.prefix_refl _,id⟩
theorem Sg.Le.trans {σ σ' σ'':Sg} (h:σ.Le σ') (g:σ'.Le σ''):σ.Le σ'':=⟨h.pre.trans g.pre,fun e=>h.ok (g.ok e)⟩
def dM (σ:Sg) (n:Nat) (t:Tr):Prop:=σ.bad=false→n<σ.ls.length∧gA σ n=t
theorem C0 {σ σ':Sg} (h:σ.Le σ') {n:Nat} (hn:n<σ.ls.length):gA σ' n=gA σ n:=by
 obtain ⟨u,hu⟩:=h.pre;unfold gA;rw [←hu,List.map_append];simp [List.getD_eq_getElem?_getD,List.getElem?_append_left (show n<(σ.ls.map TL.t).length by simpa using hn)]
theorem dM.le {σ σ':Sg} {n:Nat} {t:Tr} (h:dM σ n t) (g:σ.Le σ'):dM σ' n t:=fun e=>by
 obtain ⟨h1,h2⟩:=h (g.ok e);exact ⟨Nat.lt_of_lt_of_le h1 g.pre.length_le,by rw [C0 g h1];exact h2⟩
section
variable {T:Tr→Prop} {t g:Tr} {r i:Int} {a b n:Nat} {σ:Sg}
theorem j7 (h:σ.bad=true) {gg:Int}:cy T t r a b gg σ=(0,σ):=by
 rw [cy,if_pos (.inl h),←h]
theorem dD {gg:Int}:σ.Le (cy T t r a b gg σ).2:=by
 unfold cy;split;exact ⟨List.prefix_refl _,fun e=>by cases e⟩;rename_i h;exact ⟨List.prefix_append _ _,fun _=>by
  cases hb:σ.bad with
  |false=>rfl
  |true=>exact absurd (.inl hb) h⟩
theorem cd {gg:Int}:dM (cy T t r a b gg σ).2 (cy T t r a b gg σ).1 t:=by
 unfold cy;split;intro e;cases e;intro _;exact ⟨by simp,by simp [gA,List.getD_eq_getElem?_getD]⟩
theorem DK {ps:List (Nat×Tr)}:∀{n:Nat} {σ:Sg},σ.Le (mn T g ps n σ).2:=by
 induction ps with
 |nil=>intro n σ;exact Sg.Le.refl _
 |cons p ps ih=>intro n σ;exact dD.trans ih
theorem dA {from_:List Nat}:σ.Le (aZ T g from_ σ).2:=by
 unfold aZ;split;exact Sg.Le.refl _;exact dD.trans DK
theorem A4 {ps:List (Nat×Tr)}:∀{n:Nat} {σ:Sg},dM σ n (cI (ps.map (·.2)) g)→dM (mn T g ps n σ).2 (mn T g ps n σ).1 g:=by
 induction ps with
 |nil=>intro n σ h;exact h
 |cons p ps ih=>intro n σ _;exact ih cd
theorem eS {from_:List Nat}:dM (aZ T g from_ σ).2 (aZ T g from_ σ).1 g:=by
 unfold aZ;split;rename_i h;intro e;rw [h] at e;cases e;refine A4 ?_;rw [List.map_map];exact cd
theorem ig {from_:List Nat} (h:σ.bad=true):aZ T g from_ σ=(0,σ):=by rw [aZ,if_pos h]
theorem vA {p q:Tr}:σ.Le (kW T i p q σ).2:=dD
theorem oH {p q:Tr} {l:Nat}:σ.Le (iC T i p q l σ).2:=dD.trans (dD.trans dD)
theorem my {p q:Tr} {l:Nat}:dM (iC T i p q l σ).2 (iC T i p q l σ).1 (aR (aw i p) (aw i q)):=cd
theorem BQ {p q:Tr} {l:Nat} (h:σ.bad=true):iC T i p q l σ=(0,σ):=by simp only [iC,kW];rw [j7 h];dsimp only;rw [j7 h];dsimp only;rw [j7 h]
theorem kk {v:Tr}:σ.Le (ey T i v σ).2:=dD
theorem DM {ei:Bool} {op:Int} {a t:Tr} {x:Nat}:σ.Le (rk T ei op i a t x σ).2:=dA.trans (oH.trans (kk.trans dA))
theorem A6 {ei:Bool} {op:Int} {a t:Tr} {x:Nat} (h:σ.bad=true):rk T ei op i a t x σ=(0,σ):=by
 simp only [rk];rw [ig h];dsimp only;rw [BQ h];dsimp only;rw [ey,j7 h];dsimp only;rw [ig h]
theorem A5 {ei:Bool} {op:Int} {a t:Tr} {x:Nat}:dM (rk T ei op i a t x σ).2 (rk T ei op i a t x σ).1 (m4 ei t):=eS
theorem mr {ei:Bool}:∀{t:Tr} {σ:Sg},σ.bad=true→aK T ei t σ=(0,σ)
 |.leaf op i e g,σ,h=>by rw [aK,ig h]
 |.un op i e g a,σ,h=>by
  rw [aK];split;rw [mr (t:=a) h,A6 h];rw [ig h]
 |.bin op i e g a b,σ,h=>by rw [aK,mr (t:=a) h];dsimp only;rw [mr (t:=b) h];dsimp only;rw [ig h]
theorem iZ {ei:Bool}:∀{t:Tr} {σ:Sg},σ.Le (aK T ei t σ).2
 |.leaf op i e g,σ=>by rw [aK];exact dA
 |.un op i e g a,σ=>by
  rw [aK];split;exact (iZ (t:=a)).trans DM;exact dA
 |.bin op i e g a b,σ=>by rw [aK];exact (iZ (t:=a)).trans ((iZ (t:=b)).trans dA)
theorem eQ {ei:Bool}:∀{t:Tr} {σ:Sg},dM (aK T ei t σ).2 (aK T ei t σ).1 (m4 ei t)
 |.leaf op i e g,σ=>by rw [aK];exact eS
 |.un op i e g a,σ=>by
  rw [aK];split;exact A5;exact eS
 |.bin op i e g a b,σ=>by rw [aK];exact eS
theorem uH {f:Tr}:σ.Le (l8 T i f σ).2:=by
 unfold l8;split;exact kk.trans (dD.trans (dA.trans (oH.trans dA)));exact dD
theorem rQ {f:Tr}:dM (l8 T i f σ).2 (l8 T i f σ).1 (aR f (aw i f)):=by
 unfold l8;split;exact eS;exact cd
end
def ae (t:Tr):Prop:=∃l:List Tr,l.Nodup∧(∀u,u∈l↔u∈lX t)∧l.length≤10
def fE (t:Tr):Prop:=t.ok∧kA (fun op _ _=>op≤11∨op=13) t
theorem fE.im {a b:Tr} (h:fE a) (g:fE b):fE (aR a b):=⟨dQ h.1 g.1,.inl (by decide),h.2,g.2⟩
theorem fE.ad {a b:Tr} (h:fE a) (g:fE b):fE (j8 a b):=⟨gQ h.1 g.1,.inl (by decide),h.2,g.2⟩
theorem fE.or {a b:Tr} (h:fE a) (g:fE b):fE (.bin 6 0 0 0 a b):=⟨hJ h.1 g.1,.inl (by decide),h.2,g.2⟩
theorem fE.if {a b:Tr} (h:fE a) (g:fE b):fE (oU a b):=⟨vC h.1 g.1,.inl (by decide),h.2,g.2⟩
theorem fE.nt {a:Tr} (h:fE a):fE (aG a):=⟨bH h.1,.inl (by decide),h.2⟩
theorem fE.kw {a:Tr} {i:Int} (hi:0≤i∧i<4) (h:fE a):fE (aw i a):=⟨bE hi h.1,.inl (by decide),h.2⟩
theorem fE.po {a:Tr} {i:Int} (hi:0≤i∧i<4) (h:fE a):fE (gL i a):=⟨iQ (.inr rfl) hi h.1,.inl (by decide),h.2⟩
theorem fE.ch:∀{ts:List Tr} {g:Tr},(∀u∈ts,fE u)→fE g→fE (cI ts g)
 |[],_,_,h=>h
 |t::ts,_,h,hg=>(h t (List.mem_cons_self ..)).im (fE.ch (ts:=ts) (fun u hu=>h u (List.mem_cons_of_mem _ hu)) hg)
def pF:Tr→Prop
 |.leaf op _ _ _=>op≤3
 |.un op _ _ _ a=>(op=4∧∃i e g,a=.leaf 3 i e g)∨((op=9∨op=10)∧pF a)
 |.bin op _ _ _ a b=>(op=5∨op=6)∧pF a∧pF b
theorem pF.uv:∀{t:Tr},pF t→kA (fun op _ _=>op≤11∨op=13) t
 |.leaf op _ _ _,h=>.inl (by have:op≤3:=h;omega)
 |.un op _ _ _ a,h=>by
  rcases h with ⟨h1,i,e,g,rfl⟩|⟨h1,h2⟩;exact ⟨.inl (by omega),.inl (by decide)⟩;exact ⟨.inl (by omega),h2.uv⟩
 |.bin op _ _ _ a b,h=>⟨.inl (by have:=h.1;omega),h.2.1.uv,h.2.2.uv⟩
theorem xV:∀{t:Tr},pF t→t.ok→fE (ay t).2
 |.leaf op i e g,h,hok=>by
  have ho:op≤3:=h;rw [ay];dsimp only;split;exact ⟨⟨by decide,rfl,by decide⟩,.inl (by decide)⟩;split;exact ⟨⟨by decide,rfl,by decide⟩,.inl (by decide)⟩;exact fE.nt ⟨hok,.inl (by omega)⟩
 |.un op i e g a,h,hok=>by
  rcases h with ⟨rfl,j,e',g',rfl⟩|⟨h1,h2⟩;rw [ay,if_pos rfl];exact ⟨(jQ hok.2.2.2.2).1,.inl (by decide)⟩;have hf:=xV h2 hok.2.2.2.2;have hi:=(oq hok h1).1;rcases h1 with rfl|rfl;rw [ay,if_neg (by decide),if_pos rfl];exact hf.po hi;rw [ay,if_neg (by decide),if_neg (by decide),if_pos rfl];exact hf.kw hi
 |.bin op i e g a b,h,hok=>by
  have ha:=xV h.2.1 hok.2.2.2.1;have hb:=xV h.2.2 hok.2.2.2.2;rcases h.1 with rfl|rfl;rw [ay,if_pos rfl];exact ha.or hb;rw [ay,if_neg (by decide),if_pos rfl];exact ha.ad hb
theorem pF.fr {t:Tr} (h:pF t) (hok:t.ok):fE t:=⟨hok,h.uv⟩
theorem pF.op {t:Tr} (h:pF t) (hok:t.ok):fE (eP t):=by
 unfold eP;split;exact xV h hok;exact (h.fr hok).nt
theorem pZ {r:Tr→Bool} {a b:Tr}:cz r (aR a b)=(!cz r a||cz r b):=rfl
theorem Kd {r:Tr→Bool} {a b:Tr}:cz r (j8 a b)=(cz r a && cz r b):=rfl
theorem I5 {r:Tr→Bool} {a b:Tr} {i e g:Int}:cz r (.bin 6 i e g a b)=(cz r a||cz r b):=rfl
theorem Eh {r:Tr→Bool} {a b:Tr}:cz r (oU a b)=(cz r a==cz r b):=rfl
theorem sq {r:Tr→Bool} {a:Tr}:cz r (aG a)=!cz r a:=rfl
theorem w6 {r:Tr→Bool}:∀{ts:List Tr} {g:Tr},cz r (cI ts g)=true↔((∀u∈ts,cz r u=true)→cz r g=true)
 |[],g=>by simp [cI]
 |t::ts,g=>by
  show cz r (aR t (cI ts g))=true↔_;rw [pZ,Bool.or_eq_true,w6];cases ht:cz r t with
  |false=>simp [ht]
  |true=>simp [ht]
def KI (l:Int) (σ:Sg) (t:Tr) (r:Int) (a b:Nat) (g:Int):Prop:=
 fE t∧cG l r=true∧((r=1∧a=0∧b=0∧g=0∧∀v,cz v t=true)∨(2≤r∧r<10∧a=0∧b=0∧g=0∧pQ r t)∨(r=10∧g=0∧∃A,dM σ a A∧dM σ b (aR A t))∨(r=11∧b=0∧(0≤g∧g<4)∧∃A,dM σ a A∧t=aw g A))
structure Good (l:Int) (σ:Sg):Prop where
  len:σ.ls.length≤400
  tok:∀(k:Nat) (hk:k<σ.ls.length),σ.ls[k].t.ok
  ok:∀(k:Nat) (hk:k<(σ.ls.map TL.v).length),ec l (σ.ls.map TL.v) k (σ.ls.map TL.v)[k]=0
structure uP (l:Int) (P:(Tr→Prop)→Sg→Nat×Sg) (σ:Sg):Prop where
  same:P ae σ=P mO σ
  dV:Good l (P ae σ).2
theorem zk {l:Int} {ls:List LV} {i:Nat} {x:LV} (us:List LV) (hi:i≤ls.length) (h:ec l ls i x=0):ec l (ls++us) i x=0:=by
 rw [nK] at h⊢;obtain ⟨h1,h2,h3,h4,h5⟩:=h;refine ⟨h1,h2,h3,h4,?_⟩;have hp:=ml h2.1 h2.2;obtain ⟨n1,n2,_⟩:=sR h3;have hget:∀k:Int,0≤k→k<i→uj (ls++us) k=uj ls k:=fun k h0 hk=>by
  unfold uj;rw [List.map_append];simp only [List.getD_eq_getElem?_getD];rw [List.getElem?_append_left (by rw [List.length_map];omega)]
 unfold kC at h5⊢;split at h5;rename_i e;rw [if_pos e];have ha:=kq n1 (by omega);have hb:=kq n2 (by omega);rw [hget _ hb.1 hb.2,hget _ ha.1 ha.2];exact h5;rename_i e;rw [if_neg e];split at h5;rename_i e1;rw [if_pos e1,hget _ (kq n1 (by omega)).1 (kq n1 (by omega)).2];exact h5;rename_i e1;rw [if_neg e1];split at h5;rename_i e2;rw [if_pos e2,hget _ (kq n1 (by omega)).1 (kq n1 (by omega)).2];exact h5;rename_i e2;rw [if_neg e2];exact h5
theorem p7 {t:Tr} (h:t.ok) (hf:Fit t):bu (bT t)=t:=(Cf.CB h (rF.1 hf)).top
theorem BB {t:Tr} (h:fE t) (hf:Fit t):gO (bT t)=0:=rC.2 ⟨(Cf.CB h.1 (rF.1 hf)).jt,by rw [p7 h.1 hf];exact h.2⟩
section
variable {l:Int} {σ:Sg}
theorem Good.line (h:Good l σ) {k:Nat} (hk:k<σ.ls.length):fE σ.ls[k].t∧Fit σ.ls[k].t:=by
 have h1:=h.ok k (by simpa using hk);have h2:gO (bT σ.ls[k].t)=0:=by
  have:=(nK.1 h1).1;simpa [TL.v] using this
 have hc:=rC.1 h2;have hne:bT σ.ls[k].t≠[]:=fun e=>by rw [e] at h2;exact absurd h2 (by decide)
 have hfit:=rF.2 hne;refine ⟨?_,hfit⟩;have htop:bu (bT σ.ls[k].t)=σ.ls[k].t:=p7 (h.tok k hk) hfit;exact ⟨h.tok k hk,by rw [←htop];exact hc.2⟩
theorem xw {k:Nat} (hk:k<σ.ls.length):gA σ k=σ.ls[k].t:=by simp [gA,List.getD_eq_getElem?_getD,hk]
theorem Good.has (h:Good l σ) (hb:σ.bad=false) {n:Nat} {t:Tr} (ht:dM σ n t):fE t∧Fit t:=by
 obtain ⟨h1,h2⟩:=ht hb;rw [←h2,xw h1];exact h.line h1
theorem wQ (h:Good l σ) {k:Nat} (hk:k<σ.ls.length) {us:List LV}:uj (σ.ls.map TL.v++us) (k:Int)=gA σ k:=by
 rw [oy (k:=k) (by simp;omega) rfl,List.getElem_append_left (by simpa using hk),xw hk];simp only [List.getElem_map,TL.v];exact p7 (h.line hk).1.1 (h.line hk).2
theorem Ec {ls:List LV} {x:LV} {t:Tr} (ht:bu x.f.f=t) (h:(x.r=10∧uj ls x.b=aR (uj ls x.a) t)∨(x.r=11∧t=aw x.g (uj ls x.a))∨(x.r<10∧pQ x.r t)):kC ls x:=by
 subst ht;unfold kC;rcases h with ⟨h1,h2⟩|⟨h1,h2⟩|⟨h1,h2⟩;rw [if_pos h1];exact h2;rw [if_neg (by omega),if_pos h1];exact h2;rw [if_neg (by omega),if_neg (by omega),if_neg (by omega)];exact h2
theorem iu {t:Tr} {r g:Int} {a b:Nat} (h:Good l σ) (ha:σ.bad=false→Fit t→KI l σ t r a b g):uP l (fun T=>cy T t r a b g) σ:=by
 have hsame:cy ae t r a b g σ=cy mO t r a b g σ:=by
  cases hb:σ.bad with
  |true=>rw [j7 hb,j7 hb]
  |false=>
   by_cases hf:Fit t
   ·obtain ⟨_,_,hc⟩:=ha hb hf
    by_cases hr:r=1
    ·have:ae t=mO t:=by
      rcases hc with ⟨h1,_,_,_,h2⟩|⟨h1,_⟩|⟨h1,_⟩|⟨h1,_⟩;exact propext ⟨fun h=>⟨h,h2⟩,fun h=>h.1⟩
      all_goals omega
     unfold cy;rw [this]
    have e:∀T:Tr→Prop,(σ.bad=true∨¬Fit t∨400≤σ.ls.length∨(r=1∧¬T t))↔(400≤σ.ls.length):=fun T=>
     ⟨fun h=>by
      rcases h with h|h|h|h;rw [hb] at h;cases h;exact absurd hf h;exact h;exact absurd h.1 hr,fun h=>.inr (.inr (.inl h))⟩;unfold cy;by_cases h4:400≤σ.ls.length;rw [if_pos ((e _).2 h4),if_pos ((e _).2 h4)];rw [if_neg (fun h=>h4 ((e _).1 h)),if_neg (fun h=>h4 ((e _).1 h))]
   unfold cy;rw [if_pos (.inr (.inl hf)),if_pos (.inr (.inl hf))]
 refine ⟨hsame,?_⟩;unfold cy;split;exact ⟨h.len,h.tok,h.ok⟩;rename_i hn;have hb:σ.bad=false:=by
  cases e:σ.bad with
  |false=>rfl
  |true=>exact absurd (.inl e) hn
 have hf:Fit t:=Classical.byContradiction fun e=>hn (.inr (.inl e));have hlen:σ.ls.length<400:=by
  have:¬400≤σ.ls.length:=fun e=>hn (.inr (.inr (.inl e)));omega
 have hT:r=1→ae t:=fun e=>Classical.byContradiction fun e'=>hn (.inr (.inr (.inr ⟨e,e'⟩)));obtain ⟨hfr,hl,hc⟩:=ha hb hf;refine ⟨by simp;omega,fun k hk=>?_,fun k hk=>?_⟩;by_cases hkl:k<σ.ls.length;rw [List.getElem_append_left hkl];exact h.tok k hkl;rw [List.getElem_append_right (by omega)];simp only [List.length_append,List.length_cons,List.length_nil] at hk;have:k - σ.ls.length=0:=by omega
 simp only [this,List.getElem_cons_zero];exact hfr.1;simp only [List.map_append,List.map_cons,List.map_nil] at hk⊢;simp only [List.length_append,List.length_map,List.length_cons,List.length_nil] at hk;by_cases hkl:k<σ.ls.length;rw [List.getElem_append_left (by simpa using hkl)];exact zk _ (by simp;omega) (h.ok k (by simpa using hkl));have hke:k=σ.ls.length:=by omega
 subst hke;rw [List.getElem_append_right (by simp)];simp only [List.length_map,Nat.sub_self,List.getElem_cons_zero];have htop:bu (TL.v ⟨t,r,a,b,g⟩).f.f=t:=p7 hfr.1 hf;rw [nK];refine ⟨BB hfr hf,?_,?_,hl,?_⟩;show 1≤r∧r≤12;rcases hc with ⟨h1,_⟩|⟨h1,h2,_⟩|⟨h1,_⟩|⟨h1,_⟩<;>omega
 rw [sh (by show 1≤r;rcases hc with ⟨h1,_⟩|⟨h1,h2,_⟩|⟨h1,_⟩|⟨h1,_⟩<;>omega) (by show r≤12;rcases hc with ⟨h1,_⟩|⟨h1,h2,_⟩|⟨h1,_⟩|⟨h1,_⟩<;>omega)];unfold qZ qY;simp only [TL.v];rcases hc with ⟨h1,h2,h3,h4,_⟩|⟨h1,h2,h3,h4,h5,_⟩|⟨h1,h2,A,hA,hB⟩|⟨h1,h2,h3,A,hA,_⟩;subst h2 h3 h4 h1;omega;subst h3 h4 h5;omega;have:=(hA hb).1;have:=(hB hb).1;omega;have:=(hA hb).1;omega;refine Ec htop ?_;rcases hc with ⟨h1,h2,h3,h4,h5⟩|⟨h1,h2,h3,h4,h5,h6⟩|⟨h1,h2,A,hA,hB⟩|⟨h1,h2,h3,A,hA,h4⟩;refine .inr (.inr ⟨show r<10 by omega,?_⟩);show pQ r t;rw [h1];exact ⟨hT h1,h5⟩;exact .inr (.inr ⟨h2,h6⟩);refine .inl ⟨h1,?_⟩;show uj _ (b:Int)=aR (uj _ (a:Int)) t;rw [wQ h (hA hb).1,wQ h (hB hb).1,(hA hb).2,(hB hb).2];refine .inr (.inl ⟨h1,?_⟩);show t=aw g (uj _ (a:Int));rw [wQ h (hA hb).1,(hA hb).2];exact h4
theorem xZ {g:Tr} (hg:fE g):∀{ps:List (Nat×Tr)} {n:Nat} {σ:Sg},Good l σ→cG l 10=true→(∀p∈ps,dM σ p.1 p.2)→dM σ n (cI (ps.map (·.2)) g)→uP l (fun T=>mn T g ps n) σ
 |[],n,σ,h,_,_,_=>⟨rfl,h⟩
 |p::ps,n,σ,h,h10,hps,hn=>by
  have hadm:σ.bad=false→Fit (cI (ps.map (·.2)) g)→KI l σ (cI (ps.map (·.2)) g) 10 p.1 n 0:=fun hb _=>
   ⟨fE.ch (fun u hu=>by
    obtain ⟨q,hq,rfl⟩:=List.mem_map.1 hu;exact (h.has hb (hps q (List.mem_cons_of_mem _ hq))).1) hg,h10,.inr (.inr (.inl ⟨rfl,rfl,p.2,hps p (List.mem_cons_self ..),hn⟩))⟩;have h1:=iu h hadm;have h2:=xZ hg (ps:=ps) (n:=(cy ae (cI (ps.map (·.2)) g) 10 p.1 n 0 σ).1) h1.dV h10 (fun q hq=>(hps q (List.mem_cons_of_mem _ hq)).le dD) cd;refine ⟨?_,h2.dV⟩;show mn ae g ps _ _=mn mO g ps _ _;have e:=h1.same;rw [←e];exact h2.same
theorem GX (l:Int) {r:Int} (h:r=1∨r=2∨r=7∨r=10∨r=11):cG l r=true:=by
 unfold cG;rw [if_neg (by omega),if_neg (by omega),if_neg (by omega),if_neg (by omega)]
theorem eB {g:Tr} {from_:List Nat} (h:Good l σ) (hg:fE g) (hf:σ.bad=false→∀n∈from_,n<σ.ls.length) (ht:σ.bad=false→Fit g→∀v,(∀n∈from_,cz v (gA σ n)=true)→cz v g=true):uP l (fun T=>aZ T g from_) σ:=by
 cases hb:σ.bad with
 |true=>exact ⟨by rw [ig hb,ig hb],by rw [ig hb];exact h⟩
 |false=>
  have hhas:∀n∈from_,dM σ n (gA σ n):=fun n hn=>fun _=>⟨hf hb n hn,rfl⟩;have hfit:∀ts:List Tr,Fit (cI ts g)→Fit g:=fun ts=>by
   induction ts with
   |nil=>exact id
   |cons t ts ih=>exact fun h=>ih (Fit.r h)
  have hadm:σ.bad=false→Fit (cI (from_.map (gA σ)) g)→KI l σ (cI (from_.map (gA σ)) g) 1 0 0 0:=fun _ hft=>
   ⟨fE.ch (fun u hu=>by
    obtain ⟨q,hq,rfl⟩:=List.mem_map.1 hu;exact (h.has hb (hhas q hq)).1) hg,GX l (.inl rfl),.inl ⟨rfl,rfl,rfl,rfl,fun v=>w6.2 fun hall=>ht hb (hfit _ hft) v (fun n hn=>hall _ (List.mem_map_of_mem hn))⟩⟩;have h1:=iu h hadm;have h2:=xZ hg (ps:=from_.map (fun n=>(n,gA σ n))) (n:=(cy ae (cI (from_.map (gA σ)) g) 1 0 0 0 σ).1) h1.dV (GX l (by omega)) (fun q hq=>by
   obtain ⟨n,hn,rfl⟩:=List.mem_map.1 hq;exact (hhas n hn).le dD) (by rw [List.map_map];exact cd);have e:=h1.same;have e2:=h2.same;have g2:=h2.dV;constructor;unfold aZ;rw [if_neg (by rw [hb];decide),if_neg (by rw [hb];decide),←e];exact e2;unfold aZ;rw [if_neg (by rw [hb];decide)];exact g2
theorem E9 {i:Int} {p q:Tr} (hi:0≤i∧i<4) (h:Good l σ) (hp:fE p) (hq:fE q):uP l (fun T=>kW T i p q) σ:=
 iu h (fun _ _=>⟨(hp.im hq|>.kw hi).im ((hp.kw hi).im (hq.kw hi)),GX l (by omega),.inr (.inl ⟨by decide,by decide,rfl,rfl,rfl,⟨i,p,q,rfl⟩⟩)⟩)
theorem ub {i:Int} {v:Tr} (hi:0≤i∧i<4) (h:Good l σ) (hv:fE v):uP l (fun T=>ey T i v) σ:=
 iu h (fun _ _=>⟨(hv.po hi).if (hv.nt.kw hi).nt,GX l (by omega),.inr (.inl ⟨by decide,by decide,rfl,rfl,rfl,⟨i,v,rfl⟩⟩)⟩)
theorem ys {i:Int} {p q:Tr} {n:Nat} (hi:0≤i∧i<4) (h:Good l σ) (hp:fE p) (hq:fE q) (hn:dM σ n (aR p q)):uP l (fun T=>iC T i p q n) σ:=by
 have h1:uP l (fun T=>cy T (aw i (aR p q)) 11 n 0 i) σ:=iu h (fun _ _=>⟨(hp.im hq).kw hi,GX l (by omega),.inr (.inr (.inr ⟨rfl,rfl,hi,_,hn,rfl⟩))⟩);have h2:=E9 (i:=i) (p:=p) (q:=q) hi h1.dV hp hq;have a1:dM _ _ (aw i (aR p q)):=cd (T:=ae) (σ:=σ) (t:=aw i (aR p q)) (r:=11) (a:=n) (b:=0) (gg:=i);have a2:dM _ _ (aR (aw i (aR p q)) (aR (aw i p) (aw i q))):=cd (T:=ae) (σ:=(cy ae (aw i (aR p q)) 11 n 0 i σ).2) (t:=aR (aw i (aR p q)) (aR (aw i p) (aw i q))) (r:=2) (a:=0) (b:=0) (gg:=0);have h3:=iu (t:=aR (aw i p) (aw i q)) (r:=10) (a:=(cy ae (aw i (aR p q)) 11 n 0 i σ).1) (b:=(kW ae i p q (cy ae (aw i (aR p q)) 11 n 0 i σ).2).1) (g:=0) h2.dV (fun _ _=>⟨(hp.kw hi).im (hq.kw hi),GX l (by omega),.inr (.inr (.inl ⟨rfl,rfl,_,a1.le vA,a2⟩))⟩);have e1:=h1.same;have e2:=h2.same;have e3:=h3.same;constructor;simp only [iC];rw [←e1,←e2];exact e3;exact h3.dV
end
theorem qh {t:Tr} (h:Fit (eP t)):Fit (aG t)∧eP t=(ay t).2:=by
 unfold eP at*;split at h;rename_i hf;rw [if_pos hf];exact ⟨hf,rfl⟩;rename_i hf;exact absurd h hf
theorem w5 {t c:Tr} (h:Fit (aG t)) (hc:c∈kids t):Fit (aG c):=by
 have h1:=jW hc;have h2:(cm (aG t)).length=(cm t).length+1:=uJ;have h3:(cm (aG c)).length=(cm c).length+1:=uJ;unfold Fit at*;omega
theorem qX {t:Tr} (h:Fit (aG t)):eP t=(ay t).2:=if_pos h
theorem uF {ei:Bool} {t:Tr} (h:Fit (m4 ei t)):Fit (eP t):=by
 unfold m4 at h;split at h;exact Fit.r h;exact Fit.r (Fit.u h)
theorem pM {ei:Bool} {t:Tr} {v:Tr→Bool}:cz v (m4 ei t)=if ei=true then (cz v t||cz v (eP t)) else !(cz v t && cz v (eP t)):=by
 unfold m4;split<;>rfl
theorem BX {ei:Bool} {t:Tr} {v:Tr→Bool} (h:cz v (eP t)=!cz v t):cz v (m4 ei t)=true:=by
 rw [pM,h];cases cz v t<;>cases ei<;>rfl
theorem yx {ei:Bool} {t:Tr} (h:pF t) (hok:t.ok):fE (m4 ei t):=by
 unfold m4;split;exact (h.fr hok).or (h.op hok);exact ((h.fr hok).ad (h.op hok)).nt
theorem A1 {op i e g:Int} {v:Tr→Bool} (h:op≤3) (h1:1≤op):cz v (ay (.leaf op i e g)).2=!cz v (.leaf op i e g):=by
 rw [ay];dsimp only;rcases (by omega:op=1∨op=2∨op=3) with rfl|rfl|rfl;rw [if_pos rfl];rfl;rw [if_neg (by decide),if_pos rfl];rfl;rw [if_neg (by decide),if_neg (by decide)];rfl
section
variable {l:Int} {σ:Sg}
theorem DL {ei:Bool} {op i e g:Int} {a:Tr} {x:Nat} (ho:op=9∨op=10) (ha:pF a) (hok:(Tr.un op i e g a).ok) (h:Good l σ) (hx:dM σ x (m4 ei a)):uP l (fun T=>rk T ei op i a (.un op i e g a) x) σ:=by
 obtain ⟨hi,rfl,rfl⟩:=oq hok ho;have hao:a.ok:=hok.2.2.2.2;have fa:=ha.fr hao;have fo:=ha.op hao;have fu:fE (uT op a):=by unfold uT;split<;>assumption
 have fv:fE (vT op a):=by unfold vT;split<;>assumption
 have fp:fE (pV ei op a):=by
  unfold pV;split;exact fv.nt;exact fu
 have fq:fE (pU ei op a):=by
  unfold pU;split;exact fu;exact fv.nt
 have h1:uP l (fun T=>aZ T (aR (pV ei op a) (pU ei op a)) [x]) σ:=eB h (fp.im fq) (fun hb n hn=>by rw [List.mem_singleton.1 hn];exact (hx hb).1) (fun hb hf v hv=>by
  have h2:=hv x (List.mem_singleton.2 rfl);rw [(hx hb).2,pM] at h2;rw [pZ];unfold pV pU uT vT;rcases ho with rfl|rfl;simp only [if_true];cases ei;simp only [Bool.false_eq_true,if_false,sq] at h2⊢;cases e1:cz v a<;>cases e2:cz v (eP a)<;>simp_all
  simp only [if_true,sq] at h2⊢;cases e1:cz v a<;>cases e2:cz v (eP a)<;>simp_all
  simp only [show ¬(10:Int)=9 from by decide,if_false];cases ei;simp only [Bool.false_eq_true,if_false,sq] at h2⊢;cases e1:cz v a<;>cases e2:cz v (eP a)<;>simp_all
  simp only [if_true,sq] at h2⊢;cases e1:cz v a<;>cases e2:cz v (eP a)<;>simp_all);have h2:=ys (i:=i) (p:=pV ei op a) (q:=pU ei op a) (n:=(aZ ae (aR (pV ei op a) (pU ei op a)) [x] σ).1) hi h1.dV fp fq eS;have h3:=ub (i:=i) (v:=vT op a) hi h2.dV fv;have k1:dM _ _ (aR (aw i (pV ei op a)) (aw i (pU ei op a))):=my (T:=ae) (i:=i) (p:=pV ei op a) (q:=pU ei op a) (l:=(aZ ae (aR (pV ei op a) (pU ei op a)) [x] σ).1) (σ:=(aZ ae (aR (pV ei op a) (pU ei op a)) [x] σ).2);have k2:dM _ _ (oU (gL i (vT op a)) (aG (aw i (aG (vT op a))))):=cd (T:=ae) (t:=oU (gL i (vT op a)) (aG (aw i (aG (vT op a))))) (r:=7) (a:=0) (b:=0) (gg:=0) (σ:=(iC ae i (pV ei op a) (pU ei op a) (aZ ae (aR (pV ei op a) (pU ei op a)) [x] σ).1 (aZ ae (aR (pV ei op a) (pU ei op a)) [x] σ).2).2);have k1':=k1.le (kk (T:=ae) (i:=i) (v:=vT op a));have hnf:pF (.un op i 0 0 a):=.inr ⟨ho,ha⟩;have h4:=eB (g:=m4 ei (.un op i 0 0 a)) (from_:=[(iC ae i (pV ei op a) (pU ei op a) (aZ ae (aR (pV ei op a) (pU ei op a)) [x] σ).1 (aZ ae (aR (pV ei op a) (pU ei op a)) [x] σ).2).1,(ey ae i (vT op a) (iC ae i (pV ei op a) (pU ei op a) (aZ ae (aR (pV ei op a) (pU ei op a)) [x] σ).1 (aZ ae (aR (pV ei op a) (pU ei op a)) [x] σ).2).2).1]) h3.dV (yx hnf hok) (fun hb n hn=>by
   simp only [List.mem_cons,List.not_mem_nil,or_false] at hn;rcases hn with rfl|rfl;exact (k1' hb).1;exact (k2 hb).1) (fun hb hf v hv=>by
  have e1:=hv _ (List.mem_cons_self ..);have e2:=hv _ (List.mem_cons_of_mem _ (List.mem_cons_self ..));have g1:=(k1' hb).2;have g2:=(k2 hb).2;rw [g1] at e1;have e2:cz v (oU (gL i (vT op a)) (aG (aw i (aG (vT op a)))))=true:=g2 ▸ e2;obtain ⟨f1,f2⟩:=qh (uF hf);have f3:eP a=(ay a).2:=qX (w5 f1 (List.mem_cons_self ..));rw [pM,f2];rw [pZ] at e1;rw [Eh,sq] at e2;rcases ho with rfl|rfl;have f4:(ay (.un 9 i 0 0 a)).2=gL i (eP a):=by rw [ay,if_neg (by decide),if_pos rfl,f3]
  rw [f4];have u1:uT 9 a=a:=if_pos rfl;have u2:vT 9 a=eP a:=if_pos rfl;unfold pV pU at e1;rw [u2] at e2;rw [u1,u2] at e1;cases ei;simp only [Bool.false_eq_true,if_false] at e1⊢;cases x1:cz v (.un 9 i 0 0 a)<;>cases x2:cz v (gL i (eP a))<;>cases x3:cz v (aw i (aG (eP a)))<;>simp_all
  simp only [if_true] at e1⊢;cases x1:cz v (.un 9 i 0 0 a)<;>cases x2:cz v (gL i (eP a))<;>cases x3:cz v (aw i (aG (eP a)))<;>simp_all
  have f4:(ay (.un 10 i 0 0 a)).2=aw i (eP a):=by rw [ay,if_neg (by decide),if_neg (by decide),if_pos rfl,f3]
  rw [f4];have u1:uT 10 a=eP a:=if_neg (by decide);have u2:vT 10 a=a:=if_neg (by decide);unfold pV pU at e1;rw [u2] at e2;rw [u1,u2] at e1;cases ei;simp only [Bool.false_eq_true,if_false] at e1⊢;cases x1:cz v (.un 10 i 0 0 a)<;>cases x2:cz v (aw i (eP a))<;>cases x3:cz v (aw i (aG a))<;>simp_all
  simp only [if_true] at e1⊢;cases x1:cz v (.un 10 i 0 0 a)<;>cases x2:cz v (aw i (eP a))<;>cases x3:cz v (aw i (aG a))<;>simp_all);have s1:=h1.same;have s2:=h2.same;have s3:=h3.same;have s4:=h4.same;constructor;simp only [rk];rw [←s1,←s2,←s3];exact s4;exact h4.dV
theorem mW {ei:Bool}:∀{t:Tr},pF t→t.ok→∀{σ:Sg},Good l σ→uP l (fun T=>aK T ei t) σ
 |.leaf op i e g,hn,hok,σ,h=>by
  have h1:uP l (fun T=>aZ T (m4 ei (.leaf op i e g)) []) σ:=eB h (yx hn hok) (fun _ n hn=>by cases hn) (fun _ hf v _=>BX (by
   rw [(qh (uF hf)).2];exact A1 hn hok.1.1));exact ⟨by simp only [aK];exact h1.same,by simp only [aK];exact h1.dV⟩
 |.un op i e g a,hn,hok,σ,h=>by
  by_cases ho:op=9∨op=10;have ha:pF a:=by
   rcases hn with ⟨h1,_⟩|⟨_,h1⟩;omega;exact h1
  have h1:=mW (ei:=ei) ha hok.2.2.2.2 h;have h2:=DL (ei:=ei) (i:=i) (e:=e) (g:=g) (x:=(aK ae ei a σ).1) ho ha hok h1.dV eQ;have s1:=h1.same;have s2:=h2.same;constructor;simp only [aK];rw [if_pos ho,if_pos ho,←s1];exact s2;simp only [aK];rw [if_pos ho];exact h2.dV;have h1:uP l (fun T=>aZ T (m4 ei (.un op i e g a)) []) σ:=eB h (yx hn hok) (fun _ n hn=>by cases hn) (fun _ hf v _=>BX (by
   rw [(qh (uF hf)).2];rcases hn with ⟨rfl,j,e',g',rfl⟩|⟨h1,_⟩;rw [ay,if_pos rfl,ay];show _=!(!_);rw [Bool.not_not];exact absurd h1 ho));exact ⟨by simp only [aK];rw [if_neg ho,if_neg ho];exact h1.same,by simp only [aK];rw [if_neg ho];exact h1.dV⟩
 |.bin op i e g a b,hn,hok,σ,h=>by
  have h1:=mW (ei:=ei) hn.2.1 hok.2.2.2.1 h;have h2:=mW (ei:=ei) hn.2.2 hok.2.2.2.2 h1.dV;have k1:dM _ _ (m4 ei a):=eQ (T:=ae) (ei:=ei) (t:=a) (σ:=σ);have k2:dM _ _ (m4 ei b):=eQ (T:=ae) (ei:=ei) (t:=b) (σ:=(aK ae ei a σ).2);have k1':=k1.le (iZ (T:=ae) (ei:=ei) (t:=b));have h3:=eB (g:=m4 ei (.bin op i e g a b)) (from_:=[(aK ae ei a σ).1,(aK ae ei b (aK ae ei a σ).2).1]) h2.dV (yx hn hok) (fun hb n hn=>by
   simp only [List.mem_cons,List.not_mem_nil,or_false] at hn;rcases hn with rfl|rfl;exact (k1' hb).1;exact (k2 hb).1) (fun hb hf v hv=>by
   have e1:=hv _ (List.mem_cons_self ..);have e2:=hv _ (List.mem_cons_of_mem _ (List.mem_cons_self ..));rw [(k1' hb).2,pM] at e1;rw [(k2 hb).2,pM] at e2;obtain ⟨f1,f2⟩:=qh (uF hf);have fa:eP a=(ay a).2:=qX (w5 f1 (List.mem_cons_self ..));have fb:eP b=(ay b).2:=qX (w5 f1 (List.mem_cons_of_mem _ (List.mem_cons_self ..)));rw [pM,f2];rcases hn.1 with rfl|rfl;have f4:(ay (.bin 5 i e g a b)).2=.bin 6 0 0 0 (eP a) (eP b):=by rw [ay,if_pos rfl,fa,fb]
   have f5:cz v (.bin 5 i e g a b)=(cz v a && cz v b):=rfl;rw [f4,I5,f5];cases ei<;>cases x1:cz v a<;>cases x2:cz v b<;>cases x3:cz v (eP a)<;>cases x4:cz v (eP b)<;>simp_all
   have f4:(ay (.bin 6 i e g a b)).2=j8 (eP a) (eP b):=by rw [ay,if_neg (by decide),if_pos rfl,fa,fb]
   rw [f4,I5,Kd];cases ei<;>cases x1:cz v a<;>cases x2:cz v b<;>cases x3:cz v (eP a)<;>cases x4:cz v (eP b)<;>simp_all);have s1:=h1.same;have s2:=h2.same;have s3:=h3.same;constructor;simp only [aK];rw [←s1,←s2];exact s3;simp only [aK];exact h3.dV
theorem Ew {i:Int} {f z:Tr} (hi:0≤i∧i<4) (hz:fE z) (hf:(f=aw i z∧cG l 4=true)∨(f=gL i z∧cG l 5=true)) (h:Good l σ):uP l (fun T=>l8 T i f) σ:=by
 rcases hf with ⟨rfl,h4⟩|⟨rfl,h5⟩;exact iu h (fun _ _=>⟨(hz.kw hi).im ((hz.kw hi).kw hi),h4,.inr (.inl ⟨by decide,by decide,rfl,rfl,rfl,⟨i,z,rfl⟩⟩)⟩);have fnz:fE (aG (aw i (aG z))):=(hz.nt.kw hi).nt;have h1:=ub (i:=i) (v:=z) hi h hz;have k1:dM _ _ (oU (gL i z) (aG (aw i (aG z)))):=cd (T:=ae) (t:=oU (gL i z) (aG (aw i (aG z)))) (r:=7) (a:=0) (b:=0) (gg:=0) (σ:=σ);have h2:=iu (t:=aR (aG (aw i (aG z))) (aw i (aG (aw i (aG z))))) (r:=5) (a:=0) (b:=0) (g:=0) h1.dV (fun _ _=>⟨fnz.im (fnz.kw hi),h5,.inr (.inl ⟨by decide,by decide,rfl,rfl,rfl,⟨i,aG z,rfl⟩⟩)⟩);have k2:=cd (T:=ae) (t:=aR (aG (aw i (aG z))) (aw i (aG (aw i (aG z))))) (r:=5) (a:=0) (b:=0) (gg:=0) (σ:=(ey ae i z σ).2);obtain ⟨σ1,e1⟩:∃s,s=ey ae i z σ:=⟨_,rfl⟩;obtain ⟨σ2,e2⟩:∃s,s=cy ae (aR (aG (aw i (aG z))) (aw i (aG (aw i (aG z))))) 5 0 0 0 σ1.2:=⟨_,rfl⟩;have k1a:dM σ1.2 σ1.1 (oU (gL i z) (aG (aw i (aG z)))):=by rw [e1];exact k1
 have g1:Good l σ1.2:=by rw [e1];exact h1.dV
 have le2:σ1.2.Le σ2.2:=by rw [e2];exact dD
 have k2a:dM σ2.2 σ2.1 (aR (aG (aw i (aG z))) (aw i (aG (aw i (aG z))))):=by rw [e2,e1];exact k2
 have g2:Good l σ2.2:=by rw [e2,e1];exact h2.dV
 have h3:=eB (g:=aR (aG (aw i (aG z))) (gL i z)) (from_:=[σ1.1]) g2 (fnz.im (hz.po hi)) (fun hb n hn=>by rw [List.mem_singleton.1 hn];exact ((k1a.le le2) hb).1) (fun hb _ v hv=>by
  have q:=hv _ (List.mem_singleton.2 rfl);rw [((k1a.le le2) hb).2,Eh] at q;rw [pZ];cases x1:cz v (gL i z)<;>cases x2:cz v (aG (aw i (aG z)))<;>simp_all);obtain ⟨σ3,e3⟩:∃s,s=aZ ae (aR (aG (aw i (aG z))) (gL i z)) [σ1.1] σ2.2:=⟨_,rfl⟩;have le3:σ2.2.Le σ3.2:=by rw [e3];exact dA
 have g3:Good l σ3.2:=by rw [e3];exact h3.dV
 have k3:dM σ3.2 σ3.1 (aR (aG (aw i (aG z))) (gL i z)):=by rw [e3];exact eS
 have h4:=ys (i:=i) (p:=aG (aw i (aG z))) (q:=gL i z) (n:=σ3.1) hi g3 fnz (hz.po hi) k3;obtain ⟨σ4,e4⟩:∃s,s=iC ae i (aG (aw i (aG z))) (gL i z) σ3.1 σ3.2:=⟨_,rfl⟩;have le4:σ3.2.Le σ4.2:=by rw [e4];exact oH
 have g4:Good l σ4.2:=by rw [e4];exact h4.dV
 have k4:dM σ4.2 σ4.1 (aR (aw i (aG (aw i (aG z)))) (aw i (gL i z))):=by rw [e4];exact my
 have k1b:=k1a.le (le2.trans (le3.trans le4));have k2b:=k2a.le (le3.trans le4);have h5':=eB (g:=aR (gL i z) (aw i (gL i z))) (from_:=[σ1.1,σ2.1,σ4.1]) g4 ((hz.po hi).im ((hz.po hi).kw hi)) (fun hb n hn=>by
  simp only [List.mem_cons,List.not_mem_nil,or_false] at hn;rcases hn with rfl|rfl|rfl;exact (k1b hb).1;exact (k2b hb).1;exact (k4 hb).1) (fun hb _ v hv=>by
  have q1:=hv _ (List.mem_cons_self ..);have q2:=hv _ (List.mem_cons_of_mem _ (List.mem_cons_self ..));have q3:=hv _ (List.mem_cons_of_mem _ (List.mem_cons_of_mem _ (List.mem_cons_self ..)));rw [(k1b hb).2,Eh] at q1;rw [(k2b hb).2,pZ] at q2;rw [(k4 hb).2,pZ] at q3;rw [pZ];cases x1:cz v (gL i z)<;>cases x2:cz v (aG (aw i (aG z)))<;>cases x3:cz v (aw i (aG (aw i (aG z))))<;>cases x4:cz v (aw i (gL i z))<;>simp_all);have s1:=h1.same;have s2:=h2.same;have s3:=h3.same;have s4:=h4.same;have s5:=h5'.same;rw [←e1] at s1 s2;rw [←e2] at s2;rw [←e3] at s3;rw [←e4] at s4;constructor;simp only [l8];rw [←s1,←e1,←s2,←e2,←s3,←e3,←s4,←e4];exact s5;simp only [l8];rw [←e1,←e2,←e3,←e4];exact h5'.dV
end
structure SD where
  set:aC
  al:Int
  on:Int
  e:Int
  fr:List Int
structure SV where
  d:SD
  fa:Option Addr
  fc:Nat
def nd (b:List NV) (i:Int):NV:=b.getD i.toNat ⟨0,0,0,0,0,0⟩
def tA (b:List NV) (i:Int):Tr:=aa b i.toNat
def cU (s:aC) (i:Int):Bool:=decide (0≤i∧i<64) && s.getLsbD i.toNat
def bW (i:Int):aC:=1#64<<<i.toNat
theorem jT {s:aC} {i:Nat}:cU s i=true↔s.getLsbD i=true:=by
 unfold cU;simp only [Bool.and_eq_true,decide_eq_true_eq,Int.toNat_natCast];exact ⟨fun h=>h.2,fun h=>⟨⟨by omega,by have:=BitVec.lt_of_getLsbD h;omega⟩,h⟩⟩
theorem dU {s:aC} {i:Int}:cU s i=true↔∃k:Nat,i=k∧k<64∧s.getLsbD k=true:=by
 unfold cU;simp only [Bool.and_eq_true,decide_eq_true_eq];exact ⟨fun h=>⟨i.toNat,by omega,by omega,h.2⟩,fun ⟨k,h1,h2,h3⟩=>⟨by omega,by subst h1;exact h3⟩⟩
theorem pB {i:Int} {k:Nat} (h:0≤i∧i<64):(bW i).getLsbD k=true↔(k:Int)=i:=by
 unfold bW;rw [xQ (by omega)];omega
noncomputable def jq (b:List NV) (i:Int):Int:=match (List.range b.length).find? (fun j=>decide (aa b j=eP (tA b i))) with
 |some j=>(j:Int)
 |none=>-1
theorem pg {b:List NV} {i:Int} {j:Nat} (hj:j<b.length) (h:aa b j=eP (tA b i)) (hf:∀k,k<j→aa b k≠eP (tA b i)):jq b i=j:=by
 have:(List.range b.length).find? (fun j=>decide (aa b j=eP (tA b i)))=some j:=by
  rw [List.find?_range_eq_some];exact ⟨by simpa using h,by simpa using hj,fun k hk=>by simpa using hf k hk⟩
 unfold jq;rw [this]
theorem sU {b:List NV} {i:Int} (hf:∀k,k<b.length→aa b k≠eP (tA b i)):jq b i=-1:=by
 have:(List.range b.length).find? (fun j=>decide (aa b j=eP (tA b i)))=none:=by
  rw [List.find?_eq_none];intro k hk;simpa using hf k (List.mem_range.1 hk)
 unfold jq;rw [this]
theorem uf {b:List NV} {i:Int} (h:0≤jq b i):∃j:Nat,jq b i=j∧j<b.length∧aa b j=eP (tA b i):=by
 cases e:(List.range b.length).find? (fun j=>decide (aa b j=eP (tA b i))) with
 |none=>unfold jq at h;rw [e] at h;exact absurd h (by decide)
 |some j=>
  have h1:=List.mem_of_find?_eq_some e;have h2:=List.find?_some e;exact ⟨j,by unfold jq;rw [e],List.mem_range.1 h1,by simpa using h2⟩
def pW (l:Int):Prop:=l=3∨l=4∨l=5∨l=6
def uz (l:Int):Prop:=l=5∨l=6
instance {l:Int}:Decidable (pW l):=by unfold pW;infer_instance
instance {l:Int}:Decidable (uz l):=by unfold uz;infer_instance
def uI (l:Int) (b:List NV) (i:Int):aC:=(if (nd b i).op=9 then bW (nd b i).x else 0#64)|||(if ((nd b i).op=9∧pW l)∨((nd b i).op=10∧uz l) then bW i else 0#64)
def jw (l:Int) (b:List NV) (s:aC) (ag:Int):Nat→aC
 |0=>0#64
 |k+1=>if cU s k=true∧(nd b k).i=ag then jw l b s ag k|||uI l b k else jw l b s ag k
def l9 (l:Int) (b:List NV) (s:aC) (ag:Int):aC:=jw l b s ag b.length
def gy (b:List NV) (s:aC):Prop:=∀k,s.getLsbD k=true→k<b.length
def dt (ss:List SD) (k:Int):aC:=(ss.map SD.set).getD k.toNat 0#64
def dY (ss:List SD) (k:Nat):List Int→List aC→Prop
 |[],[]=>True
 |f::fs,s::us=>((0≤f∧f<k)∧dt ss f &&& ~~~ s=0#64)∧dY ss k fs us
 |_,_=>False
def xm (b:List NV) (x:SD) (op:Int):Prop:=x.on<b.length∧cU x.set x.on=true∧(nd b x.on).op=op
def dJ (l:Int) (b:List NV) (ss:List SD) (k:Nat) (x:SD):Prop:=
 gy b x.set∧(
 (x.al=1∧x.fr=[]∧((xm b x 2∧x.e=0)∨(cU x.set x.on=true∧x.on<b.length∧cU x.set x.e=true∧jq b x.on=x.e)))∨
 (x.al=2∧x.e=0∧xm b x 5∧dY ss k x.fr [x.set|||bW (nd b x.on).x|||bW (nd b x.on).y])∨
 (x.al=3∧x.e=0∧xm b x 6∧dY ss k x.fr [x.set|||bW (nd b x.on).x,x.set|||bW (nd b x.on).y])∨
 (x.al=4∧(0≤x.on∧x.on<b.length)∧0≤x.e∧jq b x.on=x.e∧dY ss k x.fr [x.set|||bW x.on,x.set|||bW x.e])∨
 (x.al=5∧x.e=0∧(l=2∨l=4∨l=6)∧xm b x 9∧dY ss k x.fr [x.set|||bW (nd b x.on).x])∨
 (x.al=6∧x.e=0∧xm b x 10∧dY ss k x.fr [bW (nd b x.on).x|||l9 l b x.set (nd b x.on).i])∨
 (x.al=7∧x.e=0∧(l=1∨l=5)∧(0≤x.on∧x.on<4)∧dY ss k x.fr [l9 l b x.set x.on]))
def dw (b:List NV) (n:NV):Prop:=(n.op=1∨n.op=2∨n.op=3∨n.op=5∨n.op=6∨n.op=9∨n.op=10)∨(n.op=4∧(nd b n.x).op=3)
open Classical in
noncomputable def gw (b:List NV):Int:=if aN b≠0 then aN b else if 64<b.length then 8 else if ∀n∈b,dw b n then 0 else 10
noncomputable def df (l:Int) (b:List NV) (m:Nat):Int:=if ¬(0≤l∧l≤6) then 2 else if gw b≠0 then gw b else if m=0∨4096<m then 3 else 0
open Classical in
noncomputable def lD (l:Int) (b:List NV) (ss:List SD):Int:=if df l b ss.length≠0 then df l b ss.length else if ∀(k:Nat) (hk:k<ss.length),dJ l b ss k ss[k] then 0 else 13
theorem jZ {b:List NV}:gw b=0↔aN b=0∧b.length≤64∧∀n∈b,dw b n:=by
 unfold gw;by_cases h2:aN b=0;rw [if_neg (by simp [h2])];by_cases h3:64<b.length;rw [if_pos h3];exact ⟨fun h=>absurd h (by decide),fun h=>by omega⟩;rw [if_neg h3];by_cases h4:∀n∈b,dw b n;rw [if_pos h4];exact ⟨fun _=>⟨h2,by omega,h4⟩,fun _=>rfl⟩;rw [if_neg h4];exact ⟨fun h=>absurd h (by decide),fun h=>absurd h.2.2 h4⟩;rw [if_pos h2];exact ⟨fun h=>absurd h h2,fun h=>absurd h.1 h2⟩
theorem lO {l:Int} {b:List NV} {m:Nat}:df l b m=0↔(0≤l∧l≤6)∧gw b=0∧0<m∧m≤4096:=by
 unfold df;by_cases h1:0≤l∧l≤6;rw [if_neg (by simp [h1])];by_cases h2:gw b=0;rw [if_neg (by simp [h2])];by_cases h3:m=0∨4096<m;rw [if_pos h3];exact ⟨fun h=>absurd h (by decide),fun h=>by omega⟩;rw [if_neg h3];exact ⟨fun _=>⟨h1,h2,by omega⟩,fun _=>rfl⟩;rw [if_pos h2];exact ⟨fun h=>absurd h h2,fun h=>absurd h.2.1 h2⟩;rw [if_pos h1];exact ⟨fun h=>absurd h (by decide),fun h=>absurd h.1 h1⟩
theorem AD {l:Int} {b:List NV} {ss:List SD}:lD l b ss=0↔(0≤l∧l≤6)∧(aN b=0∧b.length≤64∧∀n∈b,dw b n)∧(0<ss.length∧ss.length≤4096)∧∀(k:Nat) (hk:k<ss.length),dJ l b ss k ss[k]:=by
 unfold lD;by_cases h1:df l b ss.length=0;rw [if_neg (by simp [h1])];have h2:=lO.1 h1;have h3:=jZ.1 h2.2.1;by_cases h6:∀(k:Nat) (hk:k<ss.length),dJ l b ss k ss[k];rw [if_pos h6];exact ⟨fun _=>⟨h2.1,h3,h2.2.2,h6⟩,fun _=>rfl⟩;rw [if_neg h6];exact ⟨fun h=>absurd h (by decide),fun h=>absurd h.2.2.2 h6⟩;rw [if_pos h1];exact ⟨fun h=>absurd h h1,fun ⟨a,c,d,_⟩=>absurd (lO.2 ⟨a,jZ.2 c,d⟩) h1⟩
def eY (b:List NV) (s:aC) (ag:Int) (n:Nat):Nat:=((List.range b.length).find? (fun i=>s.getLsbD i && ((nd b i).op==9 && ((nd b i).i==ag && (nd b i).x==(n:Int))))).getD n
def u3 (b:List NV) (s:aC) (ag:Int) (p:aC):aC:=(eC p).foldl (fun o n=>o|||1#64<<<eY b s ag n) 0#64
def gi (b:List NV) (x:SD) (bf:List aC):aC:=
 let p:=bf.getD (x.fr.getD 0 0).toNat 0#64
 let q:=bf.getD (x.fr.getD 1 0).toNat 0#64
 let n:=nd b x.on
 if x.al=1 then (if n.op=2 then bW x.on else bW x.on|||bW x.e)
 else if x.al=4 then p &&& ~~~ bW x.on|||q &&& ~~~ bW x.e
 else if x.al=7 then u3 b x.set x.on p
 else if x.al=2 then p &&& ~~~ (bW n.x|||bW n.y)|||bW x.on
 else if x.al=3 then p &&& ~~~ bW n.x|||q &&& ~~~ bW n.y|||bW x.on
 else if x.al=5 then p &&& ~~~ bW n.x|||bW x.on
 else u3 b x.set n.i (p &&& ~~~ bW n.x)|||bW x.on
def cS (b:List NV) (ss:List SD):Nat→List aC
 |0=>[]
 |k+1=>match ss[k]? with
  |some x=>cS b ss k++[gi b x (cS b ss k)]
  |none=>cS b ss k
theorem kF {b:List NV} {ss:List SD} {k:Nat} (hk:k<ss.length):cS b ss (k+1)=cS b ss k++[gi b ss[k] (cS b ss k)]:=by
 rw [cS,List.getElem?_eq_getElem hk]
theorem jf {b:List NV} {ss:List SD}:∀{k:Nat},k≤ss.length→(cS b ss k).length=k
 |0,_=>rfl
 |k+1,h=>by rw [kF (by omega),List.length_append,jf (by omega)];rfl
theorem uU {b:List NV} {ss:List SD} {j:Nat}:∀{k:Nat},j≤k→k≤ss.length→cS b ss j<+:cS b ss k
 |0,h,_=>by rw [show j=0 by omega];exact List.prefix_refl _
 |k+1,h,h2=>by
  by_cases e:j=k+1;rw [e];exact List.prefix_refl _;rw [kF (by omega)];exact (uU (by omega) (by omega)).trans (List.prefix_append _ _)
def nW (b:List NV) (ss:List SD) (k:Nat):aC:=(cS b ss ss.length).getD k 0#64
theorem kG {b:List NV} {ss:List SD} {j k:Nat} (hj:j<k) (hk:k≤ss.length):(cS b ss k).getD j 0#64=nW b ss j:=by
 obtain ⟨u,hu⟩:=uU (b:=b) (ss:=ss) hk (Nat.le_refl _);unfold nW;rw [←hu,List.getD_eq_getElem?_getD,List.getD_eq_getElem?_getD,List.getElem?_append_left (by rw [jf hk];exact hj)]
theorem Fz {b:List NV} {ss:List SD} {k:Nat} (hk:k<ss.length):nW b ss k=gi b ss[k] (cS b ss k):=by
 rw [←kG (Nat.lt_succ_self k) (by omega),kF hk,List.getD_eq_getElem?_getD,List.getElem?_append_right (by rw [jf (by omega)];exact Nat.le_refl _)];simp [jf (Nat.le_of_lt hk)]
inductive CI (ss:List SD):Nat→Prop
  |last {k:Nat}:k+1=ss.length→CI ss k
  |fr {k j:Nat} (hk:k<ss.length):CI ss k→(j:Int)∈ss[k].fr→CI ss j
open Classical in
noncomputable def dn (ss:List SD) (k:Nat):Bool:=decide (CI ss k)
theorem ib {ss:List SD} {k:Nat}:dn ss k=true↔CI ss k:=by unfold dn;exact @decide_eq_true_iff _ (Classical.propDecidable _)
noncomputable def gI (b:List NV) (ss:List SD) (k:Nat) (x:SD):SD:=
 ⟨nW b ss k,x.al,x.on,if x.al=1∧(nd b x.on).op=2 then 0 else x.e,x.fr.map (fun j=>((br (dn ss) j.toNat:Nat):Int))⟩
noncomputable def nC (b:List NV) (ss:List SD):Nat→List SD
 |0=>[]
 |k+1=>match ss[k]? with
  |some x=>if dn ss k=true then nC b ss k++[gI b ss k x] else nC b ss k
  |none=>nC b ss k
noncomputable def dN (b:List NV) (ss:List SD):List SD:=nC b ss ss.length
theorem jJ {b:List NV} {ss:List SD} {k:Nat} (hk:k<ss.length):nC b ss (k+1)=if dn ss k=true then nC b ss k++[gI b ss k ss[k]] else nC b ss k:=by
 rw [nC,List.getElem?_eq_getElem hk]
theorem kI {b:List NV} {ss:List SD}:∀{k:Nat},k≤ss.length→(nC b ss k).length=br (dn ss) k
 |0,_=>by simp [nC,br]
 |k+1,h=>by
  have h1:=kI (b:=b) (ss:=ss) (k:=k) (by omega);rw [jJ (by omega),iR];split<;>simp [h1]
theorem xv {b:List NV} {ss:List SD} {j:Nat} (hn:dn ss j=true):∀{k:Nat},k≤ss.length→j<k→∀hj:j<ss.length,(nC b ss k)[br (dn ss) j]?=some (gI b ss j ss[j])
 |0,_,h,_=>by omega
 |k+1,h,h2,hj=>by
  rw [jJ (by omega)];by_cases e:j=k;subst e;rw [if_pos hn,List.getElem?_append_right (by rw [kI (by omega)];exact Nat.le_refl _),kI (by omega)];simp;have h3:=xv (b:=b) hn (k:=k) (by omega) (by omega) hj;split;rw [List.getElem?_append_left (List.getElem?_eq_some_iff.1 h3).1];exact h3;exact h3
theorem nZ {s t:aC}:s &&& ~~~ t=0#64↔∀k,s.getLsbD k=true→t.getLsbD k=true:=by
 constructor;intro h k hk;have:=congrArg (fun x=>x.getLsbD k) h;simp only [BitVec.getLsbD_and,BitVec.getLsbD_not,hk,BitVec.getLsbD_zero,Bool.true_and] at this;have h64:=BitVec.lt_of_getLsbD hk;simpa [h64] using this;intro h;apply BitVec.eq_of_getLsbD_eq;intro i hi;simp only [BitVec.getLsbD_and,BitVec.getLsbD_not,BitVec.getLsbD_zero];cases hs:s.getLsbD i with
 |false=>rfl
 |true=>simp [h i hs]
theorem du {s t:aC} {k:Nat}:(s|||t).getLsbD k=true↔s.getLsbD k=true∨t.getLsbD k=true:=by simp
theorem ic {s t:aC} {k:Nat}:(s &&& ~~~ t).getLsbD k=true↔s.getLsbD k=true∧¬t.getLsbD k=true:=by
 simp only [BitVec.getLsbD_and,BitVec.getLsbD_not,Bool.and_eq_true,decide_eq_true_eq,Bool.not_eq_true',Bool.not_eq_true];exact ⟨fun h=>⟨h.1,h.2.2⟩,fun h=>⟨h.1,BitVec.lt_of_getLsbD h.1,h.2⟩⟩
structure aQ (b:List NV):Prop where
  jt:aN b=0
  len:b.length≤64
  DF:∀n∈b,dw b n
section
variable {l:Int} {b:List NV} {ss:List SD}
theorem bM {i:Nat} (hi:i<b.length):nd b i=b[i]:=by simp [nd,List.getD_eq_getElem?_getD,hi]
theorem aQ.x (h:aQ b) {i:Nat} (hi:i<b.length) (hX:4≤(nd b i).op):0≤(nd b i).x∧(nd b i).x<i:=by
 rw [bM hi] at*;have ho:=(aB.1 h.jt).nodes i hi;have h1:=h.DF _ (List.getElem_mem hi);have hu:dh b[i].op=true:=by unfold dh;unfold dw at h1;simp;omega
 have:=ho.x hu;omega
theorem aQ.y (h:aQ b) {i:Nat} (hi:i<b.length) (hX:(nd b i).op=5∨(nd b i).op=6):0≤(nd b i).y∧(nd b i).y<i:=by
 rw [bM hi] at*;have ho:=(aB.1 h.jt).nodes i hi;have hu:cD b[i].op=true:=by unfold cD;rcases hX with e|e<;>rw [e]<;>rfl
 have:=ho.y hu;omega
theorem fQ {s:aC} {ag:Int} {n:Nat}:(∃i,eY b s ag n=i∧i<b.length∧s.getLsbD i=true∧(nd b i).op=9∧(nd b i).i=ag∧(nd b i).x=n∧∀j,j<i→s.getLsbD j=true→(nd b j).op=9→(nd b j).i=ag→(nd b j).x≠n)∨(eY b s ag n=n∧∀j,j<b.length→s.getLsbD j=true→(nd b j).op=9→(nd b j).i=ag→(nd b j).x≠n):=by
 cases e:(List.range b.length).find? (fun i=>s.getLsbD i && ((nd b i).op==9 && ((nd b i).i==ag && (nd b i).x==(n:Int)))) with
 |none=>
  refine .inr ⟨by unfold eY;rw [e];rfl,fun j hj h1 h2 h3 h4=>?_⟩;rw [List.find?_eq_none] at e;exact e j (List.mem_range.2 hj) (by simp [h1,h2,h3,h4])
 |some i=>
  rw [List.find?_range_eq_some] at e;obtain ⟨e1,e2,e3⟩:=e;simp only [Bool.and_eq_true,beq_iff_eq] at e1;refine .inl ⟨i,?_,List.mem_range.1 e2,e1.1,e1.2.1,e1.2.2.1,e1.2.2.2,fun j hj h1 h2 h3 h4=>?_⟩;have:(List.range b.length).find? (fun i=>s.getLsbD i && ((nd b i).op==9 && ((nd b i).i==ag && (nd b i).x==(n:Int))))=some i:=by
   rw [List.find?_range_eq_some];exact ⟨by simp [e1],e2,e3⟩
  unfold eY;rw [this];rfl;have:=e3 j hj;simp [h1,h2,h3,h4] at this
theorem C9 (hl:b.length≤64) {s:aC} {ag:Int} {n:Nat} (hn:n<64):eY b s ag n<64:=by
 rcases fQ (b:=b) (s:=s) (ag:=ag) (n:=n) with ⟨i,h1,h2,_⟩|⟨h1,_⟩;omega;omega
theorem xO {f:Nat→Nat}:∀{ns:List Nat} {o:aC} {k:Nat},(∀n∈ns,f n<64)→((ns.foldl (fun o n=>o|||1#64<<<f n) o).getLsbD k=true↔o.getLsbD k=true∨∃n∈ns,f n=k)
 |[],o,k,_=>by simp
 |n::ns,o,k,h=>by
  rw [List.foldl_cons,xO (fun m hm=>h m (List.mem_cons_of_mem _ hm)),du,xQ (h n (List.mem_cons_self ..))];simp only [List.mem_cons,exists_eq_or_imp];constructor;rintro ((h1|h1)|h1);exact .inl h1;exact .inr (.inl h1.symm);exact .inr (.inr h1);rintro (h1|h1|h1);exact .inl (.inl h1);exact .inl (.inr h1.symm);exact .inr h1
theorem dz {s:aC} {k:Nat}:k∈eC s↔s.getLsbD k=true:=by
 unfold eC;rw [List.mem_filter,List.mem_range];exact ⟨fun h=>h.2,fun h=>⟨BitVec.lt_of_getLsbD h,h⟩⟩
theorem u0 (hl:b.length≤64) {s p:aC} {ag:Int} {k:Nat}:(u3 b s ag p).getLsbD k=true↔∃n,p.getLsbD n=true∧eY b s ag n=k:=by
 unfold u3;rw [xO (fun n hn=>C9 hl (BitVec.lt_of_getLsbD (dz.1 hn)))];simp only [BitVec.getLsbD_zero,Bool.false_eq_true,false_or,dz]
theorem pz (h:aQ b) {s:aC} {ag:Int} {k:Nat}:∀{m:Nat},m≤b.length→((jw l b s ag m).getLsbD k=true↔∃i:Nat,i<m∧s.getLsbD i=true∧(nd b i).i=ag∧(((nd b i).op=9∧(nd b i).x=k)∨(k=i∧(((nd b i).op=9∧pW l)∨((nd b i).op=10∧uz l)))))
 |0,_=>by simp [jw]
 |m+1,hm=>by
  have hcn:(uI l b m).getLsbD k=true↔(((nd b m).op=9∧(nd b m).x=k)∨(k=m∧(((nd b m).op=9∧pW l)∨((nd b m).op=10∧uz l)))):=by
   unfold uI;rw [du];apply or_congr;by_cases h9:(nd b m).op=9;have:=h.x (i:=m) (by omega) (by omega);have:=h.len;rw [if_pos h9,pB (by omega)];exact ⟨fun e=>⟨h9,e.symm⟩,fun e=>e.2.symm⟩;rw [if_neg h9];simp [h9];by_cases h9:((nd b m).op=9∧pW l)∨((nd b m).op=10∧uz l);have:=h.len;rw [if_pos h9,pB (by omega)];exact ⟨fun e=>⟨by omega,h9⟩,fun e=>by omega⟩;rw [if_neg h9];simp [h9]
  rw [jw];by_cases h1:cU s m=true∧(nd b m).i=ag;rw [if_pos h1,du,pz h (by omega),hcn];constructor;rintro (⟨i,h2,h3⟩|h2);exact ⟨i,by omega,h3⟩;exact ⟨m,by omega,jT.1 h1.1,h1.2,h2⟩;rintro ⟨i,h2,h3,h4,h5⟩;by_cases e:i=m;subst e;exact .inr h5;exact .inl ⟨i,by omega,h3,h4,h5⟩;rw [if_neg h1,pz h (by omega)];constructor;rintro ⟨i,h2,h3⟩;exact ⟨i,by omega,h3⟩;rintro ⟨i,h2,h3,h4,h5⟩;by_cases e:i=m;subst e;exact absurd ⟨jT.2 h3,h4⟩ h1;exact ⟨i,by omega,h3,h4,h5⟩
theorem lg (h:aQ b) {s:aC} {ag:Int} {k:Nat}:(l9 l b s ag).getLsbD k=true↔∃i:Nat,i<b.length∧s.getLsbD i=true∧(nd b i).i=ag∧(((nd b i).op=9∧(nd b i).x=k)∨(k=i∧(((nd b i).op=9∧pW l)∨((nd b i).op=10∧uz l)))):=pz h (Nat.le_refl _)
theorem dY.one {k:Nat} {fs:List Int} {s:aC} (h:dY ss k fs [s]):∃j:Nat,fs=[(j:Int)]∧j<k∧∀n,(dt ss j).getLsbD n=true→s.getLsbD n=true:=by
 cases fs with
 |nil=>exact h.elim
 |cons f fs=>
  cases fs with
  |cons _ _=>exact h.2.elim
  |nil=>
   obtain ⟨⟨h1,h2⟩,_⟩:=h;refine ⟨f.toNat,by rw [show ((f.toNat:Nat):Int)=f by omega],by omega,?_⟩;rw [show ((f.toNat:Nat):Int)=f by omega];exact nZ.1 h2
theorem dY.two {k:Nat} {fs:List Int} {s u:aC} (h:dY ss k fs [s,u]):∃j i:Nat,fs=[(j:Int),(i:Int)]∧j<k∧i<k∧(∀n,(dt ss j).getLsbD n=true→s.getLsbD n=true)∧∀n,(dt ss i).getLsbD n=true→u.getLsbD n=true:=by
 cases fs with
 |nil=>exact h.elim
 |cons f fs=>
  obtain ⟨⟨h1,h2⟩,h3⟩:=h;obtain ⟨i,rfl,hi,hu⟩:=dY.one h3;refine ⟨f.toNat,i,by rw [show ((f.toNat:Nat):Int)=f by omega],by omega,hi,?_,hu⟩;rw [show ((f.toNat:Nat):Int)=f by omega];exact nZ.1 h2
theorem dY.II {k j:Nat} {s:aC} (hj:j<k) (h:∀n,(dt ss j).getLsbD n=true→s.getLsbD n=true):dY ss k [(j:Int)] [s]:=⟨⟨by omega,nZ.2 h⟩,trivial⟩
theorem dY.KP {k j i:Nat} {s u:aC} (hj:j<k) (hi:i<k) (h:∀n,(dt ss j).getLsbD n=true→s.getLsbD n=true) (h2:∀n,(dt ss i).getLsbD n=true→u.getLsbD n=true):dY ss k [(j:Int),(i:Int)] [s,u]:=⟨⟨by omega,nZ.2 h⟩,dY.II hi h2⟩
theorem dJ.lV {k:Nat} {x:SD} (h:dJ l b ss k x) {f:Int} (hf:f∈x.fr):0≤f∧f<k:=by
 have one:∀{s:aC},dY ss k x.fr [s]→0≤f∧f<k:=fun h=>by
  obtain ⟨j,e,hj,_⟩:=h.one;rw [e,List.mem_singleton] at hf;omega
 have two:∀{s u:aC},dY ss k x.fr [s,u]→0≤f∧f<k:=fun h=>by
  obtain ⟨j,i,e,hj,hi,_⟩:=h.two;rw [e] at hf;simp only [List.mem_cons,List.not_mem_nil,or_false] at hf;omega
 rcases h.2 with ⟨_,h,_⟩|⟨_,_,_,h⟩|⟨_,_,_,h⟩|⟨_,_,_,_,h⟩|⟨_,_,_,_,h⟩|⟨_,_,_,h⟩|⟨_,_,_,_,h⟩;rw [h] at hf;cases hf;exact one h;exact two h;exact two h;exact one h;exact one h;exact one h
theorem xm.nat (_h:aQ b) {x:SD} {op:Int} (g:xm b x op):∃o:Nat,x.on=o∧o<b.length∧x.set.getLsbD o=true∧(nd b x.on).op=op:=by
 obtain ⟨h1,h2,h3⟩:=g;obtain ⟨k,h4,h5,h6⟩:=dU.1 h2;exact ⟨k,h4,by omega,h6,h3⟩
end
section
variable {l:Int} {b:List NV} {ss:List SD}
abbrev Us (b:List NV) (ss:List SD) (k n:Nat):Prop:=(nW b ss k).getLsbD n=true
inductive sA (l:Int) (b:List NV) (ss:List SD) (k:Nat) (x:SD):Prop
  |Fe (o:Nat):x.al=1→x.fr=[]→x.on=o→o<b.length→x.set.getLsbD o=true→(nd b o).op=2→(∀n,Us b ss k n↔n=o)→sA l b ss k x
  |neg (o e:Nat):x.al=1→x.fr=[]→x.on=o→o<b.length→x.set.getLsbD o=true→(nd b o).op≠2→x.e=e→e<b.length→x.set.getLsbD e=true→jq b o=e→aa b e=eP (aa b o)→(∀n,Us b ss k n↔n=o∨n=e)→sA l b ss k x
  |and (o j:Nat):x.al=2→x.e=0→x.fr=[(j:Int)]→j<k→x.on=o→o<b.length→x.set.getLsbD o=true→(nd b o).op=5→(∀n:Nat,(dt ss j).getLsbD n=true→x.set.getLsbD n=true∨(n:Int)=(nd b o).x∨(n:Int)=(nd b o).y)→(∀n:Nat,Us b ss k n↔(Us b ss j n∧(n:Int)≠(nd b o).x∧(n:Int)≠(nd b o).y)∨n=o)→sA l b ss k x
  |or (o j i:Nat):x.al=3→x.e=0→x.fr=[(j:Int),(i:Int)]→j<k→i<k→x.on=o→o<b.length→x.set.getLsbD o=true→(nd b o).op=6→(∀n:Nat,(dt ss j).getLsbD n=true→x.set.getLsbD n=true∨(n:Int)=(nd b o).x)→(∀n:Nat,(dt ss i).getLsbD n=true→x.set.getLsbD n=true∨(n:Int)=(nd b o).y)→(∀n:Nat,Us b ss k n↔(Us b ss j n∧(n:Int)≠(nd b o).x)∨(Us b ss i n∧(n:Int)≠(nd b o).y)∨n=o)→sA l b ss k x
  |cut (o e j i:Nat):x.al=4→x.fr=[(j:Int),(i:Int)]→j<k→i<k→x.on=o→o<b.length→x.e=e→e<b.length→jq b o=e→aa b e=eP (aa b o)→(∀n:Nat,(dt ss j).getLsbD n=true→x.set.getLsbD n=true∨n=o)→(∀n:Nat,(dt ss i).getLsbD n=true→x.set.getLsbD n=true∨n=e)→(∀n:Nat,Us b ss k n↔(Us b ss j n∧n≠o)∨(Us b ss i n∧n≠e))→sA l b ss k x
  |t (o j:Nat):x.al=5→x.e=0→(l=2∨l=4∨l=6)→x.fr=[(j:Int)]→j<k→x.on=o→o<b.length→x.set.getLsbD o=true→(nd b o).op=9→(∀n:Nat,(dt ss j).getLsbD n=true→x.set.getLsbD n=true∨(n:Int)=(nd b o).x)→(∀n:Nat,Us b ss k n↔(Us b ss j n∧(n:Int)≠(nd b o).x)∨n=o)→sA l b ss k x
  |k (o j:Nat):x.al=6→x.e=0→x.fr=[(j:Int)]→j<k→x.on=o→o<b.length→x.set.getLsbD o=true→(nd b o).op=10→(∀n:Nat,(dt ss j).getLsbD n=true→(l9 l b x.set (nd b o).i).getLsbD n=true∨(n:Int)=(nd b o).x)→(∀n:Nat,Us b ss k n↔(∃m,Us b ss j m∧(m:Int)≠(nd b o).x∧eY b x.set (nd b o).i m=n)∨n=o)→sA l b ss k x
  |d (j:Nat):x.al=7→x.e=0→(l=1∨l=5)→x.fr=[(j:Int)]→j<k→(0≤x.on∧x.on<4)→(∀n:Nat,(dt ss j).getLsbD n=true→(l9 l b x.set x.on).getLsbD n=true)→(∀n:Nat,Us b ss k n↔∃m,Us b ss j m∧eY b x.set x.on m=n)→sA l b ss k x
theorem FL (hb:aQ b) {k:Nat} (hk:k<ss.length) (h:dJ l b ss k ss[k]):sA l b ss k ss[k]:=by
 obtain ⟨x,hx⟩:∃x,x=ss[k]:=⟨_,rfl⟩;have hu:=Fz (b:=b) hk;rw [←hx] at h hu⊢;have hlen:=hb.len;have hbw:∀{i:Int} {n:Nat},0≤i→i<64→((bW i).getLsbD n=true↔(n:Int)=i):=fun h1 h2=>pB ⟨h1,h2⟩;have hp0:∀{j:Nat} {fs:List Int},j<k→x.fr=(j:Int)::fs→(cS b ss k).getD (x.fr.getD 0 0).toNat 0#64=nW b ss j:=fun hj e=>by
  rw [e];exact kG hj (Nat.le_of_lt hk)
 have hp1:∀{j i:Nat},i<k→x.fr=[(j:Int),(i:Int)]→(cS b ss k).getD (x.fr.getD 1 0).toNat 0#64=nW b ss i:=fun hj e=>by
  rw [e];exact kG hj (Nat.le_of_lt hk)
 rcases h.2 with ⟨h1,h2,h3⟩|⟨h1,h2,h3,h4⟩|⟨h1,h2,h3,h4⟩|⟨h1,h2,h3,h4,h5⟩|⟨h1,h2,h3,h4,h5⟩|⟨h1,h2,h3,h4⟩|⟨h1,h2,h3,h4,h5⟩;unfold gi at hu;rw [if_pos h1] at hu;rcases h3 with ⟨h3,h4⟩|⟨h3,h4,h5,h6⟩;obtain ⟨o,e1,e2,e3,e4⟩:=h3.nat hb;rw [if_pos e4] at hu;rw [e1] at e4;exact .Fe o h1 h2 e1 e2 e3 e4 (fun n=>by unfold Us;rw [hu,e1,hbw (by omega) (by omega)];omega);obtain ⟨o,e1,e2,e3⟩:=dU.1 h3;obtain ⟨e,f1,f2,f3⟩:=dU.1 h5;have ho:o<b.length:=by omega
 obtain ⟨j,g1,g2,g3⟩:=uf (b:=b) (i:=x.on) (by omega);have hje:j=e:=by omega
 subst hje;by_cases h2':(nd b x.on).op=2;rw [if_pos h2'] at hu;rw [e1] at h2';exact .Fe o h1 h2 e1 ho e3 h2' (fun n=>by unfold Us;rw [hu,e1,hbw (by omega) (by omega)];omega);rw [if_neg h2'] at hu;rw [e1] at h2' g3 g1;refine .neg o j h1 h2 e1 ho e3 h2' f1 g2 f3 g1 (by rw [g3];rfl) (fun n=>?_);unfold Us;rw [hu,du,e1,f1,hbw (by omega) (by omega),hbw (by omega) (by omega)];omega;obtain ⟨o,e1,e2,e3,e4⟩:=h3.nat hb;obtain ⟨j,f1,f2,f3⟩:=h4.one;rw [e1] at e4 f3;have hx1:=hb.x e2 (by omega);have hy1:=hb.y e2 (by omega);unfold gi at hu;rw [if_neg (by omega),if_neg (by omega),if_neg (by omega),if_pos h1,hp0 f2 f1,e1] at hu;refine .and o j h1 h2 f1 f2 e1 e2 e3 e4 (fun n hn=>?_) (fun n=>?_);have:=f3 n hn;rw [du,du,hbw (by omega) (by omega),hbw (by omega) (by omega)] at this;rcases this with (h|h)|h;exact .inl h;exact .inr (.inl h);exact .inr (.inr h);unfold Us;rw [hu,du,ic,du,hbw (by omega) (by omega),hbw (by omega) (by omega),hbw (by omega) (by omega),not_or];exact or_congr Iff.rfl (by omega);obtain ⟨o,e1,e2,e3,e4⟩:=h3.nat hb;obtain ⟨j,i,f1,f2,f3,f4,f5⟩:=h4.two;rw [e1] at e4 f4 f5;have hx1:=hb.x e2 (by omega);have hy1:=hb.y e2 (by omega);unfold gi at hu;rw [if_neg (by omega),if_neg (by omega),if_neg (by omega),if_neg (by omega),if_pos h1,hp0 f2 f1,hp1 f3 f1,e1] at hu;refine .or o j i h1 h2 f1 f2 f3 e1 e2 e3 e4 (fun n hn=>?_) (fun n hn=>?_) (fun n=>?_);have:=f4 n hn;rwa [du,hbw (by omega) (by omega)] at this;have:=f5 n hn;rwa [du,hbw (by omega) (by omega)] at this;unfold Us
 rw [hu,du,du,ic,ic,hbw (by omega) (by omega),hbw (by omega) (by omega),hbw (by omega) (by omega),or_assoc];exact or_congr Iff.rfl (or_congr Iff.rfl (by omega));obtain ⟨j,i,f1,f2,f3,f4,f5⟩:=h5.two;obtain ⟨e,g1,g2,g3⟩:=uf (b:=b) (i:=x.on) (by omega);obtain ⟨o,e1⟩:∃o:Nat,x.on=o:=⟨x.on.toNat,by omega⟩;have ee:x.e=e:=by omega
 rw [e1] at h2 h4 f4 g1 g3;rw [ee] at f5;unfold gi at hu;rw [if_neg (by omega),if_pos h1,hp0 f2 f1,hp1 f3 f1,e1,ee] at hu;refine .cut o e j i h1 f1 f2 f3 e1 (by omega) ee g2 g1 (by rw [g3];rfl) (fun n hn=>?_) (fun n hn=>?_) (fun n=>?_);have:=f4 n hn;rw [du,hbw (by omega) (by omega)] at this;exact this.imp id (fun h=>by omega);have:=f5 n hn;rw [du,hbw (by omega) (by omega)] at this;exact this.imp id (fun h=>by omega);unfold Us;rw [hu,du,ic,ic,hbw (by omega) (by omega),hbw (by omega) (by omega)];exact or_congr (and_congr Iff.rfl (by omega)) (and_congr Iff.rfl (by omega));obtain ⟨o,e1,e2,e3,e4⟩:=h4.nat hb;obtain ⟨j,f1,f2,f3⟩:=h5.one;rw [e1] at e4 f3;have hx1:=hb.x e2 (by omega);unfold gi at hu;rw [if_neg (by omega),if_neg (by omega),if_neg (by omega),if_neg (by omega),if_neg (by omega),if_pos h1,hp0 f2 f1,e1] at hu;refine .t o j h1 h2 h3 f1 f2 e1 e2 e3 e4 (fun n hn=>?_) (fun n=>?_);have:=f3 n hn;rwa [du,hbw (by omega) (by omega)] at this;unfold Us;rw [hu,du,ic,hbw (by omega) (by omega),hbw (by omega) (by omega)];exact or_congr Iff.rfl (by omega);obtain ⟨o,e1,e2,e3,e4⟩:=h3.nat hb;obtain ⟨j,f1,f2,f3⟩:=h4.one;rw [e1] at e4 f3;have hx1:=hb.x e2 (by omega);unfold gi at hu;rw [if_neg (by omega),if_neg (by omega),if_neg (by omega),if_neg (by omega),if_neg (by omega),if_neg (by omega),hp0 f2 f1,e1] at hu;refine .k o j h1 h2 f1 f2 e1 e2 e3 e4 (fun n hn=>?_) (fun n=>?_);have:=f3 n hn;rw [du,hbw (by omega) (by omega)] at this;exact this.symm;unfold Us
 rw [hu,du,u0 hlen,hbw (by omega) (by omega)];refine or_congr (exists_congr fun m=>?_) (by omega);rw [ic,hbw (by omega) (by omega)];exact and_assoc;obtain ⟨j,f1,f2,f3⟩:=h5.one;unfold gi at hu;rw [if_neg (by omega),if_neg (by omega),if_pos h1,hp0 f2 f1] at hu;refine .d j h1 h2 h3 f1 f2 h4 f3 (fun n=>?_);unfold Us;rw [hu,u0 hlen]
theorem eZ {j:Nat} (hj:j<ss.length):dt ss j=ss[j].set:=by simp [dt,List.getD_eq_getElem?_getD,hj]
structure iS (l:Int) (b:List NV) (ss:List SD):Prop where
  log:0≤l∧l≤6
  base:aQ b
  pos:0<ss.length
  len:ss.length≤4096
  mc:∀(k:Nat) (hk:k<ss.length),dJ l b ss k ss[k]
theorem kK:lD l b ss=0↔iS l b ss:=by
 rw [AD];exact ⟨fun ⟨h1,⟨h2,h3,h4⟩,⟨h5,h6⟩,h7⟩=>⟨h1,⟨h2,h3,h4⟩,h5,h6,h7⟩,fun h=>⟨h.log,⟨h.base.jt,h.base.len,h.base.DF⟩,⟨h.pos,h.len⟩,h.mc⟩⟩
theorem iS.Ie (h:iS l b ss) {k:Nat} (hk:k<ss.length):sA l b ss k ss[k]:=FL h.base hk (h.mc k hk)
theorem Ak (hb:aQ b) {s:aC} {ag:Int} {n:Nat} (hn:(l9 l b s ag).getLsbD n=true):s.getLsbD (eY b s ag n)=true:=by
 rcases fQ (b:=b) (s:=s) (ag:=ag) (n:=n) with ⟨i,h1,h2,h3,_⟩|⟨h1,h2⟩;rw [h1];exact h3;rw [h1];obtain ⟨i,g1,g2,g3,g4⟩:=(lg hb).1 hn;rcases g4 with ⟨g4,g5⟩|⟨g4,g5⟩;exact absurd g5 (h2 i g1 g2 g4 g3);rw [g4];exact g2
theorem iS.sub (h:iS l b ss):∀(k:Nat) (hk:k<ss.length) (n:Nat),Us b ss k n→ss[k].set.getLsbD n=true:=by
 intro k
 induction k using Nat.strongRecOn with
 |_ k ih=>
 intro hk n hn;have ihS:∀(j:Nat),j<k→∀m,Us b ss j m→(dt ss j).getLsbD m=true:=fun j hj m hm=>by
  rw [eZ (by omega)];exact ih j hj (by omega) m hm
 cases h.Ie hk with
 |Fe o h1 h2 h3 h4 h5 h6 h7=>rw [(h7 n).1 hn];exact h5
 |neg o e h1 h2 h3 h4 h5 h6 h7 h8 h9 h10 h11 h12=>
  rcases (h12 n).1 hn with e|e;rw [e];exact h5;rw [e];exact h9
 |and o j h1 h2 h3 h4 h5 h6 h7 h8 h9 h10=>
  rcases (h10 n).1 hn with ⟨e1,e2,e3⟩|e;rcases h9 n (ihS j h4 n e1) with g|g|g;exact g;exact absurd g e2;exact absurd g e3;rw [e];exact h7
 |or o j i h1 h2 h3 h4 h5 h6 h7 h8 h9 h10 h11 h12=>
  rcases (h12 n).1 hn with ⟨e1,e2⟩|⟨e1,e2⟩|e;exact (h10 n (ihS j h4 n e1)).resolve_right e2;exact (h11 n (ihS i h5 n e1)).resolve_right e2;rw [e];exact h8
 |cut o e j i h1 h2 h3 h4 h5 h6 h7 h8 h9 h10 h11 h12 h13=>
  rcases (h13 n).1 hn with ⟨e1,e2⟩|⟨e1,e2⟩;exact (h11 n (ihS j h3 n e1)).resolve_right e2;exact (h12 n (ihS i h4 n e1)).resolve_right e2
 |t o j h1 h2 h3 h4 h5 h6 h7 h8 h9 h10 h11=>
  rcases (h11 n).1 hn with ⟨e1,e2⟩|e;exact (h10 n (ihS j h5 n e1)).resolve_right e2;rw [e];exact h8
 |k o j h1 h2 h3 h4 h5 h6 h7 h8 h9 h10=>
  rcases (h10 n).1 hn with ⟨m,e1,e2,e3⟩|e;rw [←e3];exact Ak h.base ((h9 m (ihS j h4 m e1)).resolve_right e2);rw [e];exact h7
 |d j h1 h2 h3 h4 h5 h6 h7 h8=>
  obtain ⟨m,e1,e2⟩:=(h8 n).1 hn;rw [←e2];exact Ak h.base (h7 m (ihS j h5 m e1))
theorem nY:(dN b ss).length=br (dn ss) ss.length:=kI (Nat.le_refl _)
theorem tO {k:Nat} (hk:k<ss.length) (hn:dn ss k=true):∃hc:br (dn ss) k<(dN b ss).length,(dN b ss)[br (dn ss) k]=gI b ss k ss[k]:=by
 have:=xv (b:=b) hn (Nat.le_refl _) hk hk;exact List.getElem?_eq_some_iff.1 this
theorem wk {q:Nat} (hq:q<(dN b ss).length):∃(k:Nat) (hk:k<ss.length),dn ss k=true∧br (dn ss) k=q∧(dN b ss)[q]=gI b ss k ss[k]:=by
 rw [nY] at hq;obtain ⟨k,h1,h2,h3⟩:=G6 hq;subst h3;exact ⟨k,h1,h2,rfl,(tO h1 h2).2⟩
theorem tT {k:Nat} (hk:k<ss.length) (hn:dn ss k=true):dt (dN b ss) (br (dn ss) k:Nat)=nW b ss k:=by
 obtain ⟨h1,h2⟩:=tO (b:=b) hk hn;rw [eZ h1,h2];rfl
theorem iS.pre (h:iS l b ss) {k j:Nat} (hk:k<ss.length) (hn:dn ss k=true) (hj:(j:Int)∈ss[k].fr):dn ss j=true∧j<k∧br (dn ss) j<br (dn ss) k:=by
 have h1:dn ss j=true:=ib.2 (.fr hk (ib.1 hn) hj);have h2:=(h.mc k hk).lV hj;exact ⟨h1,by omega,Er (by omega) h1⟩
theorem B5 (hb:aQ b) {s u:aC} {ag:Int} {n:Nat} (hn:(l9 l b s ag).getLsbD n=true) (hu:u.getLsbD (eY b s ag n)=true):(l9 l b u ag).getLsbD n=true:=by
 rw [lg hb];rcases fQ (b:=b) (s:=s) (ag:=ag) (n:=n) with ⟨j,g1,g2,g3,g4,g5,g6,g7⟩|⟨g1,g2⟩;rw [g1] at hu;exact ⟨j,g2,hu,g5,.inl ⟨g4,g6⟩⟩;rw [g1] at hu;obtain ⟨i,k1,k2,k3,k4⟩:=(lg hb).1 hn;rcases k4 with ⟨k4,k5⟩|⟨k4,k5⟩;exact absurd k5 (g2 i k1 k2 k4 k3);subst k4;exact ⟨n,k1,hu,k3,.inr ⟨rfl,k5⟩⟩
theorem iS.FF (h:iS l b ss) {k:Nat} (hk:k<ss.length) (hn:dn ss k=true):dJ l b (dN b ss) (br (dn ss) k) (gI b ss k ss[k]):=by
 have hb:=h.base;have hlen:=hb.len;have hbw:∀{i:Int} {n:Nat},0≤i→i<64→((bW i).getLsbD n=true↔(n:Int)=i):=fun h1 h2=>pB ⟨h1,h2⟩;have hsub:=h.sub k hk;have hsb:∀(j:Nat),(j:Int)∈ss[k].fr→∀m,Us b ss j m→(dt ss j).getLsbD m=true:=fun j hj m hm=>by
  have:=(h.pre hk hn hj).2.1;rw [eZ (by omega)];exact h.sub j (by omega) m hm
 have hset:∀(j:Nat),(j:Int)∈ss[k].fr→dt (dN b ss) (br (dn ss) j:Nat)=nW b ss j:=fun j hj=>
  tT (by have:=(h.pre hk hn hj).2.1;omega) (h.pre hk hn hj).1;refine ⟨fun n hn=>(h.mc k hk).1 n (hsub n hn),?_⟩;have hin:∀{o:Nat},Us b ss k o→cU (gI b ss k ss[k]).set o=true:=fun h=>jT.2 h;cases h.Ie hk with
 |Fe o h1 h2 h3 h4 h5 h6 h7=>
  have e0:(nd b ss[k].on).op=2:=by rw [h3];exact h6
  refine .inl ⟨h1,by simp [gI,h2],.inl ⟨⟨by show ss[k].on<_;omega,by show cU _ ss[k].on=true;rw [h3];exact hin ((h7 o).2 rfl),e0⟩,?_⟩⟩;show (if _ then _ else _)=_;rw [if_pos ⟨h1,e0⟩]
 |neg o e h1 h2 h3 h4 h5 h6 h7 h8 h9 h10 h11 h12=>
  have e0:¬(nd b ss[k].on).op=2:=by rw [h3];exact h6
  have ee:(gI b ss k ss[k]).e=e:=by
   show (if _ then _ else _)=_;rw [if_neg (fun h=>e0 h.2)];exact h7
  have eo:(gI b ss k ss[k]).on=o:=h3;refine .inl ⟨h1,by simp [gI,h2],.inr ⟨?_,?_,?_,?_⟩⟩;rw [eo];exact hin ((h12 o).2 (.inl rfl));rw [eo];omega;rw [ee];exact hin ((h12 e).2 (.inr rfl));rw [eo,ee];exact h10
 |and o j h1 h2 h3 h4 h5 h6 h7 h8 h9 h10=>
  have hm:(j:Int)∈ss[k].fr:=by rw [h3];exact List.mem_singleton.2 rfl
  have ee:(gI b ss k ss[k]).e=0:=by show (if _ then _ else _)=_;rw [if_neg (by omega)];exact h2
  have eo:(gI b ss k ss[k]).on=o:=h5;have ef:(gI b ss k ss[k]).fr=[((br (dn ss) j:Nat):Int)]:=by simp [gI,h3]
  have hx1:=hb.x h6 (by omega);have hy1:=hb.y h6 (by omega);refine .inr (.inl ⟨h1,ee,⟨by rw [eo];omega,by rw [eo];exact hin ((h10 o).2 (.inr rfl)),by rw [eo];exact h8⟩,?_⟩);rw [ef,eo];refine dY.II (h.pre hk hn hm).2.2 (fun n hn=>?_);rw [hset j hm] at hn;rw [du,du,hbw (by omega) (by omega),hbw (by omega) (by omega)];by_cases c1:(n:Int)=(nd b o).x;exact .inl (.inr c1);by_cases c2:(n:Int)=(nd b o).y;exact .inr c2;exact .inl (.inl ((h10 n).2 (.inl ⟨hn,c1,c2⟩)))
 |or o j i h1 h2 h3 h4 h5 h6 h7 h8 h9 h10 h11 h12=>
  have hm:(j:Int)∈ss[k].fr:=by rw [h3];simp
  have hm2:(i:Int)∈ss[k].fr:=by rw [h3];simp
  have ee:(gI b ss k ss[k]).e=0:=by show (if _ then _ else _)=_;rw [if_neg (by omega)];exact h2
  have eo:(gI b ss k ss[k]).on=o:=h6;have ef:(gI b ss k ss[k]).fr=[((br (dn ss) j:Nat):Int),((br (dn ss) i:Nat):Int)]:=by simp [gI,h3]
  have hx1:=hb.x h7 (by omega);have hy1:=hb.y h7 (by omega);refine .inr (.inr (.inl ⟨h1,ee,⟨by rw [eo];omega,by rw [eo];exact hin ((h12 o).2 (.inr (.inr rfl))),by rw [eo];exact h9⟩,?_⟩));rw [ef,eo];refine dY.KP (h.pre hk hn hm).2.2 (h.pre hk hn hm2).2.2 (fun n hn=>?_) (fun n hn=>?_);rw [hset j hm] at hn;rw [du,hbw (by omega) (by omega)];by_cases c1:(n:Int)=(nd b o).x;exact .inr c1;exact .inl ((h12 n).2 (.inl ⟨hn,c1⟩));rw [hset i hm2] at hn;rw [du,hbw (by omega) (by omega)];by_cases c1:(n:Int)=(nd b o).y;exact .inr c1;exact .inl ((h12 n).2 (.inr (.inl ⟨hn,c1⟩)))
 |cut o e j i h1 h2 h3 h4 h5 h6 h7 h8 h9 h10 h11 h12 h13=>
  have hm:(j:Int)∈ss[k].fr:=by rw [h2];simp
  have hm2:(i:Int)∈ss[k].fr:=by rw [h2];simp
  have ee:(gI b ss k ss[k]).e=e:=by show (if _ then _ else _)=_;rw [if_neg (by omega)];exact h7
  have eo:(gI b ss k ss[k]).on=o:=h5;have ef:(gI b ss k ss[k]).fr=[((br (dn ss) j:Nat):Int),((br (dn ss) i:Nat):Int)]:=by simp [gI,h2]
  refine .inr (.inr (.inr (.inl ⟨h1,by rw [eo];omega,by rw [ee];omega,by rw [eo,ee];exact h9,?_⟩)));rw [ef,eo,ee];refine dY.KP (h.pre hk hn hm).2.2 (h.pre hk hn hm2).2.2 (fun n hn=>?_) (fun n hn=>?_);rw [hset j hm] at hn;rw [du,hbw (by omega) (by omega)];by_cases c1:n=o;exact .inr (by omega);exact .inl ((h13 n).2 (.inl ⟨hn,c1⟩));rw [hset i hm2] at hn;rw [du,hbw (by omega) (by omega)];by_cases c1:n=e;exact .inr (by omega);exact .inl ((h13 n).2 (.inr ⟨hn,c1⟩))
 |t o j h1 h2 h3 h4 h5 h6 h7 h8 h9 h10 h11=>
  have hm:(j:Int)∈ss[k].fr:=by rw [h4];exact List.mem_singleton.2 rfl
  have ee:(gI b ss k ss[k]).e=0:=by show (if _ then _ else _)=_;rw [if_neg (by omega)];exact h2
  have eo:(gI b ss k ss[k]).on=o:=h6;have ef:(gI b ss k ss[k]).fr=[((br (dn ss) j:Nat):Int)]:=by simp [gI,h4]
  have hx1:=hb.x h7 (by omega);refine .inr (.inr (.inr (.inr (.inl ⟨h1,ee,h3,⟨by rw [eo];omega,by rw [eo];exact hin ((h11 o).2 (.inr rfl)),by rw [eo];exact h9⟩,?_⟩))));rw [ef,eo];refine dY.II (h.pre hk hn hm).2.2 (fun n hn=>?_);rw [hset j hm] at hn;rw [du,hbw (by omega) (by omega)];by_cases c1:(n:Int)=(nd b o).x;exact .inr c1;exact .inl ((h11 n).2 (.inl ⟨hn,c1⟩))
 |k o j h1 h2 h3 h4 h5 h6 h7 h8 h9 h10=>
  have hm:(j:Int)∈ss[k].fr:=by rw [h3];exact List.mem_singleton.2 rfl
  have ee:(gI b ss k ss[k]).e=0:=by show (if _ then _ else _)=_;rw [if_neg (by omega)];exact h2
  have eo:(gI b ss k ss[k]).on=o:=h5;have ef:(gI b ss k ss[k]).fr=[((br (dn ss) j:Nat):Int)]:=by simp [gI,h3]
  have hx1:=hb.x h6 (by omega);refine .inr (.inr (.inr (.inr (.inr (.inl ⟨h1,ee,⟨by rw [eo];omega,by rw [eo];exact hin ((h10 o).2 (.inr rfl)),by rw [eo];exact h8⟩,?_⟩)))));rw [ef,eo];refine dY.II (h.pre hk hn hm).2.2 (fun n hn=>?_);rw [hset j hm] at hn;rw [du,hbw (by omega) (by omega)];by_cases c1:(n:Int)=(nd b o).x;exact .inl c1;exact .inr (B5 hb ((h9 n (hsb j hm n hn)).resolve_right c1) ((h10 _).2 (.inl ⟨n,hn,c1,rfl⟩)))
 |d j h1 h2 h3 h4 h5 h6 h7 h8=>
  have hm:(j:Int)∈ss[k].fr:=by rw [h4];exact List.mem_singleton.2 rfl
  have ee:(gI b ss k ss[k]).e=0:=by show (if _ then _ else _)=_;rw [if_neg (by omega)];exact h2
  have ef:(gI b ss k ss[k]).fr=[((br (dn ss) j:Nat):Int)]:=by simp [gI,h4]
  refine .inr (.inr (.inr (.inr (.inr (.inr ⟨h1,ee,h3,h6,?_⟩)))));rw [ef];refine dY.II (h.pre hk hn hm).2.2 (fun n hn=>?_);rw [hset j hm] at hn;exact B5 hb (h7 n (hsb j hm n hn)) ((h8 _).2 ⟨n,hn,rfl⟩)
theorem iS.tr (h:iS l b ss):iS l b (dN b ss):=by
 have hlast:dn ss (ss.length - 1)=true:=ib.2 (.last (by have:=h.pos;omega));refine ⟨h.log,h.base,?_,?_,fun q hq=>?_⟩;obtain ⟨h1,_⟩:=tO (b:=b) (k:=ss.length - 1) (by have:=h.pos;omega) hlast;omega;rw [nY];have:=oK (p:=dn ss) (k:=ss.length);have:=h.len;omega;obtain ⟨k,hk,h1,h2,h3⟩:=wk hq;rw [h3,←h2];exact h.FF hk h1
end
section
variable {l:Int} {b:List NV} {ss:List SD}
theorem iS.CV (h:iS l b ss):∃(h1:(dN b ss).length - 1<(dN b ss).length) (h2:ss.length - 1<ss.length),(dN b ss)[(dN b ss).length - 1]=gI b ss (ss.length - 1) ss[ss.length - 1]∧dn ss (ss.length - 1)=true:=by
 have hp:=h.pos;have hlast:dn ss (ss.length - 1)=true:=ib.2 (.last (by omega));have hl:ss.length - 1<ss.length:=by omega
 obtain ⟨h1,h2⟩:=tO (b:=b) hl hlast;have e:(dN b ss).length=br (dn ss) (ss.length - 1)+1:=by
  rw [nY]
  conv=>lhs;rw [show ss.length=(ss.length - 1)+1 by omega]
  rw [iR,if_pos hlast]
 refine ⟨by omega,hl,?_,hlast⟩;rw [←h2];congr 1;omega
def uQ:Tr→Bool
 |.leaf op _ _ _=>op==1
 |.un op _ _ _ a=>if op=4 then !uQ a else uQ a
 |.bin op _ _ _ a c=>if op=5 then uQ a && uQ c else uQ a||uQ c
theorem qC:∀{t:Tr},pF t→t.ok→uQ (ay t).2=!uQ t
 |.leaf op i e g,h,hok=>by
  have h1:op≤3:=h;have h2:=hok.1.1;rw [ay];dsimp only;rcases (by omega:op=1∨op=2∨op=3) with rfl|rfl|rfl;rfl;rfl;rfl
 |.un op i e g a,h,hok=>by
  rcases h with ⟨rfl,j,e',g',rfl⟩|⟨h1,h2⟩;rfl;have ih:=qC h2 hok.2.2.2.2;rcases h1 with rfl|rfl;rw [ay,if_neg (by decide),if_pos rfl];exact ih;rw [ay,if_neg (by decide),if_neg (by decide),if_pos rfl];exact ih
 |.bin op i e g a c,h,hok=>by
  have iha:=qC h.2.1 hok.2.2.2.1;have ihc:=qC h.2.2 hok.2.2.2.2;rcases h.1 with rfl|rfl;rw [ay,if_pos rfl];show (if (6:Int)=5 then _ else _)=!(if (5:Int)=5 then _ else _);rw [if_neg (by decide),if_pos rfl,iha,ihc];cases uQ a<;>cases uQ c<;>rfl
  rw [ay,if_neg (by decide),if_pos rfl];show (if (5:Int)=5 then _ else _)=!(if (6:Int)=5 then _ else _);rw [if_pos rfl,if_neg (by decide),iha,ihc];cases uQ a<;>cases uQ c<;>rfl
theorem aQ.node (h:aQ b) {i:Nat} (hi:i<b.length):((nd b i).op≤3∧aa b i=.leaf (nd b i).op (nd b i).i (nd b i).e (nd b i).g)∨(((nd b i).op=4∨(nd b i).op=9∨(nd b i).op=10)∧aa b i=.un (nd b i).op (nd b i).i (nd b i).e (nd b i).g (aa b (nd b i).x.toNat))∨(((nd b i).op=5∨(nd b i).op=6)∧aa b i=.bin (nd b i).op (nd b i).i (nd b i).e (nd b i).g (aa b (nd b i).x.toNat) (aa b (nd b i).y.toNat)):=by
 rw [bM hi];have hO:=(aB.1 h.jt).nodes;have hn:=h.DF _ (List.getElem_mem hi);unfold dw at hn;have hX:dh b[i].op=true↔4≤b[i].op:=by
  unfold dh;simp;omega
 have hY:cD b[i].op=true↔b[i].op=5∨b[i].op=6:=by
  unfold cD;simp;omega
 rcases bS hi hO with ⟨h1,h2⟩|⟨h1,h2,h3⟩|⟨h1,h2⟩;refine .inl ⟨?_,h2⟩;have:¬4≤b[i].op:=fun e=>by rw [hX.2 e] at h1;cases h1
 omega;refine .inr (.inl ⟨?_,h3⟩);have:=hX.1 h1;have:¬(b[i].op=5∨b[i].op=6):=fun e=>by rw [hY.2 e] at h2;cases h2
 omega;exact .inr (.inr ⟨hY.1 h1,h2⟩)
theorem aQ.ok (h:aQ b) {i:Nat} (hi:i<b.length):(aa b i).ok:=(aB.1 h.jt).nodes.tree i hi
theorem aQ.nf (h:aQ b):∀(i:Nat),i<b.length→pF (aa b i):=by
 intro i
 induction i using Nat.strongRecOn with
 |_ i ih=>
 intro hi;rcases h.node hi with ⟨h1,h2⟩|⟨h1,h2⟩|⟨h1,h2⟩;rw [h2];exact h1;have hx:=h.x hi (by omega);rw [h2];by_cases h4:(nd b i).op=4;have hn:=h.DF _ (List.getElem_mem hi);unfold dw at hn;rw [←bM hi] at hn;have h3:(nd b (nd b i).x).op=3:=by omega
 obtain ⟨k,hk⟩:∃k:Nat,(nd b i).x=k:=⟨(nd b i).x.toNat,by omega⟩;rw [hk] at h3⊢;have hkl:k<b.length:=by omega
 rcases h.node hkl with ⟨g1,g2⟩|⟨g1,g2⟩|⟨g1,g2⟩;rw [Int.toNat_natCast,g2,h3];exact .inl ⟨h4,_,_,_,rfl⟩;omega;omega;exact .inr ⟨by omega,ih _ (by omega) (by omega)⟩;have hx:=h.x hi (by omega);have hy:=h.y hi h1;rw [h2];exact ⟨h1,ih _ (by omega) (by omega),ih _ (by omega) (by omega)⟩
theorem aQ.fit (h:aQ b) {i:Nat} (hi:i<b.length):Fit (aG (aa b i))∧Fit (aa b i):=by
 have h1:=pA (aB.1 h.jt).nodes.ord hi;have h2:=h.len;have h3:(cm (aG (aa b i))).length=(cm (aa b i)).length+1:=uJ;unfold Fit;omega
theorem aQ.BM (h:aQ b) {i:Nat} (hi:i<b.length):uQ (eP (aa b i))=!uQ (aa b i):=by
 rw [qX (h.fit hi).1];exact qC (h.nf i hi) (h.ok hi)
theorem iS.BG (h:iS l b ss):∀(k:Nat),k<ss.length→∃n,Us b ss k n∧uQ (aa b n)=false:=by
 have hb:=h.base;intro k
 induction k using Nat.strongRecOn with
 |_ k ih=>
 intro hk;have hsrc:∀{j:Nat} {s:aC} {ag:Int} {m:Nat},j<ss.length→Us b ss j m→uQ (aa b m)=false→uQ (aa b (eY b s ag m))=false:=fun {j s ag m} hj hm he=>by
  rcases fQ (b:=b) (s:=s) (ag:=ag) (n:=m) with ⟨i,h1,h2,h3,h4,h5,h6,_⟩|⟨h1,_⟩;rw [h1];rcases hb.node h2 with ⟨g1,g2⟩|⟨g1,g2⟩|⟨g1,g2⟩;omega;rw [g2,h6];show (if _ then _ else _)=_;rw [if_neg (by omega)];exact he;omega;rw [h1];exact he
 cases h.Ie hk with
 |Fe o h1 h2 h3 h4 h5 h6 h7=>
  refine ⟨o,(h7 o).2 rfl,?_⟩;rcases hb.node h4 with ⟨g1,g2⟩|⟨g1,g2⟩|⟨g1,g2⟩;rw [g2,h6];rfl;omega;omega
 |neg o e h1 h2 h3 h4 h5 h6 h7 h8 h9 h10 h11 h12=>
  cases hv:uQ (aa b o) with
  |false=>exact ⟨o,(h12 o).2 (.inl rfl),hv⟩
  |true=>exact ⟨e,(h12 e).2 (.inr rfl),by rw [h11,hb.BM h4,hv];rfl⟩
 |and o j h1 h2 h3 h4 h5 h6 h7 h8 h9 h10=>
  obtain ⟨n,hn,hv⟩:=ih j h4 (by omega);have hx:=hb.x h6 (by omega);have hy:=hb.y h6 (by omega);by_cases c1:(n:Int)=(nd b o).x∨(n:Int)=(nd b o).y;refine ⟨o,(h10 o).2 (.inr rfl),?_⟩;rcases hb.node h6 with ⟨g1,g2⟩|⟨g1,g2⟩|⟨g1,g2⟩;omega;omega;rw [g2,h8];show (if (5:Int)=5 then _ else _)=_;rw [if_pos rfl];rcases c1 with c1|c1;rw [←c1,Int.toNat_natCast,hv];rfl;rw [←c1,Int.toNat_natCast,hv,Bool.and_false];exact ⟨n,(h10 n).2 (.inl ⟨hn,fun e=>c1 (.inl e),fun e=>c1 (.inr e)⟩),hv⟩
 |or o j i h1 h2 h3 h4 h5 h6 h7 h8 h9 h10 h11 h12=>
  obtain ⟨n,hn,hv⟩:=ih j h4 (by omega);obtain ⟨m,hm,hw⟩:=ih i h5 (by omega);by_cases c1:(n:Int)=(nd b o).x;by_cases c2:(m:Int)=(nd b o).y;refine ⟨o,(h12 o).2 (.inr (.inr rfl)),?_⟩;rcases hb.node h7 with ⟨g1,g2⟩|⟨g1,g2⟩|⟨g1,g2⟩;omega;omega;rw [g2,h9];show (if (6:Int)=5 then _ else _)=_;rw [if_neg (by decide),←c1,←c2,Int.toNat_natCast,Int.toNat_natCast,hv,hw];rfl;exact ⟨m,(h12 m).2 (.inr (.inl ⟨hm,c2⟩)),hw⟩;exact ⟨n,(h12 n).2 (.inl ⟨hn,c1⟩),hv⟩
 |cut o e j i h1 h2 h3 h4 h5 h6 h7 h8 h9 h10 h11 h12 h13=>
  obtain ⟨n,hn,hv⟩:=ih j h3 (by omega);obtain ⟨m,hm,hw⟩:=ih i h4 (by omega);by_cases c1:n=o;by_cases c2:m=e;subst c1 c2;rw [h10,hb.BM h6,hv] at hw;cases hw;exact ⟨m,(h13 m).2 (.inr ⟨hm,c2⟩),hw⟩;exact ⟨n,(h13 n).2 (.inl ⟨hn,c1⟩),hv⟩
 |t o j h1 h2 h3 h4 h5 h6 h7 h8 h9 h10 h11=>
  obtain ⟨n,hn,hv⟩:=ih j h5 (by omega);by_cases c1:(n:Int)=(nd b o).x;refine ⟨o,(h11 o).2 (.inr rfl),?_⟩;rcases hb.node h7 with ⟨g1,g2⟩|⟨g1,g2⟩|⟨g1,g2⟩;omega;rw [g2,h9,←c1,Int.toNat_natCast];show (if (9:Int)=4 then _ else _)=_;rw [if_neg (by decide)];exact hv;omega;exact ⟨n,(h11 n).2 (.inl ⟨hn,c1⟩),hv⟩
 |k o j h1 h2 h3 h4 h5 h6 h7 h8 h9 h10=>
  obtain ⟨n,hn,hv⟩:=ih j h4 (by omega);by_cases c1:(n:Int)=(nd b o).x;refine ⟨o,(h10 o).2 (.inr rfl),?_⟩;rcases hb.node h6 with ⟨g1,g2⟩|⟨g1,g2⟩|⟨g1,g2⟩;omega;rw [g2,h8,←c1,Int.toNat_natCast];show (if (10:Int)=4 then _ else _)=_;rw [if_neg (by decide)];exact hv;omega;exact ⟨_,(h10 _).2 (.inl ⟨n,hn,c1,rfl⟩),hsrc (by omega:j<ss.length) hn hv⟩
 |d j h1 h2 h3 h4 h5 h6 h7 h8=>
  obtain ⟨n,hn,hv⟩:=ih j h5 (by omega);exact ⟨_,(h8 _).2 ⟨n,hn,rfl⟩,hsrc (by omega:j<ss.length) hn hv⟩
end
def dP (b:List NV) (s:aC):Tr:=aG (lW ((eC s).map (aa b)))
section
variable (T:Tr→Prop)
noncomputable def uG (a:Int) (h:Tr):List Tr→List Tr→Nat→Sg→Nat×Sg
 |_,[],r,σ=>(r,σ)
 |ds,t::ts,r,σ=>
  let k:=kW T a t (cI ts h) σ
  let d:=aZ T (cI ((ds++[t]).map (aw a)) (aw a (cI ts h))) [r,k.1] k.2
  uG a h (ds++[t]) ts d.1 d.2
noncomputable def m7 (a:Int) (ts:List Tr) (h:Tr) (line:Nat) (σ:Sg):Nat×Sg:=
 let f:=aZ T (cI ts h) [line] σ
 let r:=cy T (aw a (cI ts h)) 11 f.1 0 a f.2
 uG T a h [] ts r.1 r.2
noncomputable def eT (b:List NV) (full:aC) (a:Int):List Nat→Sg→List Nat×Sg
 |[],σ=>([],σ)
 |n::ns,σ=>if eY b full a n=n then ((l8 T a (aa b n) σ).1::(eT b full a ns (l8 T a (aa b n) σ).2).1,(eT b full a ns (l8 T a (aa b n) σ).2).2) else eT b full a ns σ
noncomputable def wN (b:List NV) (goal:Tr) (full:aC) (a:Int) (ns:List Nat) (tg:Nat) (own:List Nat) (isK:Bool) (line:Nat) (σ:Sg):Nat×Sg:=
 let c:=m7 T a (ns.map (aa b)) (aG (aa b tg)) line σ
 let d:=eT T b full a own c.2
 let e:=if isK=true then ey T a (aa b tg) d.2 else cy T (aR (aw a (aa b tg)) (aG (aw a (aG (aa b tg))))) 6 0 0 0 d.2
 aZ T goal (c.1::(d.1++[e.1])) e.2
noncomputable def bR (b:List NV) (tl:List SD) (full:aC) (x:SD) (last:List Nat) (σ:Sg):Nat×Sg:=
 let goal:=dP b x.set
 let p0:=last.getD (x.fr.getD 0 0).toNat 0
 let p1:=last.getD (x.fr.getD 1 0).toNat 0
 if x.al=1 then (if (nd b x.on).op=2 then aZ T goal [] σ else aZ T goal [(aK T false (tA b x.on) σ).1] (aK T false (tA b x.on) σ).2)
 else if x.al=2 then aZ T goal [p0] σ
 else if x.al=3 then aZ T goal [p0,p1] σ
 else if x.al=4 then aZ T goal [(aK T true (tA b x.on) σ).1,p0,p1] (aK T true (tA b x.on) σ).2
 else if x.al=5 then aZ T goal [(cy T (aR (tA b x.on) (tA b (nd b x.on).x)) 3 0 0 0 σ).1,p0] (cy T (aR (tA b x.on) (tA b (nd b x.on).x)) 3 0 0 0 σ).2
 else if x.al=6 then wN T b goal full (nd b x.on).i (eC (dt tl (x.fr.getD 0 0) &&& ~~~ bW (nd b x.on).x)) (nd b x.on).x.toNat (eC (dt tl (x.fr.getD 0 0) &&& ~~~ bW (nd b x.on).x)) true p0 σ
 else wN T b goal full x.on (eC (dt tl (x.fr.getD 0 0))).dropLast ((eC (dt tl (x.fr.getD 0 0))).getLastD 0) (eC (dt tl (x.fr.getD 0 0))) false p0 σ
noncomputable def aW (b:List NV) (tl:List SD) (fl:List aC):Nat→List Nat×Sg
 |0=>([],⟨[],false⟩)
 |q+1=>match tl[q]? with
  |some x=>((aW b tl fl q).1++[(bR T b tl (fl.getD q 0#64) x (aW b tl fl q).1 (aW b tl fl q).2).1],(bR T b tl (fl.getD q 0#64) x (aW b tl fl q).1 (aW b tl fl q).2).2)
  |none=>aW b tl fl q
end
noncomputable def di (ss:List SD):Nat→List aC
 |0=>[]
 |k+1=>match ss[k]? with
  |some x=>if dn ss k=true then di ss k++[x.set] else di ss k
  |none=>di ss k
noncomputable def iy (T:Tr→Prop) (b:List NV) (ss:List SD):Nat×Sg:=
 let tl:=dN b ss
 let p:=aW T b tl (di ss ss.length) tl.length
 let ln:=p.1.getD (tl.length - 1) 0
 if dt tl ((tl.length - 1:Nat):Int)=dt ss ((ss.length - 1:Nat):Int) then (ln,p.2) else aZ T (dP b (dt ss ((ss.length - 1:Nat):Int))) [ln] p.2
section
variable {l:Int} {b:List NV} {ss:List SD} {σ:Sg} {T:Tr→Prop}
theorem BL {v:Tr→Bool}:∀{ts:List Tr},cz v (lW ts)=true↔∀u∈ts,cz v u=true
 |[]=>⟨fun _ _ h=>(by cases h),fun _=>rfl⟩
 |t::ts=>by
  have key:∀(us:List Tr) (a:Tr),cz v (us.foldl (fun a c=>.bin 5 0 0 0 a c) a)=true↔cz v a=true∧∀u∈us,cz v u=true:=by
   intro us
   induction us with
   |nil=>intro a;simp
   |cons u us ih=>
    intro a;rw [List.foldl_cons,ih,show cz v (.bin 5 0 0 0 a u)=(cz v a && cz v u) from rfl,Bool.and_eq_true];simp only [List.mem_cons,forall_eq_or_imp,and_assoc]
  rw [show lW (t::ts)=ts.foldl (fun a c=>.bin 5 0 0 0 a c) t from rfl,key];simp
theorem fK {v:Tr→Bool} {s:aC}:cz v (dP b s)=true↔¬∀n,s.getLsbD n=true→cz v (aa b n)=true:=by
 unfold dP;rw [sq,Bool.not_eq_true'];constructor;intro h hall;have:cz v (lW ((eC s).map (aa b)))=true:=BL.2 (fun u hu=>by
  obtain ⟨n,hn,rfl⟩:=List.mem_map.1 hu;exact hall n (dz.1 hn));rw [this] at h;cases h;intro h;cases e:cz v (lW ((eC s).map (aa b))) with
 |false=>rfl
 |true=>exact absurd (fun n hn=>BL.1 e _ (List.mem_map_of_mem (dz.2 hn))) h
theorem yw:∀{ts:List Tr},(∀u∈ts,fE u)→fE (lW ts)
 |[],_=>⟨⟨by decide,rfl,by decide⟩,.inl (by decide)⟩
 |t::ts,h=>by
  have key:∀(us:List Tr) (a:Tr),fE a→(∀u∈us,fE u)→fE (us.foldl (fun a c=>.bin 5 0 0 0 a c) a):=by
   intro us
   induction us with
   |nil=>intro a ha _;exact ha
   |cons u us ih=>intro a ha hu;exact ih _ (ha.ad (hu u (List.mem_cons_self ..))) (fun w hw=>hu w (List.mem_cons_of_mem _ hw))
  exact key ts t (h t (List.mem_cons_self ..)) (fun u hu=>h u (List.mem_cons_of_mem _ hu))
theorem aQ.fr (h:aQ b) {n:Nat} (hn:n<b.length):fE (aa b n):=(h.nf n hn).fr (h.ok hn)
theorem qs (h:aQ b) {s:aC} (hs:gy b s):fE (dP b s):=(yw (fun u hu=>by
 obtain ⟨n,hn,rfl⟩:=List.mem_map.1 hu;exact h.fr (hs n (dz.1 hn)))).nt
theorem yz {a:Int} {h:Tr}:∀{ts ds:List Tr} {r:Nat} {σ:Sg},σ.Le (uG T a h ds ts r σ).2
 |[],_,_,σ=>Sg.Le.refl σ
 |_t::ts,_ds,_r,_σ=>vA.trans (dA.trans (yz (ts:=ts)))
theorem Eu {a:Int} {h:Tr} {ts:List Tr} {n:Nat}:σ.Le (m7 T a ts h n σ).2:=dA.trans (dD.trans yz)
theorem vU {a:Int} {h:Tr}:∀{ts ds:List Tr} {r:Nat} {σ:Sg},dM σ r (cI (ds.map (aw a)) (aw a (cI ts h)))→dM (uG T a h ds ts r σ).2 (uG T a h ds ts r σ).1 (cI ((ds++ts).map (aw a)) (aw a h))
 |[],ds,r,σ,hr=>by rw [List.append_nil];exact hr
 |t::ts,ds,r,σ,_=>by
  rw [show ds++t::ts=(ds++[t])++ts by simp];exact vU eS
theorem vS {a:Int} {h:Tr} {ts:List Tr} {n:Nat}:dM (m7 T a ts h n σ).2 (m7 T a ts h n σ).1 (cI (ts.map (aw a)) (aw a h)):=vU (ds:=[]) cd
theorem kZ {full:aC} {a:Int}:∀{ns:List Nat} {σ:Sg},σ.Le (eT T b full a ns σ).2
 |[],σ=>Sg.Le.refl σ
 |n::ns,σ=>by
  rw [eT];split;exact uH.trans kZ;exact kZ
theorem px {full:aC} {a:Int}:∀{ns:List Nat} {σ:Sg} (m:Nat),m∈(eT T b full a ns σ).1→∃n∈ns,eY b full a n=n∧dM (eT T b full a ns σ).2 m (aR (aa b n) (aw a (aa b n)))
 |[],σ,m,h=>by cases h
 |n::ns,σ,m,h=>by
  rw [eT] at h⊢;by_cases e:eY b full a n=n;rw [if_pos e] at h⊢;rcases List.mem_cons.1 h with rfl|h;exact ⟨n,List.mem_cons_self ..,e,rQ.le kZ⟩;obtain ⟨k,h1,h2,h3⟩:=px m h;exact ⟨k,List.mem_cons_of_mem _ h1,h2,h3⟩;rw [if_neg e] at h⊢;obtain ⟨k,h1,h2,h3⟩:=px m h;exact ⟨k,List.mem_cons_of_mem _ h1,h2,h3⟩
theorem py {full:aC} {a:Int}:∀{ns:List Nat} {σ:Sg} {n:Nat},n∈ns→eY b full a n=n→∃m∈(eT T b full a ns σ).1,dM (eT T b full a ns σ).2 m (aR (aa b n) (aw a (aa b n)))
 |[],_,_,h,_=>by cases h
 |k::ns,σ,n,h,he=>by
  rw [eT];rcases List.mem_cons.1 h with rfl|h;rw [if_pos he];exact ⟨_,List.mem_cons_self ..,rQ.le kZ⟩;split;obtain ⟨m,h1,h2⟩:=py (σ:=(l8 T a (aa b k) σ).2) h he;exact ⟨m,List.mem_cons_of_mem _ h1,h2⟩;exact py h he
theorem ye {goal:Tr} {full:aC} {a:Int} {ns:List Nat} {tg:Nat} {own:List Nat} {isK:Bool} {line:Nat}:σ.Le (wN T b goal full a ns tg own isK line σ).2:=by
 have h1:=Eu (T:=T) (σ:=σ) (a:=a) (h:=aG (aa b tg)) (ts:=ns.map (aa b)) (n:=line);have h2:=kZ (T:=T) (b:=b) (full:=full) (a:=a) (ns:=own) (σ:=(m7 T a (ns.map (aa b)) (aG (aa b tg)) line σ).2);cases isK with
 |true=>exact (h1.trans h2).trans (kk.trans dA)
 |false=>exact (h1.trans h2).trans (dD.trans dA)
theorem uX {tl:List SD} {full:aC} {x:SD} {last:List Nat}:σ.Le (bR T b tl full x last σ).2:=by
 unfold bR;dsimp only
 repeat' split
 exact dA;exact iZ.trans dA;exact dA;exact dA;exact iZ.trans dA;exact dD.trans dA;exact ye;exact ye
theorem yS {tl:List SD} {full:aC} {x:SD} {last:List Nat}:dM (bR T b tl full x last σ).2 (bR T b tl full x last σ).1 (dP b x.set):=by
 unfold bR;dsimp only
 repeat' split
 all_goals exact eS
def pP (σ:Sg) (n:Nat):Prop:=σ.bad=false→n+1=σ.ls.length
theorem tE {t:Tr} {r g:Int} {a c:Nat}:pP (cy T t r a c g σ).2 (cy T t r a c g σ).1:=by
 unfold cy;split;intro e;cases e;intro _;simp
theorem sV {g:Tr}:∀{ps:List (Nat×Tr)} {n:Nat} {σ:Sg},pP σ n→pP (mn T g ps n σ).2 (mn T g ps n σ).1
 |[],_,_,h=>h
 |_::ps,_,_,_=>sV (ps:=ps) tE
theorem tp {g:Tr} {fr:List Nat}:pP (aZ T g fr σ).2 (aZ T g fr σ).1:=by
 unfold aZ;split;rename_i h;intro e;rw [h] at e;cases e;exact sV tE
theorem wv {tl:List SD} {full:aC} {x:SD} {last:List Nat}:pP (bR T b tl full x last σ).2 (bR T b tl full x last σ).1:=by
 unfold bR;dsimp only
 repeat' split
 all_goals exact tp
end
section
variable {l:Int} {b:List NV} {ss:List SD} {σ:Sg}
theorem yy {a:Int} {h:Tr} (hi:0≤a∧a<4) (hh:fE h):∀{ts ds:List Tr} {r:Nat} {σ:Sg},(∀u∈ts,fE u)→(∀u∈ds,fE u)→Good l σ→dM σ r (cI (ds.map (aw a)) (aw a (cI ts h)))→uP l (fun T=>uG T a h ds ts r) σ
 |[],_,_,σ,_,_,hg,_=>⟨rfl,hg⟩
 |t::ts,ds,r,σ,hts,hds,hg,hr=>by
  have ht:=hts t (List.mem_cons_self ..);have hts':∀u∈ts,fE u:=fun u hu=>hts u (List.mem_cons_of_mem _ hu);have hc:=fE.ch hts' hh;have h1:=E9 (i:=a) (p:=t) (q:=cI ts h) hi hg ht hc;have k1:dM (kW ae a t (cI ts h) σ).2 (kW ae a t (cI ts h) σ).1 (aR (aw a (aR t (cI ts h))) (aR (aw a t) (aw a (cI ts h)))):=cd;have kr:=hr.le (vA (T:=ae) (i:=a) (p:=t) (q:=cI ts h));have hds':∀u∈ds++[t],fE u:=fun u hu=>by
   rcases List.mem_append.1 hu with hu|hu;exact hds u hu;rw [List.mem_singleton.1 hu];exact ht
  have h2:=eB (g:=cI ((ds++[t]).map (aw a)) (aw a (cI ts h))) (from_:=[r,(kW ae a t (cI ts h) σ).1]) h1.dV (fE.ch (fun u hu=>by
    obtain ⟨w,hw,rfl⟩:=List.mem_map.1 hu;exact (hds' w hw).kw hi) (hc.kw hi)) (fun hb n hn=>by
   simp only [List.mem_cons,List.not_mem_nil,or_false] at hn;rcases hn with rfl|rfl;exact (kr hb).1;exact (k1 hb).1) (fun hb _ v hv=>by
   have e1:=hv _ (List.mem_cons_self ..);have e2:=hv _ (List.mem_cons_of_mem _ (List.mem_cons_self ..));rw [(kr hb).2,w6] at e1;rw [(k1 hb).2,pZ,pZ] at e2;rw [w6];intro hall;have e3:cz v (aw a (aR t (cI ts h)))=true:=e1 (fun u hu=>hall u (by rw [List.map_append];exact List.mem_append_left _ hu));have e4:cz v (aw a t)=true:=hall _ (by rw [List.map_append];exact List.mem_append_right _ (List.mem_singleton.2 rfl));rw [e3,e4] at e2;simpa using e2);have h3:=yy hi hh (ts:=ts) (ds:=ds++[t]) hts' hds' h2.dV eS;have s1:=h1.same;have s2:=h2.same;have s3:=h3.same;constructor;simp only [uG];rw [←s1,←s2];exact s3;exact h3.dV
theorem Et {a:Int} {h t0:Tr} {ts:List Tr} {n:Nat} (hi:0≤a∧a<4) (hh:fE h) (hts:∀u∈ts,fE u) (hg:Good l σ) (hn:dM σ n t0) (he:∀v,cz v t0=true→cz v (cI ts h)=true):uP l (fun T=>m7 T a ts h n) σ:=by
 have hc:=fE.ch hts hh;have h1:=eB (g:=cI ts h) (from_:=[n]) hg hc (fun hb m hm=>by rw [List.mem_singleton.1 hm];exact (hn hb).1) (fun hb _ v hv=>by
  have:=hv n (List.mem_singleton.2 rfl);rw [(hn hb).2] at this;exact he v this);have h2:=iu (t:=aw a (cI ts h)) (r:=11) (a:=(aZ ae (cI ts h) [n] σ).1) (b:=0) (g:=a) h1.dV (fun _ _=>⟨hc.kw hi,GX l (by omega),.inr (.inr (.inr ⟨rfl,rfl,hi,_,eS,rfl⟩))⟩);have h3:=yy (ts:=ts) (ds:=[]) hi hh hts (fun u hu=>by cases hu) h2.dV cd;have s1:=h1.same;have s2:=h2.same;have s3:=h3.same;constructor;simp only [m7];rw [←s1,←s2];exact s3;exact h3.dV
structure LR (l:Int) (P:(Tr→Prop)→Sg→List Nat×Sg) (σ:Sg):Prop where
  same:P ae σ=P mO σ
  dV:Good l (P ae σ).2
theorem rO {full:aC} {a:Int} (hi:0≤a∧a<4):∀{ns:List Nat} {σ:Sg},Good l σ→(∀n∈ns,eY b full a n=n→∃z,fE z∧((aa b n=aw a z∧cG l 4=true)∨(aa b n=gL a z∧cG l 5=true)))→LR l (fun T=>eT T b full a ns) σ
 |[],σ,hg,_=>⟨rfl,hg⟩
 |n::ns,σ,hg,h=>by
  have hns:=fun k hk=>h k (List.mem_cons_of_mem _ hk);by_cases e:eY b full a n=n;obtain ⟨z,hz,hf⟩:=h n (List.mem_cons_self ..) e;have h1:=Ew (i:=a) (f:=aa b n) (z:=z) hi hz hf hg;have h2:=rO hi (ns:=ns) h1.dV hns;have s1:=h1.same;have s2:=h2.same;constructor;simp only [eT];rw [if_pos e,if_pos e,←s1,s2];simp only [eT];rw [if_pos e];exact h2.dV;have h2:=rO hi (ns:=ns) hg hns;constructor;simp only [eT];rw [if_neg e,if_neg e];exact h2.same;simp only [eT];rw [if_neg e];exact h2.dV
theorem yd {goal t0:Tr} {full:aC} {a:Int} {ns own:List Nat} {tg line:Nat} {isK:Bool} (hb:aQ b) (hi:0≤a∧a<4) (hgl:fE goal) (hns:∀n∈ns,n<b.length) (htg:tg<b.length) (h6:isK=false→cG l 6=true) (hg:Good l σ) (hn:dM σ line t0)
  (he:∀v,cz v t0=true→cz v (cI (ns.map (aa b)) (aG (aa b tg)))=true)
  (hc:∀n∈own,eY b full a n=n→∃z,fE z∧((aa b n=aw a z∧cG l 4=true)∨(aa b n=gL a z∧cG l 5=true)))
  (hlast:∀v,((∀n∈ns,cz v (aw a (aa b n))=true)→cz v (aw a (aG (aa b tg)))=true)→(∀n∈own,eY b full a n=n→cz v (aa b n)=true→cz v (aw a (aa b n))=true)→(if isK=true then cz v (gL a (aa b tg))=true→¬cz v (aw a (aG (aa b tg)))=true else cz v (aw a (aa b tg))=true→¬cz v (aw a (aG (aa b tg)))=true)→cz v goal=true):
  uP l (fun T=>wN T b goal full a ns tg own isK line) σ:=by
 have ft:=hb.fr htg;have h1:=Et (ts:=ns.map (aa b)) (h:=aG (aa b tg)) hi ft.nt (fun u hu=>by
  obtain ⟨n,hn,rfl⟩:=List.mem_map.1 hu;exact hb.fr (hns n hn)) hg hn he;have k1:dM _ _ _:=vS (T:=ae) (a:=a) (h:=aG (aa b tg)) (ts:=ns.map (aa b)) (n:=line) (σ:=σ);obtain ⟨σ1,e1⟩:∃s,s=m7 ae a (ns.map (aa b)) (aG (aa b tg)) line σ:=⟨_,rfl⟩;have g1:Good l σ1.2:=by rw [e1];exact h1.dV
 rw [←e1] at k1;have h2:=rO (b:=b) (full:=full) hi (ns:=own) g1 hc;obtain ⟨σ2,e2⟩:∃s,s=eT ae b full a own σ1.2:=⟨_,rfl⟩;have g2:Good l σ2.2:=by rw [e2];exact h2.dV
 have le2:σ1.2.Le σ2.2:=by rw [e2];exact kZ
 obtain ⟨P3,hP3⟩:∃P3:(Tr→Prop)→Sg→Nat×Sg,P3=fun T s=>if isK=true then ey T a (aa b tg) s else cy T (aR (aw a (aa b tg)) (aG (aw a (aG (aa b tg))))) 6 0 0 0 s:=⟨_,rfl⟩;obtain ⟨t3,ht3⟩:∃t3,t3=if isK=true then oU (gL a (aa b tg)) (aG (aw a (aG (aa b tg)))) else aR (aw a (aa b tg)) (aG (aw a (aG (aa b tg)))):=⟨_,rfl⟩;have h3:uP l P3 σ2.2:=by
  rw [hP3];cases hk:isK with
  |true=>exact ub hi g2 ft
  |false=>exact iu g2 (fun _ _=>⟨(ft.kw hi).im (ft.nt.kw hi).nt,h6 hk,.inr (.inl ⟨by decide,by decide,rfl,rfl,rfl,⟨a,_,rfl⟩⟩)⟩)
 obtain ⟨σ3,e3⟩:∃s,s=P3 ae σ2.2:=⟨_,rfl⟩;have g3:Good l σ3.2:=by rw [e3];exact h3.dV
 have le3:σ2.2.Le σ3.2:=by
  rw [e3,hP3];cases isK with
  |true=>exact kk
  |false=>exact dD
 have k3:dM σ3.2 σ3.1 t3:=by
  rw [e3,hP3,ht3];cases isK with
  |true=>exact cd
  |false=>exact cd
 have k1':=k1.le (le2.trans le3);have h4:=eB (g:=goal) (from_:=σ1.1::(σ2.1++[σ3.1])) g3 hgl (fun hbd n hn=>by
  simp only [List.mem_cons,List.mem_append,List.not_mem_nil,or_false] at hn;rcases hn with rfl|hn|rfl;exact (k1' hbd).1;rw [e2] at hn;obtain ⟨m,_,_,hm⟩:=px n hn;rw [←e2] at hm;exact (hm.le le3 hbd).1;exact (k3 hbd).1) (fun hbd _ v hv=>by
  have q1:=hv _ (List.mem_cons_self ..);have q3:=hv σ3.1 (List.mem_cons_of_mem _ (List.mem_append_right _ (List.mem_singleton.2 rfl)));rw [(k1' hbd).2,w6] at q1;rw [(k3 hbd).2,ht3] at q3;refine hlast v (fun hall=>q1 (fun u hu=>?_)) (fun n hno hsn hvn=>?_) ?_;rw [List.map_map] at hu;obtain ⟨n,hn,rfl⟩:=List.mem_map.1 hu;exact hall n hn;obtain ⟨m,hm,hh⟩:=py (T:=ae) (b:=b) (full:=full) (a:=a) (ns:=own) (σ:=σ1.2) hno hsn;rw [←e2] at hm hh;have q2:=hv m (List.mem_cons_of_mem _ (List.mem_append_left _ hm));rw [(hh.le le3 hbd).2,pZ,hvn] at q2;simpa using q2;cases isK with
  |true=>
   rw [if_pos rfl] at q3⊢;rw [Eh,sq] at q3;intro hp hk;rw [hp,hk] at q3;cases q3
  |false=>
   rw [if_neg (by decide)] at q3⊢;rw [pZ,sq] at q3;intro hp hk;rw [hp,hk] at q3;cases q3);have s1:=h1.same;have s2:=h2.same;have s3:=h3.same;have s4:=h4.same;rw [←e1] at s1;rw [←e2] at s2;rw [←e3] at s3;have hsp:∀T s,wN T b goal full a ns tg own isK line s=aZ T goal ((m7 T a (ns.map (aa b)) (aG (aa b tg)) line s).1::((eT T b full a own (m7 T a (ns.map (aa b)) (aG (aa b tg)) line s).2).1++[(P3 T (eT T b full a own (m7 T a (ns.map (aa b)) (aG (aa b tg)) line s).2).2).1])) (P3 T (eT T b full a own (m7 T a (ns.map (aa b)) (aG (aa b tg)) line s).2).2).2:=fun T s=>by rw [hP3];rfl
 constructor;rw [hsp,hsp,←s1,←e1,←s2,←e2,←s3,←e3];exact s4;rw [hsp,←e1,←e2,←e3];exact h4.dV
end
end Go.Proofs.Wit
