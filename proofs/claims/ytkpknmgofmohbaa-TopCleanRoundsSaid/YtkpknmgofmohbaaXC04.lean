/- Laws of walks, for any program, under the conditions that each theorem states. -/
import Derived.Test.YtkpknmgofmohbaaXC03
import Derived.Test.YtkpknmgofmohbaaXC01
import Derived.Test.YtkpknmgofmohbaaXC02
namespace Go.Proofs.Wit
open Go Go.RowKit
abbrev CD:=Nat×Nat
def aZ {α:Type} (f:Nat→α→α):Nat→α→α
 |0,a=>a
 |k+1,a=>f k (aZ f k a)
def fI (k r t:Nat):List CD:=((List.range t).filter (fun u=>decide (u / 2^k%2=0))).map (fun u=>(r,u))
def kj (n k R:Nat):List CD:=(List.range R).flatMap (fun r=>fI k (r+1) (2^n))
def aW (n R:Nat):Nat→List CD→Nat→List (List CD)
 |0,l,_=>[l]
 |m+1,l,left=>aW n R m (l++[(0,0)]) left++(if left=0 then [] else (kj n l.length R).flatMap (fun c=>aW n R m (l++[c]) (left - 1)))
theorem iA {k r t:Nat}:fI k r (t+1)=if t / 2^k%2=0 then fI k r t++[(r,t)] else fI k r t:=by
 unfold fI
 rw [List.range_succ,List.filter_append]
 by_cases h:t / 2^k%2=0
 ·rw [if_pos h];simp [h]
 rw [if_neg h];simp [h]
theorem gO {n k R:Nat}:kj n k (R+1)=kj n k R++fI k (R+1) (2^n):=by
 unfold kj;rw [List.range_succ,List.flatMap_append];simp
theorem pw {n k R r t:Nat} (hr:r<R) (ht:t≤2^n):kj n k r++fI k (r+1) t<+:kj n k R:=by
 have h1:∀{a b:Nat},a≤b→kj n k a<+:kj n k b:=fun {a b} h=>by
  induction h with
  |refl=>exact List.prefix_refl _
  |step _ ih=>rw [gO];exact ih.trans (List.prefix_append _ _)
 have h2:∀{a b:Nat},a≤b→fI k (r+1) a<+:fI k (r+1) b:=fun {a b} h=>by
  induction h with
  |refl=>exact List.prefix_refl _
  |step _ ih=>
   rw [iA];split
   ·exact ih.trans (List.prefix_append _ _)
   exact ih
 refine List.IsPrefix.trans ?_ (h1 (show r+1≤R from hr))
 rw [gO]
 exact (List.prefix_append_right_inj _).2 (h2 ht)
theorem nY {α β:Type} {g:α→List β} {a b:List α} (h:a<+:b):(a.flatMap g).length≤(b.flatMap g).length:=by
 obtain ⟨c,rfl⟩:=h
 rw [List.flatMap_append,List.length_append];omega
def jj (cs:List CD) (i:Nat):CD:=cs.getD i (0,0)
def gn (c:CD) (t:Nat):Bool:=!(c.1==0) && decide (c.1≤t)
def oQ (c:CD) (t k:Nat):Bool:=!gn c t||(c.1==t && c.2 / 2^k%2==1)
def nz (cs:List CD) (t i k:Nat):Bool:=(!(i==k) && oQ (jj cs i) t k) && !gn (jj cs k) t
def oM (cs:List CD) (t i:Nat) (kn:List Nat) (k:Nat) (nx:List Nat):List Nat:=if nz cs t i k=true then nx.set k (nx.getD k 0|||kn.getD i 0) else nx
def sJ (n:Nat) (cs:List CD) (t:Nat) (kn:List Nat) (i:Nat) (nx:List Nat):List Nat:=aZ (oM cs t i kn) n nx
def vz (n:Nat) (cs:List CD) (t:Nat) (kn:List Nat):List Nat:=aZ (sJ n cs t kn) n kn
def ew (n:Nat) (cs:List CD):Nat→List Nat
 |0=>(List.range n).map (2^·)
 |t+1=>vz n cs (t+1) (ew n cs t)
def lz (x kni k s:Nat):Nat:=if kni / 2^k%2=1 then s+3^k*(1+x / 2^k%2) else s
def tL (n x kni t:Nat):Nat:=aZ (lz x kni) n (1+t*3^n)
def r5 (n x:Nat) (cs:List CD) (t i:Nat):Nat:=if gn (jj cs i) t=true then 0 else tL n x ((ew n cs t).getD i 0) t
def s7 (n:Nat) (cs:List CD) (t i:Nat) (f:au):au:=if gn (jj cs i) t=true then f else f|||(1#64<<<(n+i))
def n6 (n x:Nat) (cs:List CD) (t i:Nat):au:=aZ (s7 n cs t) i (BitVec.ofNat 64 x)
def cN (n x:Nat) (cs:List CD) (t i:Nat):List Int:=(List.range i).map (fun i=>(r5 n x cs t i:Int))
structure RD where
  loc:List (List Int)
  lO:List au
deriving DecidableEq
def nh (n x:Nat) (cs:List CD) (t:Nat):RD:=⟨(List.range t).map (fun t=>cN n x cs t n),(List.range t).map (fun t=>n6 n x cs t n)⟩
def eE (n f R x:Nat):List RD:=(aW n R n [] f).map (fun c=>nh n x c (R+1))
theorem fb {n f R x:Nat}:(eE n f R x).length=(aW n R n [] f).length:=List.length_map ..
def eD (n f R:Nat) (xs:List Nat):List RD:=xs.flatMap (eE n f R)
theorem eZ {n f R:Nat} {xs:List Nat}:(xs.flatMap (eE n f R)).length=xs.length*(aW n R n [] f).length:=by
 induction xs with
 |nil=>simp
 |cons a l ih=>rw [List.flatMap_cons,List.length_append,ih,fb,List.length_cons,Nat.succ_mul,Nat.add_comm]
theorem fP {α:Type} {f:Nat→α→α} {p:α→Prop} (hf:∀k a,p a→p (f k a)):∀{k:Nat} {a:α},p a→p (aZ f k a)
 |0,_,h=>h
 |k+1,_,h=>hf k _ (fP hf h)
structure fT (n:Nat) (kn:List Nat):Prop where
  len:kn.length=n
  lt:∀i,kn.getD i 0<2^n
theorem rk {n t i k:Nat} {cs:List CD} {kn nx:List Nat} (hk:fT n kn) (h:fT n nx):fT n (oM cs t i kn k nx):=by
 unfold oM
 split
 ·refine ⟨by rw [List.length_set];exact h.len,fun j=>?_⟩
  rw [List.getD_eq_getElem?_getD,List.getElem?_set]
  by_cases e:k=j
  ·subst e
   by_cases hl:k<nx.length
   ·simp only [hl,if_true];exact Nat.or_lt_two_pow (h.lt _) (hk.lt _)
   rw [if_pos rfl,if_neg hl];exact Nat.pos_of_ne_zero (by simp)
  rw [if_neg e,←List.getD_eq_getElem?_getD];exact h.lt j
 exact h
theorem nO {n t i m:Nat} {cs:List CD} {kn nx:List Nat} (hk:fT n kn) (h:fT n nx):fT n (aZ (oM cs t i kn) m nx):=fP (fun _ _ ha=>rk hk ha) h
theorem nN {n t m:Nat} {cs:List CD} {kn:List Nat} (hk:fT n kn):fT n (aZ (sJ n cs t kn) m kn):=fP (fun _ _ ha=>nO hk ha) hk
theorem kP {n:Nat} {cs:List CD}:∀{t:Nat},fT n (ew n cs t)
 |0=>⟨by simp [ew],fun i=>by
  unfold ew
  rw [List.getD_eq_getElem?_getD]
  by_cases h:i<n
  ·simp [h];exact Nat.pow_lt_pow_right (by omega) h
  simp [h];exact Nat.pos_of_ne_zero (by simp)⟩
 |t+1=>nN kP
theorem m6 {x kni a:Nat}:∀{k:Nat},aZ (lz x kni) k a<a+3^k
 |0=>by simp [aZ]
 |k+1=>by
  have ih:=m6 (x:=x) (kni:=kni) (a:=a) (k:=k)
  have h2:x / 2^k%2<2:=Nat.mod_lt _ (by omega)
  have h3:3^(k+1)=3^k*3:=Nat.pow_succ ..
  rw [aZ,lz]
  split
  ·have:3^k*(1+x / 2^k%2)≤3^k*2:=Nat.mul_le_mul_left _ (by omega)
   omega
  omega
theorem pz {n x i t:Nat} {cs:List CD}:(cN n x cs t i).length=i:=by simp [cN]
theorem jR {n x i t:Nat} {cs:List CD}:cN n x cs t (i+1)=cN n x cs t i++[(r5 n x cs t i:Int)]:=by unfold cN;rw [List.range_succ,List.map_append];rfl
theorem jC {n x t:Nat} {cs:List CD}:nh n x cs (t+1)=⟨(nh n x cs t).loc++[cN n x cs t n],(nh n x cs t).lO++[n6 n x cs t n]⟩:=by unfold nh;rw [List.range_succ,List.map_append,List.map_append];rfl
theorem q6 {n k R:Nat} {c:CD} (h:c∈kj n k R):c.2<2^n:=by
 obtain ⟨r,_,h⟩:=List.mem_flatMap.1 h
 obtain ⟨u,hu,rfl⟩:=List.mem_map.1 h
 exact List.mem_range.1 (List.mem_filter.1 hu).1
theorem iV {n R:Nat}:∀{m:Nat} {l:List CD} {left:Nat},l.length+m=n→(∀c∈l,c.2<2^n)→∀cs∈aW n R m l left,cs.length=n∧∀c∈cs,c.2<2^n
 |0,l,_,h,h2,cs,hc=>by
  rw [aW,List.mem_singleton] at hc;subst hc
  exact ⟨by omega,h2⟩
 |m+1,l,left,h,h2,cs,hc=>by
  have key:∀c:CD,c.2<2^n→∀x∈l++[c],x.2<2^n:=fun c hc x hx=>by
   rcases List.mem_append.1 hx with hx|hx
   ·exact h2 x hx
   rw [List.mem_singleton.1 hx];exact hc
  rw [aW] at hc
  rcases List.mem_append.1 hc with hc|hc
  ·exact iV (by simp;omega) (key _ (Nat.pos_of_ne_zero (by simp))) cs hc
  split at hc
  ·cases hc
  obtain ⟨c,hcm,hc⟩:=List.mem_flatMap.1 hc
  exact iV (by simp;omega) (key _ (q6 hcm)) cs hc
def cG (c:CD):List Value:=[.int .i64 (c.1:Int),.int .i64 (c.2:Int)]
def eP (e:TypeId) (f:List CD) (sp:List Value):Obj:=.cells (f.flatMap cG++sp).toArray e (0,0)
theorem iK {f:List CD}:(f.flatMap cG).length=f.length*2:=aO (enc:=cG) (sz:=2) (fun _=>rfl)
structure CA (w:World) (a:Option Addr) (f:List CD):Prop where
  at_:Sl w a (f.flatMap cG)
theorem CA.a8 {w0 w:World} {a:Option Addr} {f:List CD} (h:CA w0 a f) (e:Ex [] w0 w):CA w a f:=⟨Sl.ex h.at_ e (by simp)⟩
structure CV where
  a:Option Addr
  c:Nat
  f:List CD
def CV.v (x:CV):Value:=.slice x.a x.f.length x.c
def CV.In (t:TypeId) (H:Hl) (x:CV):Prop:=(x.a=none∧x.f=[])∨∃b sp,x.a=some ⟨b,0,none⟩∧(some b,eP t x.f sp)∈H
theorem CV.In.mono {t:TypeId} {H H':Hl} {x:CV} (h:x.In t H) (hs:H⊆H'):x.In t H':=by
 rcases h with h|⟨b,sp,h1,h2⟩
 ·exact .inl h
 exact .inr ⟨b,sp,h1,hs h2⟩
theorem CV.In.at {t:TypeId} {w0 w:World} {S:List Nat} {h:Hl} {Y:List (Nat×Obj)} {x:CV} (g:x.In t h) (s:St w0 S w h Y):CA w x.a x.f:=by
 rcases g with ⟨h1,h2⟩|⟨b,sp,h1,h2⟩
 ·rw [h1,h2];exact ⟨Sl.nil _ _⟩
 obtain ⟨j,hj⟩:=List.getElem?_of_mem h2
 rw [h1];exact ⟨Sl.c5 (s.get hj)⟩
structure AV where
  a:Option Addr
  c:Nat
  xs:List Int
def AV.v (x:AV):Value:=.slice x.a x.xs.length x.c
def AV.In (t:TypeId) (H:Hl) (x:AV):Prop:=∃b sp,x.a=some ⟨b,0,none⟩∧(some b,ob dP t x.xs sp)∈H
theorem AV.In.mono {t:TypeId} {H H':Hl} {x:AV} (h:x.In t H) (hs:H⊆H'):x.In t H':=by
 obtain ⟨b,sp,h1,h2⟩:=h
 exact ⟨b,sp,h1,hs h2⟩
theorem AV.In.at {t:TypeId} {w0 w:World} {S:List Nat} {h:Hl} {Y:List (Nat×Obj)} {x:AV} (g:x.In t h) (s:St w0 S w h Y):ki w x.a x.xs:=by
 obtain ⟨b,sp,h1,h2⟩:=g
 obtain ⟨j,hj⟩:=List.getElem?_of_mem h2
 rw [h1];exact Sl.c5 (s.get hj)
structure RV where
  la:Option Addr
  lc:Nat
  ls:List AV
  fa:Option Addr
  fc:Nat
  fs:List au
def RV.cells (r:RV):List Value:=[.slice r.la r.ls.length r.lc,.slice r.fa r.fs.length r.fc]
def RV.d (r:RV):RD:=⟨r.ls.map AV.xs,r.fs⟩
def r4 (e:TypeId) (rs:List RV) (sp:List Value):Obj:=.cells (rs.flatMap RV.cells++sp).toArray e (0,0)
theorem s6 {rs:List RV}:(rs.flatMap RV.cells).length=rs.length*2:=aO (enc:=RV.cells) (sz:=2) (fun _=>rfl)
structure oF (w:World) (r:RV):Prop where
  la:Sl w r.la (r.ls.map AV.v)
  ls:∀l∈r.ls,ki w l.a l.xs
  fs:qE w r.fa r.fs
theorem oF.a8 {w0 w:World} {r:RV} (h:oF w0 r) (e:Ex [] w0 w):oF w r:=⟨Sl.ex h.la e (by simp),fun l hl=>(h.ls l hl).a8 e,h.fs.a8 e⟩
structure gw (w:World) (A:Option Addr) (rs:List RV):Prop where
  at_:Sl w A (rs.flatMap RV.cells)
  runs:∀r∈rs,oF w r
theorem gw.a8 {w0 w:World} {A:Option Addr} {rs:List RV} (h:gw w0 A rs) (e:Ex [] w0 w):gw w A rs:=⟨Sl.ex h.at_ e (by simp),fun r hr=>(h.runs r hr).a8 e⟩
structure RV.In (ts ti tu:TypeId) (H:Hl) (r:RV):Prop where
  la:∃b sp,r.la=some ⟨b,0,none⟩∧(some b,ob AV.v ts r.ls sp)∈H
  ls:∀l∈r.ls,l.In ti H
  fs:∃b sp,r.fa=some ⟨b,0,none⟩∧(some b,ob U tu r.fs sp)∈H
theorem RV.In.mono {ts ti tu:TypeId} {H H':Hl} {r:RV} (h:r.In ts ti tu H) (hs:H⊆H'):r.In ts ti tu H':=by
 obtain ⟨b,sp,h1,h2⟩:=h.la
 obtain ⟨b',sp',h3,h4⟩:=h.fs
 exact ⟨⟨b,sp,h1,hs h2⟩,fun l hl=>(h.ls l hl).mono hs,⟨b',sp',h3,hs h4⟩⟩
theorem RV.In.at {ts ti tu:TypeId} {w0 w:World} {S:List Nat} {h:Hl} {Y:List (Nat×Obj)} {r:RV} (g:r.In ts ti tu h) (s:St w0 S w h Y):oF w r:=by
 obtain ⟨b,sp,h1,h2⟩:=g.la
 obtain ⟨b',sp',h3,h4⟩:=g.fs
 obtain ⟨j,hj⟩:=List.getElem?_of_mem h2
 obtain ⟨j',hj'⟩:=List.getElem?_of_mem h4
 exact ⟨by rw [h1];exact Sl.c5 (s.get hj),fun l hl=>(g.ls l hl).at s,by rw [h3];exact Sl.c5 (s.get hj')⟩
def bt (n f l:Int) (A:Option Addr) (m c:Nat):Array Value:=#[.int .i64 n,.int .i64 f,.int .i64 l,.slice A m c]
structure lh (tr ts ti tu:TypeId) (H:Hl) (A:Option Addr) (rs:List RV):Prop where
  c5:(A=none∧rs=[])∨∃b sp,A=some ⟨b,0,none⟩∧(some b,r4 tr rs sp)∈H
  runs:∀r∈rs,r.In ts ti tu H
theorem lh.mono {tr ts ti tu:TypeId} {H H':Hl} {A:Option Addr} {rs:List RV} (h:lh tr ts ti tu H A rs) (hs:H⊆H'):lh tr ts ti tu H' A rs:=
 ⟨h.c5.imp (fun h=>h) (fun ⟨b,sp,h1,h2⟩=>⟨b,sp,h1,hs h2⟩),fun r hr=>(h.runs r hr).mono hs⟩
theorem lh.at {tr ts ti tu:TypeId} {w0 w:World} {S:List Nat} {h:Hl} {Y:List (Nat×Obj)} {A:Option Addr} {rs:List RV} (g:lh tr ts ti tu h A rs) (s:St w0 S w h Y):gw w A rs:=by
 refine ⟨?_,fun r hr=>(g.runs r hr).at s⟩
 rcases g.c5 with ⟨h1,h2⟩|⟨b,sp,h1,h2⟩
 ·rw [h1,h2];exact Sl.nil _ _
 obtain ⟨j,hj⟩:=List.getElem?_of_mem h2
 rw [h1];exact Sl.c5 (s.get hj)
theorem c3.zero {w w':World}:c3 w w' []:=⟨fun p hp=>by (cases hp),List.Pairwise.nil⟩
def NI (a:Nat):Value:=.int .i64 (a:Int)
def dT (n:Nat) (f:Nat→Nat) (k:Nat):List Nat:=(List.range n).map (fun i=>if i<k then f i else 0)
section
variable {n k:Nat} {f:Nat→Nat}
theorem mx:(dT n f k).length=n:=by simp [dT]
theorem kY:dT n f 0=List.replicate n 0:=by
 apply List.ext_getElem (by simp [dT])
 intro i h1 h2;simp [dT]
theorem mw (_hk:k<n):(dT n f k).set k (f k)=dT n f (k+1):=by
 apply List.ext_getElem (by simp [dT])
 intro i h1 h2
 simp [dT,List.getElem_set]
 by_cases e:k=i
 ·subst e;simp
 have:i<k+1↔i<k:=by omega
 simp [e,this]
theorem my:dT n f n=(List.range n).map f:=by
 unfold dT
 refine List.map_congr_left (fun i hi=>?_)
 rw [if_pos (List.mem_range.1 hi)]
end
theorem tB {x:Nat} (h:x<18446744073709551616):(Value.int .u64 (x:Int))=U (BitVec.ofNat 64 x):=by
 unfold U;rw [BitVec.toNat_ofNat,Nat.mod_eq_of_lt h]
theorem cU {P:Program} {s t:TypeId} {k':IntKind} {c:TypeDesc} {x:Nat} (hs:P.underlying s=some c) (ht:P.underlying t=some (.int .u64)) (h:x<18446744073709551616):u1 P s t (.int k' (x:Int)) (U (BitVec.ofNat 64 x)):=by
 rw [←tB h];exact j8 hs ht (gx (by omega))
theorem nr {k:Nat} (h:k≤3):3^k≤27:=Nat.pow_le_pow_right (by omega) h
def eW (e:TypeId) (w w':World) (v:Value) (f:List CD):Prop:=
 ∃q cap sp,v=aU q f.length cap∧(q=none→f.length=0∧cap=0)∧(f.flatMap cG++sp).length=cap*2∧∀b,q=some b→w.heap.size≤b∧w'.heap[b]?=some (eP e f sp)
theorem jV {t:TypeId} {w0 w w':World} {S:List Nat} {h:Hl} {Y:List (Nat×Obj)} (s:St w0 S w h Y) (e:Ex [] w w') {v:Value} {f:List CD} (ho:eW t w w' v f):
  ∃q cap sp,v=aU q f.length cap∧(q=none→f.length=0∧cap=0)∧(f.flatMap cG++sp).length=cap*2∧St w0 S w' ((q,eP t f sp)::h) Y:=by
 obtain ⟨q,cap,sp,h1,h2,h3,h4⟩:=ho
 refine ⟨q,cap,sp,h1,h2,h3,?_⟩
 cases q with
 |none=>exact (s.later e).none _
 |some b=>
  obtain ⟨k1,k2⟩:=h4 b rfl
  exact s.kS e k2 rfl k1
theorem eW.il {t:TypeId} {w w':World}:eW t w w' (.slice none 0 0) []:=⟨none,0,[],rfl,fun _=>⟨rfl,rfl⟩,rfl,fun b e=>by cases e⟩
theorem eW.mk {t:TypeId} {w0 w:World} {h:Hl} {Y:List (Nat×Obj)} (s:St w0 [] w h Y) (j:Nat) {q:Option Nat} {cap:Nat} {f:List CD} {sp:List Value} (hj:h[j]?=some (q,eP t f sp)) (hq:q=none→f.length=0∧cap=0) (hc:(f.flatMap cG++sp).length=cap*2):eW t w0 w (aU q f.length cap) f:=
 ⟨q,cap,sp,rfl,hq,hc,fun b e=>by subst e;exact ⟨s.fresh hj,s.get hj⟩⟩
theorem qj {α:Type} {a b:α} {F H:List α}:(a::b::(F++H)).Perm ((F++(b::H))++[a]):=
 ((List.Perm.cons a List.perm_middle.symm).trans (List.perm_append_singleton a _).symm)
theorem sD {α:Type} {a b:α} {F H:List α}:(b::a::(F++H)).Perm ((F++(b::H))++[a]):=(List.Perm.swap a b _).trans qj
theorem iy {n R m left:Nat} {l:List CD}:aW n R (m+1) l left=aW n R m (l++[(0,0)]) left++(if left=0 then [] else (kj n l.length R).flatMap (fun c=>aW n R m (l++[c]) (left - 1))):=rfl
theorem eU {c:CD}:∀u∈cG c,u.oneCell'=true:=by
 intro u hu
 simp only [cG,List.mem_cons,List.not_mem_nil,or_false] at hu
 rcases hu with rfl|rfl<;>rfl
theorem fQ {f:List CD} {c:CD}:f.flatMap cG++cG c=(f++[c]).flatMap cG:=by simp
end Go.Proofs.Wit
namespace Go.Proofs.Wit
open Go Go.RowKit
section
variable {P:Program} {r:Option Nat} {f:FuncId} {R:Value→World→Prop} {w0:World} {S:List Nat} {Y:List (Nat×Obj)} {n:Nat} {k:List Item} {l:Fl} {h:Hl}
variable {ops:Array Oper} {i d:Nat} {rest:List Nat} {ty:TypeId} {pos:String} {aft:Array Edge} {g:Option (Nat×Bool)}
theorem aa.uK {α:Type} (enc:α→List Value) (size:Nat) (hen:∀a,(enc a).length=size) {t e:TypeId} {x y:Operand} {inf:TypeInfo} {z:Value} {q:Option Nat} {xs:List α} {sp:List Value} {cap:Nat} {an:Option Addr} {m c:Nat} (news:List α)
  (ho:ops[i]?=some ⟨some d,.call ⟨.builtin .append,#[x,y],#[t,t]⟩,ty,pos,aft,g⟩) (hw:al ops l g=true) (hx:aA l x=some (aU q xs.length cap)) (hy:aA l y=some (.slice an m c)) (hd:Nat.blt d n=true)
  (hu:P.underlying t=some (.slice e)) (hi:P.info? e=some inf) (hz:inf.zero=some z) (hsz:inf.size=size) (hz1:z.cells.size=size)
  (hq:q=none→xs.length=0∧cap=0) (j:Nat) (hj:h[j]?=some (q,.cells (xs.flatMap enc++sp).toArray e (0,0))) (hsl:∀w Y',St w0 S w h Y'→Sl w an (news.flatMap enc))
  (hcap:(xs.flatMap enc++sp).length=cap*size) (hl:m=news.length) (hm0:0<m) (hs0:0<size) (h1:∀a,∀u∈enc a,u.oneCell'=true) (hmx:xs.length+m≤maxLen) (hbytes:(xs.length+m)*inf.bytes≤140737488355328)
  (hk:∀b' sp' cap',((xs++news).flatMap enc++sp').length=cap'*size→aa P r f R w0 S Y n (.inRegion ops rest::k) ((d,aU (some b') (xs++news).length cap')::l) (h.set j (some b',.cells ((xs++news).flatMap enc++sp').toArray e (0,0)))):aa P r f R w0 S Y n (.inRegion ops (i::rest)::k) l h:=
 .mem ho hw rfl rfl hd (fun t' w Ds Y' hF hS=>by
  have hfl:∀as:List α,(as.flatMap enc).length=as.length*size:=fun as=>aO (enc:=enc) (sz:=size) hen
  have hs:=hsl w Y' hS
  have hpos:0<(news.flatMap enc).length:=by
   rw [hfl];exact Nat.mul_pos (by omega) hs0
  obtain ⟨bn,o,rfl,_⟩:=hs.isSome hpos
  have hnews:∀j u,(news.flatMap enc)[j]?=some u→w.cell? ((⟨bn,o,none⟩:Addr).add j)=some u:=by
   intro j u hv
   have hjl:=(List.getElem?_eq_some_iff.1 hv).1
   have e1:(⟨bn,o,none⟩:Addr).add j=dk (some ⟨bn,o,none⟩) j:=by
    unfold Addr.add dk;split
    ·rename_i h0;rw [h0];rfl
    rfl
   rw [e1,hs.cell j hjl]
   rw [List.getD_eq_getElem?_getD,hv];rfl
  subst hl
  obtain ⟨b',sp',cap',w',hrun,hlen,hS'⟩:=gF hu hi hz hsz hz1 hS (xs:=xs.flatMap enc) (nx:=xs.length) (hfl xs) hcap hq hj (c:=c) (m:=news.length) (news:=news.flatMap enc) (hfl news) hm0 hnews (fun u hu=>by obtain ⟨a,_,ha⟩:=List.mem_flatMap.1 hu;exact h1 a u ha) hmx hbytes ty
  have e2:xs.flatMap enc++news.flatMap enc=(xs++news).flatMap enc:=by simp
  have e3:xs.length+news.length=(xs++news).length:=by simp
  rw [e2] at hlen hS'
  rw [e3] at hrun
  refine ⟨_,w',_,?_,hS',hk b' sp' cap' hlen⟩
  have e1:(#[x,y]:Array Operand).map (Act.eval ⟨t',Ds.map mark⟩)=#[aU q xs.length cap,.slice (some ⟨bn,o,none⟩) news.length c]:=by simp [hF.aA hx,hF.aA hy]
  simp only [execOp,resolve,e1,Sem.run_bind,Sem.run_pure,Result.andThen_ok,invoke,builtin,hrun])
end
end Go.Proofs.Wit
namespace Go.Proofs.Wit
open Go Go.RowKit
structure uT (r:List au) (f t:au) (p:List Nat):Prop where
  lt:∀i,i<p.length→p.getD i 0<r.length
  step:∀i,i+1<p.length→Rl r (p.getD i 0) (p.getD (i+1) 0)
  first:0<p.length→f.getLsbD (p.getD 0 0)=true
  last:0<p.length→t.getLsbD (p.getD (p.length - 1) 0)=true
theorem jm {P:Program} {t:TypeId} {a b:Int} {v:Bool} {k:IntKind} (e:decide (a≥b)=v):dF P .geq t (.int k a) (.int k b) (.bool v):=e ▸ uH
end Go.Proofs.Wit
namespace Go.Proofs.Wit
open Go Go.RowKit
structure tV (n:Int) (val:List au) (rel:List (List au)) (l:Int) (n':Int) (val':List au) (rel':List (List au)):Prop where
  n_:n'=n
  vp:val'=val
  len:rel'.length=rel.length
  row:∀i (h:i<rel.length) (h':i<rel'.length),∃c,tH (qv (nm l)) rel[i] c∧rel'[i]=tZ (nm l) c
section
variable {n:Int} {val:List au} {rel:List (List au)} {l:Int} {n':Int} {val':List au} {rel':List (List au)}
end
end Go.Proofs.Wit
namespace Go.Proofs.Wit
open Go Go.RowKit
theorem gg {P:Program} {t:TypeId} {a b c:Int} (e:a*b=c) (h:-9223372036854775808≤c∧c≤9223372036854775807):dF P .mul t (.int .i64 a) (.int .i64 b) (.int .i64 c):=by
 subst e
 intro x y w
 have h1:IntKind.i64.wrap (a*b)=a*b:=IntWalk.i64_in _ (by omega)
 have h2:eqGuard .mul t x y (.int .i64 a) (.int .i64 b)=pure ():=by unfold eqGuard;rfl
 rw [h2]
 show (pure (Value.int .i64 (IntKind.i64.wrap (a*b))):Sem Value).run P w=_
 rw [h1];rfl
structure wz (ps:List Int) (r:List au) (i:Nat) (x:List au):Prop where
  val:lX x
  le:Le r x
  min:∀c,lX c→Le r c→qv ps c→Le x c
  refl:2∈ps→qh x
  vr:1≤i→4∈ps→¬5∈ps→lu x
  vO:1≤i→5∈ps→oc x
  both:2≤i→5∈ps→lu x
end Go.Proofs.Wit
namespace Go.Proofs.Wit
open Go Go.RowKit
end Go.Proofs.Wit
namespace Go.Proofs.Wit
open Go Go.RowKit
theorem rR {P:Program} {t:TypeId} {a b:Int} {v:Bool} {k:IntKind} (e:decide (a≤b)=v):dF P .leq t (.int k a) (.int k b) (.bool v):=e ▸ tR
structure xh (ks:Nat→List UInt8) (n:Nat) (L:List (List UInt8×Nat)) (l:List Int) (k:Nat):Prop where
  len:l.length=n
  le:k≤n
  low:∀x v,aG (fun a b=>a==b) L x=some v→v<k∧ks v=x
  at_:∀i,i<k→∃v:Nat,l.getD i 0=v∧aG (fun a b=>a==b) L (ks i)=some v∧v≤i
structure wy (ks:Nat→List UInt8) (n:Nat) (p:List Int):Prop where
  len:p.length=n
  low:∀i,i<n→∃v:Nat,p.getD i 0=v∧v≤i∧ks v=ks i∧p.getD v 0=v
  eq:∀i j,i<n→j<n→ks i=ks j→p.getD i 0=p.getD j 0
end Go.Proofs.Wit
