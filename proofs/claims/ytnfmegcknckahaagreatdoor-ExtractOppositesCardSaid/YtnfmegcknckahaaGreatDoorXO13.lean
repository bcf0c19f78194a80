/- Laws of walks, for any program, under the conditions that each theorem states. -/
import Derived.Test.YtnfmegcknckahaaGreatDoorXO11
import Derived.Test.YtnfmegcknckahaaGreatDoorXO02
import Derived.Test.YtnfmegcknckahaaGreatDoorXO05
namespace Go.Proofs.Wit
open Go Go.RowKit
theorem G5 {P:Program} {t:TypeId} {a b c:Nat} (ha:a<512) (hb:b<512) (hc:c=a|||b):kD P .or t (.int .i64 a) (.int .i64 b) (.int .i64 c):=by
 subst hc
 refine bI _ ?_
 have hx:a|||b<2^9:=Nat.or_lt_two_pow (by omega) (by omega)
 have h1:(BitVec.ofInt 64 (a:Int)).toNat=a:=by
  rw [BitVec.ofInt_natCast,BitVec.toNat_ofNat];exact Nat.mod_eq_of_lt (by omega)
 have h2:(BitVec.ofInt 64 (b:Int)).toNat=b:=by
  rw [BitVec.ofInt_natCast,BitVec.toNat_ofNat];exact Nat.mod_eq_of_lt (by omega)
 rw [binOp_or]
 show (pure (Value.int .i64 (IntKind.i64.wrap ((BitVec.ofInt 64 (a:Int)|||BitVec.ofInt 64 (b:Int)).toNat:Int))):Sem Value)=_
 rw [BitVec.toNat_or,h1,h2,IntWalk.i64_in _ (by omega)]
def zT (n:NV):Nat:=(xl n.op).toNat
theorem rV (op:Int):0≤xl op∧xl op<512:=by
 unfold xl
 repeat' split
 all_goals omega
theorem yS (n:NV):(zT n:Int)=xl n.op:=by
 have:=rV n.op
 unfold zT;omega
def kM (c:List NV):Nat:=c.foldl (fun a n=>a|||zT n) 0
theorem rf {c:List NV} {n:NV}:kM (c++[n])=kM c|||zT n:=by simp [kM]
theorem rU (c:List NV):kM c<512:=by
 induction c using gq with
 |h0=>decide
 |h1 c n ih=>
  rw [rf]
  have h2:zT n<2^9:=by have:=rV n.op;unfold zT;omega
  exact Nat.or_lt_two_pow (n:=9) ih h2
theorem p3 (f:List NV):(aj f).length≤200:=by
 by_cases h:aV f=0
 ·exact (iy h).len
 rw [aj,if_pos h];exact Nat.zero_le _
end Go.Proofs.Wit
namespace Go.Proofs.Wit
open Go Go.RowKit
def GY:List UInt8:=[48,49,50,51,52,53,54,55,56,57,97,98,99,100,101,102,103,104,105,106,107,108,109,110,111,112,113,114,115,116,117,118,119,120,121,122]
def HM (i:Nat):UInt8:=GY.getD i 0
def DH (n:Nat):List UInt8:=if n<16 then [HM n] else DH (n / 16)++[HM (n%16)]
termination_by n
section
variable {P:Program} {r:Option Nat} {f:FuncId} {R:Value→World→Prop} {w0:World} {S:List Nat} {Y:List (Nat×Obj)} {n:Nat} {k:List Item} {l:Fl} {h:Hl}
variable {ops:Array Oper} {i d:Nat} {rest:List Nat} {ty:TypeId} {pos:String} {aft:Array Edge} {g:Option (Nat×Bool)} {t:TypeId}
end
structure IG (ks:Nat→List UInt8) (n:Nat) (L:List (List UInt8×Nat)) (l:List Int) (k:Nat):Prop where
  len:l.length=n
  le:k≤n
  lt:∀x v,cG (fun a b=>a==b) L x=some v→v<L.length
  inj:∀x y v,cG (fun a b=>a==b) L x=some v→cG (fun a b=>a==b) L y=some v→x=y
  at_:∀i,i<k→∃v:Nat,l.getD i 0=v∧cG (fun a b=>a==b) L (ks i)=some v
end Go.Proofs.Wit
namespace Go.Proofs.Wit
open Go Go.RowKit
section
variable {P:Program} {t:TypeId}
theorem wy (x:Nat):BitVec.ofInt 64 (x:Int)=BitVec.ofNat 64 x:=by
 apply BitVec.eq_of_toNat_eq;simp
theorem FT {x j:Nat} {b:Int} {k:IntKind} (h:b=j) (hx:x*2^j<9223372036854775808) (hj:j≤64):kD P .shl t (.int .i64 x) (.int k b) (.int .i64 ((x*2^j:Nat):Int)):=by
 subst h
 refine ke (fun p q=>rY _ _ _ _ _ _ _ _) ?_
 show Op.shift .shl .i64 (x:Int) k (j:Int)=_
 unfold Op.shift
 rw [if_neg (by omega),Int.toNat_natCast]
 show pure (Value.int .i64 (IntKind.i64.wrap ((x:Int)*2^(min j 64))))=_
 rw [Nat.min_eq_left hj]
 have e1:((x:Int)*2^j)=((x*2^j:Nat):Int):=by norm_cast
 rw [e1,IntWalk.i64_in _ (by omega)]
end
end Go.Proofs.Wit
namespace Go.Proofs.Wit
def GQ (r s z:List ax) (v w:Nat):Bool:=(dX (r.getD v 0#64)).all (fun x=>z.getD x 0#64 &&& s.getD w 0#64 !=0#64) && (s.getD w 0#64 &&& ~~~ uA z (r.getD v 0#64)==0#64)
def A3 (va vb:List ax) (ra rb:List (List ax)) (z:List ax) (v w:Nat):Bool:=(fm va v==fm vb w) && (List.range ra.length).all (fun i=>GQ (ra.getD i []) (rb.getD i []) z v w)
def IJ (l c:List ax):Prop:=∀u v,Rl l u v→Rl c u v
section
variable {va vb:List ax} {ra rb:List (List ax)}
def Hm (va vb:List ax) (ra rb:List (List ax)) (z:List ax):Prop:=∀v w,Rl z v w→A3 va vb ra rb z v w=true
structure Ht (va vb:List ax) (ra rb:List (List ax)) (na nb:Nat) (z:List ax):Prop where
  len:z.length=na
  IU:∀v w,Rl z v w→w<nb
  top:∀z':List ax,z'.length=na→(∀v w,Rl z' v w→w<nb)→Hm va vb ra rb z'→IJ z' z
theorem AQ {w i:Nat} (hw:w<64):(1#64<<<w).getLsbD i=decide (i=w):=by
 rw [BitVec.getLsbD_shiftLeft]
 by_cases e:i=w
 ·subst e;simp [hw]
 rw [decide_eq_false e]
 by_cases h1:i<64
 ·by_cases h2:i<w
  ·simp [h1,h2]
  ·have h3:i - w≠0:=by omega
   simp [h1,h2,h3]
 simp [h1]
end
def An (z:List ax):Nat:=(z.map BitVec.toNat).sum
structure Cr (va vb:List ax) (ra rb:List (List ax)) (na nb:Nat) (z0 z:List ax) (ch:Bool) (k:Nat):Prop where
  inv:Ht va vb ra rb na nb z
  le:An z≤An z0
  I0:ch=true→An z<An z0
  same:ch=false→∀v w,v<k→Rl z v w→A3 va vb ra rb z v w=true
structure Iz (va vb:List ax) (ra rb:List (List ax)) (na nb:Nat) (z0:List ax) (k:Nat) (s:ax) (i:Nat) (z:List ax) (ch:Bool):Prop where
  pf:Cr va vb ra rb na nb z0 z ch k
  row:∀w,Rl z k w→s.getLsbD w=true
  left:∀w∈(dX s).drop i,Rl z k w
  done:ch=false→∀w∈(dX s).take i,A3 va vb ra rb z k w=true
section
variable {va vb:List ax} {ra rb:List (List ax)} {na nb k i:Nat} {z0 z:List ax} {s:ax} {ch:Bool}
end
end Go.Proofs.Wit
namespace Go.Proofs.Wit
open Go Go.RowKit
section
variable {P:Program} {t:TypeId}
end
section
variable {κ:Type} [DecidableEq κ]
structure Down (key:Nat→κ) (i:Nat) (j:Int) (low:Nat):Prop where
  lo:j<low
  hi:low≤i
  eq:key low=key i
  min:∀m:Nat,j<m→m≤i→key m=key i→low≤m
omit [DecidableEq κ] in
end
structure IA (va vb:List ax) (ra rb:List (List ax)) (na nb:Nat) (z0:List ax) (k j:Nat) (z:List ax) (ch:Bool):Prop where
  pf:Cr va vb ra rb na nb z0 z ch k
  done:ch=false→∀w,w<j→Rl z k w→A3 va vb ra rb z k w=true
section
variable {va vb:List ax} {ra rb:List (List ax)} {na nb k j:Nat} {z0 z:List ax} {ch:Bool}
end
end Go.Proofs.Wit
namespace Go.Proofs.Wit
open Go Go.RowKit
section
variable {P:Program} {t:TypeId}
theorem Cm {x j:Nat} {b:Int} {k:IntKind} (h:b=j) (_hx:x<9223372036854775808) (hj:j≤64):kD P .shr t (.int .i64 x) (.int k b) (.int .i64 ((x / 2^j:Nat):Int)):=by
 subst h
 refine ke (fun p q=>rY _ _ _ _ _ _ _ _) ?_
 show Op.shift .shr .i64 (x:Int) k (j:Int)=_
 unfold Op.shift
 rw [if_neg (by omega),Int.toNat_natCast]
 show pure (Value.int .i64 ((x:Int).fdiv (2^(min j 64))))=_
 rw [Nat.min_eq_left hj]
 have e1:((2:Int)^j)=((2^j:Nat):Int):=by norm_cast
 rw [e1,←Int.ofNat_fdiv]
theorem zA {x:Nat} (hx:x<9223372036854775808):kD P .and t (.int .i64 x) (.int .i64 1) (.int .i64 ((x%2:Nat):Int)):=bI _ (by
 show Op.intBits .and .i64 (x:Int) 1=_
 unfold Op.intBits
 have e1:(BitVec.ofInt 64 (x:Int) &&& BitVec.ofInt 64 1).toNat=x%2:=by
  rw [wy,show BitVec.ofInt 64 1=BitVec.ofNat 64 1 from rfl,BitVec.toNat_and,BitVec.toNat_ofNat,BitVec.toNat_ofNat,Nat.mod_eq_of_lt (by omega),Nat.mod_eq_of_lt (by omega),Nat.and_one_is_mod]
 show pure (Value.int .i64 (IntKind.i64.wrap ((BitVec.ofInt 64 (x:Int) &&& BitVec.ofInt 64 1).toNat:Int)))=_
 rw [e1,IntWalk.i64_in _ (by omega)])
end
def gb (g k:Nat):Nat:=g / 2^k%2
def Fi (n:Nat) (rel:List (List ax)) (g w:Nat) (k:Nat):ax:=tZ (fun a (o:ax)=>if gb g a=1 then o &&& (rel.getD a []).getD w 0#64 else o) (zC n) k
def Dg (n:Nat) (rel:List (List ax)) (g k:Nat):List ax:=(List.range n).map (fun w=>Fi n rel g w k)
def Fj (n:Nat) (rel:List (List ax)) (g:Nat):List ax:=Dg n rel g rel.length
section
variable {n:Nat} {rel:List (List ax)} {g k w:Nat}
end
section
variable {P:Program} {r:Option Nat} {f:FuncId} {R:Value→World→Prop} {w0:World} {S:List Nat} {Y:List (Nat×Obj)} {n:Nat} {k:List Item} {l:Fl} {h:Hl}
variable {ops:Array Oper} {i d:Nat} {rest:List Nat} {ty:TypeId} {pos:String} {aft:Array Edge} {g:Option (Nat×Bool)}
end
end Go.Proofs.Wit
namespace Go.Proofs.Wit
open Go
theorem vq {w i:Nat} (hw:w<64):(1#64<<<w).getLsbD i=true↔i=w:=by rw [AQ hw];simp
def EV (q:Nat→Bool) (n:Nat):ax:=tZ (fun w (o:ax)=>if q w=true then o|||1#64<<<w else o) 0#64 n
def BH (r:List ax) (n:Nat) (s:ax):ax:=EV (fun w=>r.getD w 0#64 &&& ~~~s==0#64) n
def E1 (r:List ax) (c:ax) (n:Nat) (s:ax):ax:=tZ (fun w (o:ax)=>if o.getLsbD w=true then o|||(r.getD w 0#64 &&& c) else o) s n
def C0 (r:List ax) (n v:Nat) (c:ax) (k:Nat):ax:=tZ (fun _ (o:ax)=>E1 r c n o) (r.getD v 0#64 &&& c) k
def E5 (r:List ax) (n v:Nat) (c:ax):ax:=C0 r n v c n
def G0 (r:List ax) (n:Nat) (c s:ax):ax:=EV (fun w=>E5 r n w c &&& ~~~s==0#64) n
inductive Ee (r:List ax) (c:ax) (v:Nat):Nat→Prop where
  |one {u:Nat} (h:Rl r v u) (hc:c.getLsbD u=true):Ee r c v u
  |step {u x:Nat} (h:Ee r c v u) (h2:Rl r u x) (hc:c.getLsbD x=true):Ee r c v x
def Fq (rel:List (List ax)) (g w:Nat) (k:Nat):ax:=tZ (fun a (o:ax)=>if gb g a=1 then o|||(rel.getD a []).getD w 0#64 else o) 0#64 k
def Du (n:Nat) (rel:List (List ax)) (g k:Nat):List ax:=(List.range n).map (fun w=>Fq rel g w k)
def Cc (n:Nat) (rel:List (List ax)) (g:Nat):List ax:=Du n rel g rel.length
def FQ (op:Int) (x y all:ax):ax:=if op=1 then all else if op=4 then all &&& ~~~x else if op=5 then x &&& y else if op=6 then x|||y else if op=7 then (all &&& ~~~x)|||y else if op=8 then all &&& ~~~(x^^^y) else 0#64
def C3 (n:Nat) (val:List ax) (rel:List (List ax)) (op i g:Int) (x y:ax):ax:=
 if op=3 then val.getD i.toNat 0#64 else if op≤8 then FQ op x y (zC n)
 else if op=9 then BH (rel.getD i.toNat []) n x else if op=10 then zC n &&& ~~~BH (rel.getD i.toNat []) n (zC n &&& ~~~x)
 else if op=11 then BH (Cc n rel g.toNat) n x else if op=12 then BH (Fj n rel g.toNat) n x else G0 (Cc n rel g.toNat) n x y
def xR (n:Nat) (val:List ax) (rel:List (List ax)):Tr→ax
 |.leaf op i _ g=>C3 n val rel op i g 0#64 0#64
 |.un op i _ g a=>C3 n val rel op i g (xR n val rel a) 0#64
 |.bin op i _ g a b=>C3 n val rel op i g (xR n val rel a) (xR n val rel b)
end Go.Proofs.Wit
namespace Go.Proofs.Wit
open Go
abbrev Hq (p:List Int) (v w:Nat):Prop:=p.getD v 0=p.getD w 0
structure I3 (n:Nat) (p' p:List Int) (R:List ax):Prop where
  fb:∀v w,v<n→w<n→Hq p' v w→∀u,Rl R v u→∃u',Rl R w u'∧Hq p u u'
def IK (n:Nat) (p:List Int) (s:ax):Prop:=∀v w,v<n→w<n→Hq p v w→s.getLsbD v=true→s.getLsbD w=true
section
variable {n:Nat} {p p':List Int} {s t c:ax} {R:List ax}
end
section
variable {n:Nat} {val:List ax} {oF:List (List ax)}
end
def jQ (q:Int→Int→Int→Prop):Tr→Prop
 |.leaf op i _ g=>q op i g
 |.un op i _ g a=>q op i g∧jQ q a
 |.bin op i _ g a b=>q op i g∧jQ q a∧jQ q b
def GL (op:Int):Nat:=if 9≤op∧op≤15∨18≤op then 1 else 0
def Bu:Tr→Nat
 |.leaf op _ _ _=>GL op
 |.un op _ _ _ a=>Bu a+GL op
 |.bin op _ _ _ a b=>max (Bu a) (Bu b)+GL op
end Go.Proofs.Wit
namespace Go.Proofs.Wit
open Go
def Ew (q:Int→Int→Int→Prop):Tr→Prop
 |.leaf op i _ g=>q op i g
 |.un op i _ g _=>q op i g
 |.bin op i _ g _ _=>q op i g
theorem jQ.Ew {q:Int→Int→Int→Prop}:∀{t:Tr},jQ q t→Wit.Ew q t
 |.leaf ..,h=>h
 |.un ..,h=>h.1
 |.bin ..,h=>h.1
theorem jQ.tu {q:Int→Int→Int→Prop}:∀{t c:Tr},jQ q t→c∈kids t→jQ q c
 |.leaf ..,_,_,hc=>by cases hc
 |.un ..,_,h,hc=>by rw [List.mem_singleton.1 hc];exact h.2
 |.bin ..,_,h,hc=>by
  simp only [kids,List.mem_cons,List.not_mem_nil,or_false] at hc
  rcases hc with rfl|rfl
  ·exact h.2.1
  exact h.2.2
theorem lY.jQ {q:Int→Int→Int→Prop} {ts:List Tr} (hc:lY ts) (h:∀u∈ts,Wit.Ew q u):∀t:Tr,t∈ts→Wit.jQ q t
 |.leaf ..,ht=>h _ ht
 |.un _ _ _ _ a,ht=>⟨h _ ht,hc.jQ h a (hc.mem ht a (by simp [kids]))⟩
 |.bin _ _ _ _ a b,ht=>⟨h _ ht,hc.jQ h a (hc.mem ht a (by simp [kids])),hc.jQ h b (hc.mem ht b (by simp [kids]))⟩
theorem th (t:Tr):t∈gl t:=(ia t).mem
theorem xd {q:Int→Int→Int→Prop} {t:Tr}:jQ q t↔∀u∈gl t,Ew q u:=
 ⟨fun h u hu=>(qI (fun _ ht _ hc=>ht.tu hc) t h (fun u hu=>by cases hu) u hu).Ew,fun h=>(ia t).oL.jQ h t (th t)⟩
theorem pN {q:Int→Int→Int→Prop} {ts:List Tr}:∀{u:Tr},Ew q u↔q (br ts u).op (br ts u).i (br ts u).g
 |.leaf ..=>Iff.rfl
 |.un ..=>Iff.rfl
 |.bin ..=>Iff.rfl
theorem zD {q:Int→Int→Int→Prop} {t:Tr}:jQ q t↔∀n∈bS t,q n.op n.i n.g:=by
 rw [xd]
 show _↔∀n∈aS (gl t),_
 unfold aS
 constructor
 ·intro h n hn
  obtain ⟨u,hu,rfl⟩:=List.mem_map.1 hn
  exact pN.1 (h u hu)
 intro h u hu
 exact pN.2 (h _ (List.mem_map_of_mem hu))
def B5 (h:NV→Nat) (c:List NV):Nat:=c.foldl (fun a n=>a|||h n) 0
theorem yg {h:NV→Nat} {c:List NV} {n:NV}:B5 h (c++[n])=B5 h c|||h n:=by simp [B5]
theorem vp {h:NV→Nat} {j:Nat} {c:List NV}:(B5 h c).testBit j=true↔∃n∈c,(h n).testBit j=true:=by
 induction c using gq with
 |h0=>simp [B5]
 |h1 c n ih=>
  rw [yg,Nat.testBit_or,Bool.or_eq_true,ih]
  simp only [List.mem_append,List.mem_singleton]
  constructor
  ·rintro (⟨m,h1,h2⟩|h1)
   ·exact ⟨m,.inl h1,h2⟩
   ·exact ⟨n,.inr rfl,h1⟩
  rintro ⟨m,h1|rfl,h2⟩
  ·exact .inl ⟨m,h1,h2⟩
  exact .inr h2
def Ik (n:NV):Nat:=if n.op=3 then 2^n.i.toNat else 0
def It (n:NV):Nat:=(if o8 n.op=true then 2^n.i.toNat else 0)|||n.g.toNat
structure Gd (op i e g:Int):Prop where
  i0:iO op=false→i=0
  e0:op≠17→e=0
  g0:lN op=false→g=0
  fact:op=3→0≤i∧i<8
  ag:o8 op=true→0≤i∧i<4
  act:op=17→(0≤i∧i<8)∧0≤e∧e<8
  gr:lN op=true→1≤g∧g<16
theorem gx {op i e g:Int} (h:eX op i e g=0):Gd op i e g:=by
 unfold eX at h
 split at h
 ·cases h
 rename_i h1
 split at h
 ·cases h
 rename_i h2
 simp only [Bool.or_eq_true,Bool.and_eq_true,Bool.not_eq_true',bne_iff_ne,ne_eq,beq_iff_eq,not_or,not_and,Bool.and_eq_false_iff,decide_eq_false_iff_not,Classical.not_not] at h1 h2
 obtain ⟨⟨a1,a2⟩,a3⟩:=h1
 obtain ⟨⟨⟨b1,b2⟩,b3⟩,b4⟩:=h2
 refine ⟨a1,a2,a3,fun e=>?_,fun e=>?_,fun e=>?_,fun e=>?_⟩
 ·have:=b1 e;omega
 ·have:=b2 e;omega
 ·have:=b3 e;omega
 have:=b4 e;omega
def HI (m k A:Nat):Bool:=(List.range k).all (fun i=>gb m i !=1||decide (i<A))
def FE (f:List NV) (A B:Nat):Bool:=aV f==0 && (HI (B5 It (aj f)) 4 A && HI (B5 Ik (aj f)) 8 B)
def Hu (A B:Nat) (op i g:Int):Prop:=(o8 op=true→i.toNat<A)∧(op=3→i.toNat<B)∧g.toNat<2^A
theorem bd.H5 {f:List NV} (h:bd f):∀n∈f,1≤n.op∧n.op≤21:=fun n hn=>by
 obtain ⟨i,hi,rfl⟩:=List.mem_iff_getElem.1 hn
 exact (h i hi).op
def kh (a b:Nat):Nat:=a &&& (511^^^b)
theorem oi {a b:Nat} (ha:a<512):kh a b=0↔∀i,a.testBit i=true→b.testBit i=true:=by
 have h511:∀i,(511:Nat).testBit i=decide (i<9):=fun i=>by
  rw [show (511:Nat)=2^9 - 1 from rfl,Nat.testBit_two_pow_sub_one]
 constructor
 ·intro h i hi
  have h9:i<9:=by
   refine Classical.byContradiction (fun hc=>?_)
   rw [Nat.testBit_lt_two_pow (Nat.lt_of_lt_of_le ha (by show 2^9≤2^i;exact Nat.pow_le_pow_right (by decide) (by omega)))] at hi
   cases hi
  have:=congrArg (fun x=>x.testBit i) h
  simp only [kh,Nat.testBit_and,Nat.testBit_xor,hi,h511,h9,decide_true,Nat.zero_testBit,Bool.true_and,Bool.true_bne] at this
  simpa using this
 intro h
 refine Nat.eq_of_testBit_eq (fun i=>?_)
 rw [kh,Nat.testBit_and,Nat.testBit_xor,h511,Nat.zero_testBit]
 cases e:a.testBit i with
 |false=>rfl
 |true=>
  rw [h i e]
  have h9:i<9:=by
   refine Classical.byContradiction (fun hc=>?_)
   rw [Nat.testBit_lt_two_pow (Nat.lt_of_lt_of_le ha (by show 2^9≤2^i;exact Nat.pow_le_pow_right (by decide) (by omega)))] at e
   cases e
  simp [h9]
theorem yR (n:NV):zT n<512:=by
 have:=rV n.op
 have:=yS n
 omega
theorem yP {c:List NV} {b:Nat}:kh (kM c) b=0↔∀n∈c,kh (zT n) b=0:=by
 rw [oi (rU c)]
 constructor
 ·intro h n hn
  rw [oi (yR n)]
  exact fun i hi=>h i (vp.2 ⟨n,hn,hi⟩)
 intro h i hi
 obtain ⟨n,hn,hb⟩:=vp.1 (show (B5 zT c).testBit i=true from hi)
 exact (oi (yR n)).1 (h n hn) i hb
theorem yi {p:Int→Prop} (h:∀k:Nat,k<21→p ((k:Int)+1)) {op:Int} (ho:1≤op∧op≤21):p op:=by
 have:=h (op.toNat - 1) (by omega)
 rw [show (((op.toNat - 1:Nat):Int)+1)=op by omega] at this
 exact this
theorem Bk {t:Tr} {b:Nat} {r:Int→Prop} (ht:t.ok) (hr:∀{op:Int},(1≤op∧op≤21)→(kh (xl op).toNat b=0↔r op)):kh (kM (bS t)) b=0↔jQ (fun op _ _=>r op) t:=by
 rw [yP,zD]
 have ho:=(ml ht).H5
 exact ⟨fun h n hn=>(hr (ho n hn)).1 (h n hn),fun h n hn=>(hr (ho n hn)).2 (h n hn)⟩
theorem zz {P:Program} {t:TypeId} {a b:Nat} (ha:a<512) (hb:b<512):kD P .andNot t (.int .i64 a) (.int .i64 b) (.int .i64 (kh a b)):=by
 refine bI _ ?_
 have h1:(BitVec.ofInt 64 (a:Int)).toNat=a:=by
  rw [BitVec.ofInt_natCast,BitVec.toNat_ofNat];exact Nat.mod_eq_of_lt (by omega)
 have h2:BitVec.ofInt 64 (b:Int)=BitVec.ofNat 64 b:=BitVec.ofInt_natCast ..
 have h0:BitVec.ofInt 64 (a:Int)=BitVec.ofNat 64 a:=BitVec.ofInt_natCast ..
 have hx:kh a b<2^9:=Nat.and_lt_two_pow _ (by show 511^^^b<2^9;exact Nat.xor_lt_two_pow (by decide) (by omega))
 have key:(BitVec.ofInt 64 (a:Int) &&& ~~~ BitVec.ofInt 64 (b:Int))=BitVec.ofNat 64 (kh a b):=by
  rw [h0,h2]
  apply BitVec.eq_of_getLsbD_eq
  intro i hi
  rw [BitVec.getLsbD_and,BitVec.getLsbD_not,BitVec.getLsbD_ofNat,BitVec.getLsbD_ofNat,BitVec.getLsbD_ofNat,kh,Nat.testBit_and,Nat.testBit_xor,show (511:Nat)=2^9 - 1 from rfl,Nat.testBit_two_pow_sub_one]
  have e9:¬i<9→a.testBit i=false:=fun hc=>Nat.testBit_lt_two_pow (Nat.lt_of_lt_of_le ha (by show 2^9≤2^i;exact Nat.pow_le_pow_right (by decide) (by omega)))
  by_cases h9:i<9
  ·simp [hi,h9]
  simp [hi,e9 h9]
 show (binOp .andNot t (.int .i64 a) (.int .i64 b))=_
 show (pure (Value.int .i64 (IntKind.i64.wrap ((BitVec.ofInt 64 (a:Int) &&& ~~~ BitVec.ofInt 64 (b:Int)).toNat:Int))):Sem Value)=_
 rw [key,BitVec.toNat_ofNat,Nat.mod_eq_of_lt (by omega),IntWalk.i64_in _ (by omega)]
def Fw (n:Int) (val:List ax) (rel:List (List ax)) (f:List NV):Int:=
 if zn n val rel≠0 then zn n val rel else if aV f≠0 then aV f else if kh (kM (aj f)) 15≠0 then 10 else if FE f rel.length val.length=false then 2 else 0
def F8 (A B:Nat) (op i g:Int):Prop:=op≤13∧Hu A B op i g
end Go.Proofs.Wit
namespace Go.Proofs.Wit
structure HT (A B:Nat) (nd:NV):Prop where
  IW:1≤nd.op
  H6:nd.op≤13
  fact:nd.op=3→0≤nd.i∧nd.i.toNat<B
  ag:nd.op=9∨nd.op=10→0≤nd.i∧nd.i.toNat<A
  gr:11≤nd.op→1≤nd.g∧nd.g.toNat<2^A
structure gI (g:List NV):Prop where
  iY:aV g=0
  can:g=bS (aO g)
theorem gI.ok {g:List NV} (h:gI g):(aO g).ok:=(aA.1 h.iY).top
theorem gI.of {t:Tr} (h:t.ok) (hl:(bS t).length≤200):gI (bS t):=⟨(oe h hl).2.1,by rw [(oe h hl).2.2]⟩
theorem gI.aj {f:List NV} (h:aV f=0):gI (aj f):=by
 have hl:=nV h
 have hl2:=(aA.1 h).len
 rw [dt h] at hl⊢
 exact .of (aA.1 h).top (by omega)
theorem qK {f:List NV} (h:aV f=0):aO (aj f)=aO f:=by
 rw [dt h];exact iV (aA.1 h).top.wf
theorem gI.len {g:List NV} (h:gI g):g.length≤200:=(aA.1 h.iY).len
theorem gI.nodes {g:List NV} (h:gI g):bd g:=(aA.1 h.iY).nodes
theorem gI.trees {g:List NV} (h:gI g):Wit.trees g=gl (aO g):=by
 have:=h.can
 rw [this]
 conv=>rhs;rw [←this]
 exact l0 h.ok.wf
end Go.Proofs.Wit
namespace Go.Proofs.Wit
open Go Go.RowKit
theorem xG {c t:Tr} (h:c∈kids t):gl c⊆gl t:=
 iT c (ts:=[]) (ia t).oL ((ia t).oL.mem (th t) c h) (List.nil_subset _)
theorem jg {c t:Tr} (h:c∈kids t):(bS c).length≤(bS t).length:=by
 rw [fT,fT]
 exact (ia c).nd.length_le_of_subset (xG h)
theorem jI {t:Tr} (h:200<(bS t).length):bT t=[]:=if_pos h
theorem zw {t:Tr} (h:¬200<(bS t).length):bT t=bS t:=if_neg h
theorem Cl (t:Tr):(bT t).length≤200:=by
 unfold bT;split
 ·simp
 omega
theorem uZ {t:Tr}:bT t=[]↔200<(bS t).length:=by
 constructor
 ·intro h
  refine Classical.byContradiction (fun hn=>?_)
  rw [zw hn] at h
  have:=jf t
  rw [h] at this;exact absurd this (by simp)
 exact jI
theorem qh {n:NV} {gs:List (List NV)} (h:∃g∈gs,aV g≠0):aQ n gs=[]:=if_pos h
theorem nm (n:NV) (gs:List (List NV)):(aQ n gs).length≤200:=by
 unfold aQ
 repeat' split
 ·simp
 ·simp
 ·simp
 omega
theorem ji {op i e g:Int} {a:Tr} (ha:a.ok) (hop:1≤op∧op≤21) (hX:cF op=true) (hY:cm op=false) (hf:eX op i e g=0):aQ ⟨op,i,e,g,0,0⟩ [bT a]=bT (.un op i e g a):=by
 by_cases hl:200<(bS a).length
 ·rw [jI hl,qh ⟨[],by simp,by decide⟩,jI (Nat.lt_of_lt_of_le hl (jg (by simp [kids])))]
 obtain ⟨h1,h2,h3⟩:=oe ha (by omega)
 rw [h1,D0 h2 hop hX hY hf rfl,h3]
theorem dx {op i e g:Int} {a b:Tr} (ha:a.ok) (hb:b.ok) (hop:1≤op∧op≤21) (hY:cm op=true) (hf:eX op i e g=0):aQ ⟨op,i,e,g,0,0⟩ [bT a,bT b]=bT (.bin op i e g a b):=by
 by_cases hl:200<(bS a).length
 ·rw [jI hl,qh ⟨[],by simp,by decide⟩,jI (Nat.lt_of_lt_of_le hl (jg (by simp [kids])))]
 by_cases hl2:200<(bS b).length
 ·rw [jI hl2,qh ⟨[],by simp,by decide⟩,jI (Nat.lt_of_lt_of_le hl2 (jg (by simp [kids])))]
 obtain ⟨h1,h2,h3⟩:=oe ha (by omega)
 obtain ⟨k1,k2,k3⟩:=oe hb (by omega)
 rw [h1,k1,BI h2 k2 hop hY hf,h3,k3]
theorem zi {t:Tr} (h:t.ok):aj (bT t)=bT t:=by
 by_cases hl:200<(bS t).length
 ·rw [jI hl];exact if_pos (by decide)
 obtain ⟨h1,h2,h3⟩:=oe h (by omega)
 rw [h1,dt h2,h3]
def mo (a b:List NV):List NV:=aQ ⟨5,0,0,0,0,0⟩ [a,b]
def jP:List (List NV)→List NV
 |[]=>aQ ⟨1,0,0,0,0,0⟩ []
 |g::gs=>gs.foldl mo (aj g)
def kG:List Tr→Tr
 |[]=>.leaf 1 0 0 0
 |t::ts=>ts.foldl (fun a b=>.bin 5 0 0 0 a b) t
theorem jm {a b:Tr} (ha:a.ok) (hb:b.ok):(Tr.bin 5 0 0 0 a b).ok:=⟨by omega,rfl,rfl,ha,hb⟩
theorem tG:∀{ts:List Tr} {t:Tr},t.ok→(∀u∈ts,u.ok)→(ts.map bT).foldl mo (bT t)=bT (ts.foldl (fun a b=>.bin 5 0 0 0 a b) t)
 |[],_,_,_=>rfl
 |u::us,t,h,hs=>by
  rw [List.map_cons,List.foldl_cons,List.foldl_cons,mo,dx h (hs u (by simp)) (by omega) rfl rfl]
  exact tG (jm h (hs u (by simp))) (fun v hv=>hs v (by simp [hv]))
theorem rm:∀{ts:List Tr},(∀u∈ts,u.ok)→jP (ts.map bT)=bT (kG ts)
 |[],_=>D1 (n:=⟨1,0,0,0,0,0⟩) (by decide) rfl rfl rfl rfl
 |t::ts,h=>by
  rw [List.map_cons,jP,zi (h t (by simp))]
  exact tG (h t (by simp)) (fun u hu=>h u (by simp [hu]))
def Cq (a:Option Addr) (cap lo sz:Nat):Option Addr:=if cap=lo then a else a.map (·.add (lo*sz))
theorem Sl.drop {w:World} {a:Option Addr} {xs:List Value} (h:Sl w a xs) {cap lo:Nat} (hc:xs.length≤cap):Sl w (Cq a cap lo 1) (xs.drop lo):=by
 by_cases hl:xs.length≤lo
 ·rw [List.drop_eq_nil_of_le hl];exact Sl.nil _ _
 obtain ⟨b,o,rfl,hb⟩:=h.isSome (by omega)
 have e0:Cq (some ⟨b,o,none⟩) cap lo 1=some ⟨b,o+lo,none⟩:=by
  rw [Cq,if_neg (by omega),Option.map_some,Addr.add,Nat.mul_one]
  split
  ·rename_i hz;subst hz;rfl
  rfl
 rw [e0]
 refine ⟨fun _=>⟨b,o+lo,rfl,hb⟩,fun i hi=>?_⟩
 rw [List.length_drop] at hi
 have:=h.cell (lo+i) (by omega)
 have e1:nr (some ⟨b,o+lo,none⟩) i=nr (some ⟨b,o,none⟩) (lo+i):=by
  simp only [nr,Option.getD_some,Nat.add_assoc]
 rw [e1,this]
 simp [List.getD_eq_getElem?_getD,List.getElem?_drop]
section
variable {P:Program} {w0:World} {S:List Nat} {n:Nat} {l:Fl} {h:Hl} {ops:Array Oper} {i d:Nat} {ty:TypeId} {pos:String} {aft:Array Edge} {g:Option (Nat×Bool)}
theorem ae.CP {t e:TypeId} {x y:Operand} {a:Option Addr} {m cap lo:Nat} {kd:IntKind} {j:Int} {sz:Nat} (ho:ops[i]?=some ⟨some d,.slice t x (some y) none none,ty,pos,aft,g⟩) (hw:au ops l g=true)
  (hx:aU l x=some (.slice a m cap)) (hy:aU l y=some (.int kd j)) (hd:Nat.blt d n=true) (hu:P.underlying t=some (.slice e)) (he:∀w,(sizeOf e).run P w=.ok sz w) (hj:j=lo) (hc:lo≤m):
  ae P w0 S n h ops i l d (.slice (Cq a cap lo sz) (m - lo) (cap - lo)):=
 .of ho hw rfl rfl hd (fun t w Ds _ hF hS=>⟨.value (.slice (Cq a cap lo sz) (m - lo) (cap - lo)),by
  subst hj
  simp only [execOp,hF.aU hx,hF.aU hy,Option.map_some,Option.map_none,Instr.sliceAt,Sem.run_bind,run_underlying hu,Result.andThen_ok,Instr.slice,Instr.sliceBounds,Instr.sliceBound,asIntOf,Sem.run_pure]
  rw [if_pos ⟨by omega,by omega⟩]
  simp only [Sem.run_pure,Result.andThen_ok,he,Int.toNat_natCast]
  rfl,rfl⟩)
end
end Go.Proofs.Wit
