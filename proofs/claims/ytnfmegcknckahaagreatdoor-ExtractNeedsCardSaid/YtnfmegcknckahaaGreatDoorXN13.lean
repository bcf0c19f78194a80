/- Laws of walks, for any program, under the conditions that each theorem states. -/
import Derived.Test.YtnfmegcknckahaaGreatDoorXN11
import Derived.Test.YtnfmegcknckahaaGreatDoorXN02
import Derived.Test.YtnfmegcknckahaaGreatDoorXN05
namespace Go.Proofs.Wit
open Go Go.RowKit
/-! the fragments of a formula; defects and their axioms -/
theorem He {P:Program} {t:TypeId} {a b c:Nat} (ha:a<512) (hb:b<512) (hc:c=a|||b):kF P .or t (.int .i64 a) (.int .i64 b) (.int .i64 c):=by
 subst hc
 refine bI _ ?_
 have hx:a|||b<2^9:=Nat.or_lt_two_pow (by omega) (by omega)
 have h1:(BitVec.ofInt 64 (a:Int)).toNat=a:=by
  rw [BitVec.ofInt_natCast,BitVec.toNat_ofNat];exact Nat.mod_eq_of_lt (by omega)
 have h2:(BitVec.ofInt 64 (b:Int)).toNat=b:=by
  rw [BitVec.ofInt_natCast,BitVec.toNat_ofNat];exact Nat.mod_eq_of_lt (by omega)
 rw [binOp_or]
 show (pure (Value.int .i64 (IntKind.i64.wrap ((BitVec.ofInt 64 (a:Int)|||BitVec.ofInt 64 (b:Int)).toNat:Int))):Sem Value)=_
 rw [BitVec.toNat_or,h1,h2,IntWalk.i64_in _ (by omega)]
def z6 (n:NV):Nat:=(xq n.op).toNat
theorem r8 (op:Int):0≤xq op∧xq op<512:=by
 unfold xq
 repeat' split
 all_goals omega
theorem yY (n:NV):(z6 n:Int)=xq n.op:=by
 have:=r8 n.op
 unfold z6;omega
def kN (c:List NV):Nat:=c.foldl (fun a n=>a|||z6 n) 0
theorem rp {c:List NV} {n:NV}:kN (c++[n])=kN c|||z6 n:=by simp [kN]
theorem r0 (c:List NV):kN c<512:=by
 induction c using gq with
 |h0=>decide
 |h1 c n ih=>
  rw [rp]
  have h2:z6 n<2^9:=by have:=r8 n.op;unfold z6;omega
  exact Nat.or_lt_two_pow (n:=9) ih h2
theorem qd (f:List NV):(aj f).length≤200:=by
 by_cases h:aV f=0
 ·exact (iy h).len
 rw [aj,if_pos h];exact Nat.zero_le _
end Go.Proofs.Wit
namespace Go.Proofs.Wit
open Go Go.RowKit
/-! strings; numbers in hexadecimal -/
def G5:List UInt8:=[48,49,50,51,52,53,54,55,56,57,97,98,99,100,101,102,103,104,105,106,107,108,109,110,111,112,113,114,115,116,117,118,119,120,121,122]
def HU (i:Nat):UInt8:=G5.getD i 0
def DP (n:Nat):List UInt8:=if n<16 then [HU n] else DP (n / 16)++[HU (n%16)]
termination_by n
section
variable {P:Program} {r:Option Nat} {f:FuncId} {R:Value→World→Prop} {w0:World} {S:List Nat} {Y:List (Nat×Obj)} {n:Nat} {k:List Item} {l:Fl} {h:Hl}
variable {ops:Array Oper} {i d:Nat} {rest:List Nat} {ty:TypeId} {pos:String} {aft:Array Edge} {g:Option (Nat×Bool)} {t:TypeId}
end
structure IM (ks:Nat→List UInt8) (n:Nat) (L:List (List UInt8×Nat)) (l:List Int) (k:Nat):Prop where
  len:l.length=n
  le:k≤n
  lt:∀x v,cF (fun a b=>a==b) L x=some v→v<L.length
  inj:∀x y v,cF (fun a b=>a==b) L x=some v→cF (fun a b=>a==b) L y=some v→x=y
  at_:∀i,i<k→∃v:Nat,l.getD i 0=v∧cF (fun a b=>a==b) L (ks i)=some v
end Go.Proofs.Wit
namespace Go.Proofs.Wit
open Go Go.RowKit
/-! small whole numbers: or, shifts -/
section
variable {P:Program} {t:TypeId}
theorem wH (x:Nat):BitVec.ofInt 64 (x:Int)=BitVec.ofNat 64 x:=by
 apply BitVec.eq_of_toNat_eq;simp
theorem F9 {x j:Nat} {b:Int} {k:IntKind} (h:b=j) (hx:x*2^j<9223372036854775808) (hj:j≤64):kF P .shl t (.int .i64 x) (.int k b) (.int .i64 ((x*2^j:Nat):Int)):=by
 subst h
 refine ki (fun p q=>se _ _ _ _ _ _ _ _) ?_
 show Op.shift .shl .i64 (x:Int) k (j:Int)=_
 unfold Op.shift
 rw [if_neg (by omega),Int.toNat_natCast]
 show pure (Value.int .i64 (IntKind.i64.wrap ((x:Int)*2^(min j 64))))=_
 rw [Nat.min_eq_left hj]
 have e1:((x:Int)*2^j)=((x*2^j:Nat):Int):=by norm_cast
 rw [e1,IntWalk.i64_in _ (by omega)]
end
end Go.Proofs.Wit
namespace Go.Proofs.Wit
/-! bisimulations between two models -/
def GY (r s z:List ay) (v w:Nat):Bool:=(dV (r.getD v 0#64)).all (fun x=>z.getD x 0#64 &&& s.getD w 0#64 !=0#64) && (s.getD w 0#64 &&& ~~~ uC z (r.getD v 0#64)==0#64)
def A8 (va vb:List ay) (ra rb:List (List ay)) (z:List ay) (v w:Nat):Bool:=(fm va v==fm vb w) && (List.range ra.length).all (fun i=>GY (ra.getD i []) (rb.getD i []) z v w)
def IP (l c:List ay):Prop:=∀u v,Rl l u v→Rl c u v
section
variable {va vb:List ay} {ra rb:List (List ay)}
def Ht (va vb:List ay) (ra rb:List (List ay)) (z:List ay):Prop:=∀v w,Rl z v w→A8 va vb ra rb z v w=true
structure HC (va vb:List ay) (ra rb:List (List ay)) (na nb:Nat) (z:List ay):Prop where
  len:z.length=na
  I0:∀v w,Rl z v w→w<nb
  top:∀z':List ay,z'.length=na→(∀v w,Rl z' v w→w<nb)→Ht va vb ra rb z'→IP z' z
theorem AW {w i:Nat} (hw:w<64):(1#64<<<w).getLsbD i=decide (i=w):=by
 rw [BitVec.getLsbD_shiftLeft]
 by_cases e:i=w
 ·subst e;simp [hw]
 rw [decide_eq_false e]
 by_cases h1:i<64
 ·by_cases h2:i<w
  ·simp [h1,h2]
  ·have h3:i - w≠0:=by omega
   simp [h1,h2,h3]
 simp [h1]
end
def Au (z:List ay):Nat:=(z.map BitVec.toNat).sum
structure Cy (va vb:List ay) (ra rb:List (List ay)) (na nb:Nat) (z0 z:List ay) (ch:Bool) (k:Nat):Prop where
  inv:HC va vb ra rb na nb z
  le:Au z≤Au z0
  I5:ch=true→Au z<Au z0
  same:ch=false→∀v w,v<k→Rl z v w→A8 va vb ra rb z v w=true
structure IE (va vb:List ay) (ra rb:List (List ay)) (na nb:Nat) (z0:List ay) (k:Nat) (s:ay) (i:Nat) (z:List ay) (ch:Bool):Prop where
  pf:Cy va vb ra rb na nb z0 z ch k
  row:∀w,Rl z k w→s.getLsbD w=true
  left:∀w∈(dV s).drop i,Rl z k w
  done:ch=false→∀w∈(dV s).take i,A8 va vb ra rb z k w=true
section
variable {va vb:List ay} {ra rb:List (List ay)} {na nb k i:Nat} {z0 z:List ay} {s:ay} {ch:Bool}
end
end Go.Proofs.Wit
namespace Go.Proofs.Wit
open Go Go.RowKit
/-! for the reference of chapter 19 -/
section
variable {P:Program} {t:TypeId}
end
section
variable {κ:Type} [DecidableEq κ]
structure Down (key:Nat→κ) (i:Nat) (j:Int) (low:Nat):Prop where
  lo:j<low
  hi:low≤i
  eq:key low=key i
  min:∀m:Nat,j<m→m≤i→key m=key i→low≤m
omit [DecidableEq κ] in
end
structure IF (va vb:List ay) (ra rb:List (List ay)) (na nb:Nat) (z0:List ay) (k j:Nat) (z:List ay) (ch:Bool):Prop where
  pf:Cy va vb ra rb na nb z0 z ch k
  done:ch=false→∀w,w<j→Rl z k w→A8 va vb ra rb z k w=true
section
variable {va vb:List ay} {ra rb:List (List ay)} {na nb k j:Nat} {z0 z:List ay} {ch:Bool}
end
end Go.Proofs.Wit
namespace Go.Proofs.Wit
open Go Go.RowKit
/-! groups: the meet of the relations of a group -/
section
variable {P:Program} {t:TypeId}
theorem Cu {x j:Nat} {b:Int} {k:IntKind} (h:b=j) (_hx:x<9223372036854775808) (hj:j≤64):kF P .shr t (.int .i64 x) (.int k b) (.int .i64 ((x / 2^j:Nat):Int)):=by
 subst h
 refine ki (fun p q=>se _ _ _ _ _ _ _ _) ?_
 show Op.shift .shr .i64 (x:Int) k (j:Int)=_
 unfold Op.shift
 rw [if_neg (by omega),Int.toNat_natCast]
 show pure (Value.int .i64 ((x:Int).fdiv (2^(min j 64))))=_
 rw [Nat.min_eq_left hj]
 have e1:((2:Int)^j)=((2^j:Nat):Int):=by norm_cast
 rw [e1,←Int.ofNat_fdiv]
theorem zI {x:Nat} (hx:x<9223372036854775808):kF P .and t (.int .i64 x) (.int .i64 1) (.int .i64 ((x%2:Nat):Int)):=bI _ (by
 show Op.intBits .and .i64 (x:Int) 1=_
 unfold Op.intBits
 have e1:(BitVec.ofInt 64 (x:Int) &&& BitVec.ofInt 64 1).toNat=x%2:=by
  rw [wH,show BitVec.ofInt 64 1=BitVec.ofNat 64 1 from rfl,BitVec.toNat_and,BitVec.toNat_ofNat,BitVec.toNat_ofNat,Nat.mod_eq_of_lt (by omega),Nat.mod_eq_of_lt (by omega),Nat.and_one_is_mod]
 show pure (Value.int .i64 (IntKind.i64.wrap ((BitVec.ofInt 64 (x:Int) &&& BitVec.ofInt 64 1).toNat:Int)))=_
 rw [e1,IntWalk.i64_in _ (by omega)])
end
def gb (g k:Nat):Nat:=g / 2^k%2
def Ft (n:Nat) (rel:List (List ay)) (g w:Nat) (k:Nat):ay:=ue (fun a (o:ay)=>if gb g a=1 then o &&& (rel.getD a []).getD w 0#64 else o) (zK n) k
def Dr (n:Nat) (rel:List (List ay)) (g k:Nat):List ay:=(List.range n).map (fun w=>Ft n rel g w k)
def Fu (n:Nat) (rel:List (List ay)) (g:Nat):List ay:=Dr n rel g rel.length
section
variable {n:Nat} {rel:List (List ay)} {g k w:Nat}
end
section
variable {P:Program} {r:Option Nat} {f:FuncId} {R:Value→World→Prop} {w0:World} {S:List Nat} {Y:List (Nat×Obj)} {n:Nat} {k:List Item} {l:Fl} {h:Hl}
variable {ops:Array Oper} {i d:Nat} {rest:List Nat} {ty:TypeId} {pos:String} {aft:Array Edge} {g:Option (Nat×Bool)}
end
end Go.Proofs.Wit
namespace Go.Proofs.Wit
open Go
/-! the truth of formulas: sets of worlds -/
theorem vx {w i:Nat} (hw:w<64):(1#64<<<w).getLsbD i=true↔i=w:=by rw [AW hw];simp
def E1 (q:Nat→Bool) (n:Nat):ay:=ue (fun w (o:ay)=>if q w=true then o|||1#64<<<w else o) 0#64 n
def BM (r:List ay) (n:Nat) (s:ay):ay:=E1 (fun w=>r.getD w 0#64 &&& ~~~s==0#64) n
def E7 (r:List ay) (c:ay) (n:Nat) (s:ay):ay:=ue (fun w (o:ay)=>if o.getLsbD w=true then o|||(r.getD w 0#64 &&& c) else o) s n
def C7 (r:List ay) (n v:Nat) (c:ay) (k:Nat):ay:=ue (fun _ (o:ay)=>E7 r c n o) (r.getD v 0#64 &&& c) k
def Fb (r:List ay) (n v:Nat) (c:ay):ay:=C7 r n v c n
def G7 (r:List ay) (n:Nat) (c s:ay):ay:=E1 (fun w=>Fb r n w c &&& ~~~s==0#64) n
inductive En (r:List ay) (c:ay) (v:Nat):Nat→Prop where
  |one {u:Nat} (h:Rl r v u) (hc:c.getLsbD u=true):En r c v u
  |step {u x:Nat} (h:En r c v u) (h2:Rl r u x) (hc:c.getLsbD x=true):En r c v x
def Fy (rel:List (List ay)) (g w:Nat) (k:Nat):ay:=ue (fun a (o:ay)=>if gb g a=1 then o|||(rel.getD a []).getD w 0#64 else o) 0#64 k
def DD (n:Nat) (rel:List (List ay)) (g k:Nat):List ay:=(List.range n).map (fun w=>Fy rel g w k)
def Ck (n:Nat) (rel:List (List ay)) (g:Nat):List ay:=DD n rel g rel.length
def FY (op:Int) (x y all:ay):ay:=if op=1 then all else if op=4 then all &&& ~~~x else if op=5 then x &&& y else if op=6 then x|||y else if op=7 then (all &&& ~~~x)|||y else if op=8 then all &&& ~~~(x^^^y) else 0#64
def Da (n:Nat) (val:List ay) (rel:List (List ay)) (op i g:Int) (x y:ay):ay:=
 if op=3 then val.getD i.toNat 0#64 else if op≤8 then FY op x y (zK n)
 else if op=9 then BM (rel.getD i.toNat []) n x else if op=10 then zK n &&& ~~~BM (rel.getD i.toNat []) n (zK n &&& ~~~x)
 else if op=11 then BM (Ck n rel g.toNat) n x else if op=12 then BM (Fu n rel g.toNat) n x else G7 (Ck n rel g.toNat) n x y
def xX (n:Nat) (val:List ay) (rel:List (List ay)):Tr→ay
 |.leaf op i _ g=>Da n val rel op i g 0#64 0#64
 |.un op i _ g a=>Da n val rel op i g (xX n val rel a) 0#64
 |.bin op i _ g a b=>Da n val rel op i g (xX n val rel a) (xX n val rel b)
end Go.Proofs.Wit
namespace Go.Proofs.Wit
open Go
/-! worlds that are together agree -/
abbrev Hy (p:List Int) (v w:Nat):Prop:=p.getD v 0=p.getD w 0
structure I8 (n:Nat) (p' p:List Int) (R:List ay):Prop where
  fb:∀v w,v<n→w<n→Hy p' v w→∀u,Rl R v u→∃u',Rl R w u'∧Hy p u u'
def IQ (n:Nat) (p:List Int) (s:ay):Prop:=∀v w,v<n→w<n→Hy p v w→s.getLsbD v=true→s.getLsbD w=true
section
variable {n:Nat} {p p':List Int} {s t c:ay} {R:List ay}
end
section
variable {n:Nat} {val:List ay} {oF:List (List ay)}
end
def jS (q:Int→Int→Int→Prop):Tr→Prop
 |.leaf op i _ g=>q op i g
 |.un op i _ g a=>q op i g∧jS q a
 |.bin op i _ g a b=>q op i g∧jS q a∧jS q b
def GS (op:Int):Nat:=if 9≤op∧op≤15∨18≤op then 1 else 0
def Bz:Tr→Nat
 |.leaf op _ _ _=>GS op
 |.un op _ _ _ a=>Bz a+GS op
 |.bin op _ _ _ a b=>max (Bz a) (Bz b)+GS op
end Go.Proofs.Wit
namespace Go.Proofs.Wit
open Go
/-! labels, masks, and which formulas fit a model -/
def EE (q:Int→Int→Int→Prop):Tr→Prop
 |.leaf op i _ g=>q op i g
 |.un op i _ g _=>q op i g
 |.bin op i _ g _ _=>q op i g
theorem jS.EE {q:Int→Int→Int→Prop}:∀{t:Tr},jS q t→Wit.EE q t
 |.leaf ..,h=>h
 |.un ..,h=>h.1
 |.bin ..,h=>h.1
theorem jS.tD {q:Int→Int→Int→Prop}:∀{t c:Tr},jS q t→c∈kids t→jS q c
 |.leaf ..,_,_,hc=>by cases hc
 |.un ..,_,h,hc=>by rw [List.mem_singleton.1 hc];exact h.2
 |.bin ..,_,h,hc=>by
  simp only [kids,List.mem_cons,List.not_mem_nil,or_false] at hc
  rcases hc with rfl|rfl
  ·exact h.2.1
  exact h.2.2
theorem l9.jS {q:Int→Int→Int→Prop} {ts:List Tr} (hc:l9 ts) (h:∀u∈ts,Wit.EE q u):∀t:Tr,t∈ts→Wit.jS q t
 |.leaf ..,ht=>h _ ht
 |.un _ _ _ _ a,ht=>⟨h _ ht,hc.jS h a (hc.mem ht a (by simp [kids]))⟩
 |.bin _ _ _ _ a b,ht=>⟨h _ ht,hc.jS h a (hc.mem ht a (by simp [kids])),hc.jS h b (hc.mem ht b (by simp [kids]))⟩
theorem tv (t:Tr):t∈gl t:=(hJ t).mem
theorem xi {q:Int→Int→Int→Prop} {t:Tr}:jS q t↔∀u∈gl t,EE q u:=
 ⟨fun h u hu=>(qQ (fun _ ht _ hc=>ht.tD hc) t h (fun u hu=>by cases hu) u hu).EE,fun h=>(hJ t).oM.jS h t (tv t)⟩
theorem pR {q:Int→Int→Int→Prop} {ts:List Tr}:∀{u:Tr},EE q u↔q (br ts u).op (br ts u).i (br ts u).g
 |.leaf ..=>Iff.rfl
 |.un ..=>Iff.rfl
 |.bin ..=>Iff.rfl
theorem zL {q:Int→Int→Int→Prop} {t:Tr}:jS q t↔∀n∈bX t,q n.op n.i n.g:=by
 rw [xi]
 show _↔∀n∈aQ (gl t),_
 unfold aQ
 constructor
 ·intro h n hn
  obtain ⟨u,hu,rfl⟩:=List.mem_map.1 hn
  exact pR.1 (h u hu)
 intro h u hu
 exact pR.2 (h _ (List.mem_map_of_mem hu))
def Cb (h:NV→Nat) (c:List NV):Nat:=c.foldl (fun a n=>a|||h n) 0
theorem ym {h:NV→Nat} {c:List NV} {n:NV}:Cb h (c++[n])=Cb h c|||h n:=by simp [Cb]
theorem vw {h:NV→Nat} {j:Nat} {c:List NV}:(Cb h c).testBit j=true↔∃n∈c,(h n).testBit j=true:=by
 induction c using gq with
 |h0=>simp [Cb]
 |h1 c n ih=>
  rw [ym,Nat.testBit_or,Bool.or_eq_true,ih]
  simp only [List.mem_append,List.mem_singleton]
  constructor
  ·rintro (⟨m,h1,h2⟩|h1)
   ·exact ⟨m,.inl h1,h2⟩
   ·exact ⟨n,.inr rfl,h1⟩
  rintro ⟨m,h1|rfl,h2⟩
  ·exact .inl ⟨m,h1,h2⟩
  exact .inr h2
def Iq (n:NV):Nat:=if n.op=3 then 2^n.i.toNat else 0
def Iy (n:NV):Nat:=(if o8 n.op=true then 2^n.i.toNat else 0)|||n.g.toNat
structure Gl (op i e g:Int):Prop where
  i0:iO op=false→i=0
  e0:op≠17→e=0
  g0:lS op=false→g=0
  fact:op=3→0≤i∧i<8
  ag:o8 op=true→0≤i∧i<4
  act:op=17→(0≤i∧i<8)∧0≤e∧e<8
  gr:lS op=true→1≤g∧g<16
theorem gx {op i e g:Int} (h:eY op i e g=0):Gl op i e g:=by
 unfold eY at h
 split at h
 ·cases h
 rename_i h1
 split at h
 ·cases h
 rename_i h2
 simp only [Bool.or_eq_true,Bool.and_eq_true,Bool.not_eq_true',bne_iff_ne,ne_eq,beq_iff_eq,not_or,not_and,Bool.and_eq_false_iff,decide_eq_false_iff_not,Classical.not_not] at h1 h2
 obtain ⟨⟨a1,a2⟩,a3⟩:=h1
 obtain ⟨⟨⟨b1,b2⟩,b3⟩,b4⟩:=h2
 refine ⟨a1,a2,a3,fun e=>?_,fun e=>?_,fun e=>?_,fun e=>?_⟩
 ·have:=b1 e;omega
 ·have:=b2 e;omega
 ·have:=b3 e;omega
 have:=b4 e;omega
def HO (m k A:Nat):Bool:=(List.range k).all (fun i=>gb m i !=1||decide (i<A))
def FL (f:List NV) (A B:Nat):Bool:=aV f==0 && (HO (Cb Iy (aj f)) 4 A && HO (Cb Iq (aj f)) 8 B)
def HD (A B:Nat) (op i g:Int):Prop:=(o8 op=true→i.toNat<A)∧(op=3→i.toNat<B)∧g.toNat<2^A
theorem aZ.Ib {f:List NV} (h:aZ f):∀n∈f,1≤n.op∧n.op≤21:=fun n hn=>by
 obtain ⟨i,hi,rfl⟩:=List.mem_iff_getElem.1 hn
 exact (h i hi).op
/-! fragments -/
def kl (a b:Nat):Nat:=a &&& (511^^^b)
theorem oe {a b:Nat} (ha:a<512):kl a b=0↔∀i,a.testBit i=true→b.testBit i=true:=by
 have h511:∀i,(511:Nat).testBit i=decide (i<9):=fun i=>by
  rw [show (511:Nat)=2^9 - 1 from rfl,Nat.testBit_two_pow_sub_one]
 constructor
 ·intro h i hi
  have h9:i<9:=by
   refine Classical.byContradiction (fun hc=>?_)
   rw [Nat.testBit_lt_two_pow (Nat.lt_of_lt_of_le ha (by show 2^9≤2^i;exact Nat.pow_le_pow_right (by decide) (by omega)))] at hi
   cases hi
  have:=congrArg (fun x=>x.testBit i) h
  simp only [kl,Nat.testBit_and,Nat.testBit_xor,hi,h511,h9,decide_true,Nat.zero_testBit,Bool.true_and,Bool.true_bne] at this
  simpa using this
 intro h
 refine Nat.eq_of_testBit_eq (fun i=>?_)
 rw [kl,Nat.testBit_and,Nat.testBit_xor,h511,Nat.zero_testBit]
 cases e:a.testBit i with
 |false=>rfl
 |true=>
  rw [h i e]
  have h9:i<9:=by
   refine Classical.byContradiction (fun hc=>?_)
   rw [Nat.testBit_lt_two_pow (Nat.lt_of_lt_of_le ha (by show 2^9≤2^i;exact Nat.pow_le_pow_right (by decide) (by omega)))] at e
   cases e
  simp [h9]
theorem yX (n:NV):z6 n<512:=by
 have:=r8 n.op
 have:=yY n
 omega
theorem yV {c:List NV} {b:Nat}:kl (kN c) b=0↔∀n∈c,kl (z6 n) b=0:=by
 rw [oe (r0 c)]
 constructor
 ·intro h n hn
  rw [oe (yX n)]
  exact fun i hi=>h i (vw.2 ⟨n,hn,hi⟩)
 intro h i hi
 obtain ⟨n,hn,hb⟩:=vw.1 (show (Cb z6 c).testBit i=true from hi)
 exact (oe (yX n)).1 (h n hn) i hb
theorem yo {p:Int→Prop} (h:∀k:Nat,k<21→p ((k:Int)+1)) {op:Int} (ho:1≤op∧op≤21):p op:=by
 have:=h (op.toNat - 1) (by omega)
 rw [show (((op.toNat - 1:Nat):Int)+1)=op by omega] at this
 exact this
theorem Bo {t:Tr} {b:Nat} {r:Int→Prop} (ht:t.ok) (hr:∀{op:Int},(1≤op∧op≤21)→(kl (xq op).toNat b=0↔r op)):kl (kN (bX t)) b=0↔jS (fun op _ _=>r op) t:=by
 rw [yV,zL]
 have ho:=(mq ht).Ib
 exact ⟨fun h n hn=>(hr (ho n hn)).1 (h n hn),fun h n hn=>(hr (ho n hn)).2 (h n hn)⟩
theorem zH {P:Program} {t:TypeId} {a b:Nat} (ha:a<512) (hb:b<512):kF P .andNot t (.int .i64 a) (.int .i64 b) (.int .i64 (kl a b)):=by
 refine bI _ ?_
 have h1:(BitVec.ofInt 64 (a:Int)).toNat=a:=by
  rw [BitVec.ofInt_natCast,BitVec.toNat_ofNat];exact Nat.mod_eq_of_lt (by omega)
 have h2:BitVec.ofInt 64 (b:Int)=BitVec.ofNat 64 b:=BitVec.ofInt_natCast ..
 have h0:BitVec.ofInt 64 (a:Int)=BitVec.ofNat 64 a:=BitVec.ofInt_natCast ..
 have hx:kl a b<2^9:=Nat.and_lt_two_pow _ (by show 511^^^b<2^9;exact Nat.xor_lt_two_pow (by decide) (by omega))
 have key:(BitVec.ofInt 64 (a:Int) &&& ~~~ BitVec.ofInt 64 (b:Int))=BitVec.ofNat 64 (kl a b):=by
  rw [h0,h2]
  apply BitVec.eq_of_getLsbD_eq
  intro i hi
  rw [BitVec.getLsbD_and,BitVec.getLsbD_not,BitVec.getLsbD_ofNat,BitVec.getLsbD_ofNat,BitVec.getLsbD_ofNat,kl,Nat.testBit_and,Nat.testBit_xor,show (511:Nat)=2^9 - 1 from rfl,Nat.testBit_two_pow_sub_one]
  have e9:¬i<9→a.testBit i=false:=fun hc=>Nat.testBit_lt_two_pow (Nat.lt_of_lt_of_le ha (by show 2^9≤2^i;exact Nat.pow_le_pow_right (by decide) (by omega)))
  by_cases h9:i<9
  ·simp [hi,h9]
  simp [hi,e9 h9]
 show (binOp .andNot t (.int .i64 a) (.int .i64 b))=_
 show (pure (Value.int .i64 (IntKind.i64.wrap ((BitVec.ofInt 64 (a:Int) &&& ~~~ BitVec.ofInt 64 (b:Int)).toNat:Int))):Sem Value)=_
 rw [key,BitVec.toNat_ofNat,Nat.mod_eq_of_lt (by omega),IntWalk.i64_in _ (by omega)]
/-! what Holds says of a model and a formula -/
def FE (n:Int) (val:List ay) (rel:List (List ay)) (f:List NV):Int:=
 if zu n val rel≠0 then zu n val rel else if aV f≠0 then aV f else if kl (kN (aj f)) 15≠0 then 10 else if FL f rel.length val.length=false then 2 else 0
def Gf (A B:Nat) (op i g:Int):Prop:=op≤13∧HD A B op i g
end Go.Proofs.Wit
namespace Go.Proofs.Wit
/-! a canonical list's sets -/
structure H4 (A B:Nat) (nd:NV):Prop where
  I1:1≤nd.op
  Ic:nd.op≤13
  fact:nd.op=3→0≤nd.i∧nd.i.toNat<B
  ag:nd.op=9∨nd.op=10→0≤nd.i∧nd.i.toNat<A
  gr:11≤nd.op→1≤nd.g∧nd.g.toNat<2^A
structure iB (g:List NV):Prop where
  jF:aV g=0
  can:g=bX (bh g)
theorem iB.ok {g:List NV} (h:iB g):(bh g).ok:=(aD.1 h.jF).top
theorem iB.of {t:Tr} (h:t.ok) (hl:(bX t).length≤200):iB (bX t):=⟨(oc h hl).2.1,by rw [(oc h hl).2.2]⟩
theorem iB.aj {f:List NV} (h:aV f=0):iB (aj f):=by
 have hl:=nU h
 have hl2:=(aD.1 h).len
 rw [dt h] at hl⊢
 exact .of (aD.1 h).top (by omega)
theorem qS {f:List NV} (h:aV f=0):bh (aj f)=bh f:=by
 rw [dt h];exact iX (aD.1 h).top.wf
theorem iB.len {g:List NV} (h:iB g):g.length≤200:=(aD.1 h.jF).len
theorem iB.nodes {g:List NV} (h:iB g):aZ g:=(aD.1 h.jF).nodes
theorem iB.trees {g:List NV} (h:iB g):Wit.trees g=gl (bh g):=by
 have:=h.can
 rw [this]
 conv=>rhs;rw [←this]
 exact me h.ok.wf
end Go.Proofs.Wit
namespace Go.Proofs.Wit
open Go Go.RowKit
/-! formulas that are built of others: too long ones are no list -/
theorem xM {c t:Tr} (h:c∈kids t):gl c⊆gl t:=
 iV c (ts:=[]) (hJ t).oM ((hJ t).oM.mem (tv t) c h) (List.nil_subset _)
theorem jk {c t:Tr} (h:c∈kids t):(bX c).length≤(bX t).length:=by
 rw [fR,fR]
 exact (hJ c).nd.length_le_of_subset (xM h)
theorem jH {t:Tr} (h:200<(bX t).length):bT t=[]:=if_pos h
theorem zE {t:Tr} (h:¬200<(bX t).length):bT t=bX t:=if_neg h
theorem Ct (t:Tr):(bT t).length≤200:=by
 unfold bT;split
 ·simp
 omega
theorem u3 {t:Tr}:bT t=[]↔200<(bX t).length:=by
 constructor
 ·intro h
  refine Classical.byContradiction (fun hn=>?_)
  rw [zE hn] at h
  have:=ji t
  rw [h] at this;exact absurd this (by simp)
 exact jH
theorem qv {n:NV} {gs:List (List NV)} (h:∃g∈gs,aV g≠0):aR n gs=[]:=if_pos h
theorem BN (n:NV) (gs:List (List NV)):(aR n gs).length≤200:=by
 unfold aR
 repeat' split
 ·simp
 ·simp
 ·simp
 omega
theorem jQ {op i e g:Int} {a:Tr} (ha:a.ok) (hop:1≤op∧op≤21) (hX:cD op=true) (hY:cn op=false) (hf:eY op i e g=0):aR ⟨op,i,e,g,0,0⟩ [bT a]=bT (.un op i e g a):=by
 by_cases hl:200<(bX a).length
 ·rw [jH hl,qv ⟨[],by simp,by decide⟩,jH (Nat.lt_of_lt_of_le hl (jk (by simp [kids])))]
 obtain ⟨h1,h2,h3⟩:=oc ha (by omega)
 rw [h1,F0 h2 hop hX hY hf rfl,h3]
theorem dy {op i e g:Int} {a b:Tr} (ha:a.ok) (hb:b.ok) (hop:1≤op∧op≤21) (hY:cn op=true) (hf:eY op i e g=0):aR ⟨op,i,e,g,0,0⟩ [bT a,bT b]=bT (.bin op i e g a b):=by
 by_cases hl:200<(bX a).length
 ·rw [jH hl,qv ⟨[],by simp,by decide⟩,jH (Nat.lt_of_lt_of_le hl (jk (by simp [kids])))]
 by_cases hl2:200<(bX b).length
 ·rw [jH hl2,qv ⟨[],by simp,by decide⟩,jH (Nat.lt_of_lt_of_le hl2 (jk (by simp [kids])))]
 obtain ⟨h1,h2,h3⟩:=oc ha (by omega)
 obtain ⟨k1,k2,k3⟩:=oc hb (by omega)
 rw [h1,k1,FZ h2 k2 hop hY hf,h3,k3]
theorem zp {t:Tr} (h:t.ok):aj (bT t)=bT t:=by
 by_cases hl:200<(bX t).length
 ·rw [jH hl];exact if_pos (by decide)
 obtain ⟨h1,h2,h3⟩:=oc h (by omega)
 rw [h1,dt h2,h3]
/-! conjunctions -/
def mx (a b:List NV):List NV:=aR ⟨5,0,0,0,0,0⟩ [a,b]
def jR:List (List NV)→List NV
 |[]=>aR ⟨1,0,0,0,0,0⟩ []
 |g::gs=>gs.foldl mx (aj g)
def kH:List Tr→Tr
 |[]=>.leaf 1 0 0 0
 |t::ts=>ts.foldl (fun a b=>.bin 5 0 0 0 a b) t
theorem jo {a b:Tr} (ha:a.ok) (hb:b.ok):(Tr.bin 5 0 0 0 a b).ok:=⟨by omega,rfl,rfl,ha,hb⟩
theorem tN:∀{ts:List Tr} {t:Tr},t.ok→(∀u∈ts,u.ok)→(ts.map bT).foldl mx (bT t)=bT (ts.foldl (fun a b=>.bin 5 0 0 0 a b) t)
 |[],_,_,_=>rfl
 |u::us,t,h,hs=>by
  rw [List.map_cons,List.foldl_cons,List.foldl_cons,mx,dy h (hs u (by simp)) (by omega) rfl rfl]
  exact tN (jo h (hs u (by simp))) (fun v hv=>hs v (by simp [hv]))
theorem rz:∀{ts:List Tr},(∀u∈ts,u.ok)→jR (ts.map bT)=bT (kH ts)
 |[],_=>D8 (n:=⟨1,0,0,0,0,0⟩) (by decide) rfl rfl rfl rfl
 |t::ts,h=>by
  rw [List.map_cons,jR,zp (h t (by simp))]
  exact tN (h t (by simp)) (fun u hu=>h u (by simp [hu]))
/-! x[lo:] of a slice -/
def Cx (a:Option Addr) (cap lo sz:Nat):Option Addr:=if cap=lo then a else a.map (·.add (lo*sz))
theorem Sl.drop {w:World} {a:Option Addr} {xs:List Value} (h:Sl w a xs) {cap lo:Nat} (hc:xs.length≤cap):Sl w (Cx a cap lo 1) (xs.drop lo):=by
 by_cases hl:xs.length≤lo
 ·rw [List.drop_eq_nil_of_le hl];exact Sl.nil _ _
 obtain ⟨b,o,rfl,hb⟩:=h.isSome (by omega)
 have e0:Cx (some ⟨b,o,none⟩) cap lo 1=some ⟨b,o+lo,none⟩:=by
  rw [Cx,if_neg (by omega),Option.map_some,Addr.add,Nat.mul_one]
  split
  ·rename_i hz;subst hz;rfl
  rfl
 rw [e0]
 refine ⟨fun _=>⟨b,o+lo,rfl,hb⟩,fun i hi=>?_⟩
 rw [List.length_drop] at hi
 have:=h.cell (lo+i) (by omega)
 have e1:nr (some ⟨b,o+lo,none⟩) i=nr (some ⟨b,o,none⟩) (lo+i):=by
  simp only [nr,Option.getD_some,Nat.add_assoc]
 rw [e1,this]
 simp [List.getD_eq_getElem?_getD,List.getElem?_drop]
section
variable {P:Program} {w0:World} {S:List Nat} {n:Nat} {l:Fl} {h:Hl} {ops:Array Oper} {i d:Nat} {ty:TypeId} {pos:String} {aft:Array Edge} {g:Option (Nat×Bool)}
theorem ae.CW {t e:TypeId} {x y:Operand} {a:Option Addr} {m cap lo:Nat} {kd:IntKind} {j:Int} {sz:Nat} (ho:ops[i]?=some ⟨some d,.slice t x (some y) none none,ty,pos,aft,g⟩) (hw:au ops l g=true)
  (hx:aT l x=some (.slice a m cap)) (hy:aT l y=some (.int kd j)) (hd:Nat.blt d n=true) (hu:P.underlying t=some (.slice e)) (he:∀w,(sizeOf e).run P w=.ok sz w) (hj:j=lo) (hc:lo≤m):
  ae P w0 S n h ops i l d (.slice (Cx a cap lo sz) (m - lo) (cap - lo)):=
 .of ho hw rfl rfl hd (fun t w Ds _ hF hS=>⟨.value (.slice (Cx a cap lo sz) (m - lo) (cap - lo)),by
  subst hj
  simp only [execOp,hF.aT hx,hF.aT hy,Option.map_some,Option.map_none,Instr.sliceAt,Sem.run_bind,run_underlying hu,Result.andThen_ok,Instr.slice,Instr.sliceBounds,Instr.sliceBound,asIntOf,Sem.run_pure]
  rw [if_pos ⟨by omega,by omega⟩]
  simp only [Sem.run_pure,Result.andThen_ok,he,Int.toNat_natCast]
  rfl,rfl⟩)
end
end Go.Proofs.Wit
