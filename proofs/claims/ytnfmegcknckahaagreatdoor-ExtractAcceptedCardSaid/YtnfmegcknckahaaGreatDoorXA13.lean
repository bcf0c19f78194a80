/- Laws of walks, for any program, under the conditions that each theorem states. -/
import Derived.Test.YtnfmegcknckahaaGreatDoorXA11
import Derived.Test.YtnfmegcknckahaaGreatDoorXA02
import Derived.Test.YtnfmegcknckahaaGreatDoorXA05
namespace Go.Proofs.Wit
open Go Go.RowKit
theorem Hi {P:Program} {t:TypeId} {a b c:Nat} (ha:a<512) (hb:b<512) (hc:c=a|||b):kL P .or t (.int .i64 a) (.int .i64 b) (.int .i64 c):=by
 subst hc
 refine bI _ ?_
 have hx:a|||b<2^9:=Nat.or_lt_two_pow (by omega) (by omega)
 have h1:(BitVec.ofInt 64 (a:Int)).toNat=a:=by
  rw [BitVec.ofInt_natCast,BitVec.toNat_ofNat];exact Nat.mod_eq_of_lt (by omega)
 have h2:(BitVec.ofInt 64 (b:Int)).toNat=b:=by
  rw [BitVec.ofInt_natCast,BitVec.toNat_ofNat];exact Nat.mod_eq_of_lt (by omega)
 rw [binOp_or]
 show (pure (Value.int .i64 (IntKind.i64.wrap ((BitVec.ofInt 64 (a:Int)|||BitVec.ofInt 64 (b:Int)).toNat:Int))):Sem Value)=_
 rw [BitVec.toNat_or,h1,h2,IntWalk.i64_in _ (by omega)]
def Ad (n:NV):Nat:=(xx n.op).toNat
theorem rZ (op:Int):0≤xx op∧xx op<512:=by
 unfold xx
 repeat' split
 all_goals omega
theorem y9 (n:NV):(Ad n:Int)=xx n.op:=by
 have:=rZ n.op
 unfold Ad;omega
def kS (c:List NV):Nat:=c.foldl (fun a n=>a|||Ad n) 0
theorem rm {c:List NV} {n:NV}:kS (c++[n])=kS c|||Ad n:=by simp [kS]
theorem rY (c:List NV):kS c<512:=by
 induction c using gv with
 |h0=>decide
 |h1 c n ih=>
  rw [rm]
  have h2:Ad n<2^9:=by have:=rZ n.op;unfold Ad;omega
  exact Nat.or_lt_two_pow (n:=9) ih h2
theorem p7 (f:List NV):(aj f).length≤200:=by
 by_cases h:aW f=0
 ·exact (iB h).len
 rw [aj,if_pos h];exact Nat.zero_le _
end Go.Proofs.Wit
namespace Go.Proofs.Wit
open Go Go.RowKit
def G8:List UInt8:=[48,49,50,51,52,53,54,55,56,57,97,98,99,100,101,102,103,104,105,106,107,108,109,110,111,112,113,114,115,116,117,118,119,120,121,122]
def HZ (i:Nat):UInt8:=G8.getD i 0
def DU (n:Nat):List UInt8:=if n<16 then [HZ n] else DU (n / 16)++[HZ (n%16)]
termination_by n
section
variable {P:Program} {r:Option Nat} {f:FuncId} {R:Value→World→Prop} {w0:World} {S:List Nat} {Y:List (Nat×Obj)} {n:Nat} {k:List Item} {l:Fl} {h:Hl}
variable {ops:Array Oper} {i d:Nat} {rest:List Nat} {ty:TypeId} {pos:String} {aft:Array Edge} {g:Option (Nat×Bool)} {t:TypeId}
end
structure IS (ks:Nat→List UInt8) (n:Nat) (L:List (List UInt8×Nat)) (l:List Int) (k:Nat):Prop where
  len:l.length=n
  le:k≤n
  lt:∀x v,cI (fun a b=>a==b) L x=some v→v<L.length
  inj:∀x y v,cI (fun a b=>a==b) L x=some v→cI (fun a b=>a==b) L y=some v→x=y
  at_:∀i,i<k→∃v:Nat,l.getD i 0=v∧cI (fun a b=>a==b) L (ks i)=some v
end Go.Proofs.Wit
namespace Go.Proofs.Wit
open Go Go.RowKit
section
variable {P:Program} {t:TypeId}
theorem wK (x:Nat):BitVec.ofInt 64 (x:Int)=BitVec.ofNat 64 x:=by
 apply BitVec.eq_of_toNat_eq;simp
theorem Gc {x j:Nat} {b:Int} {k:IntKind} (h:b=j) (hx:x*2^j<9223372036854775808) (hj:j≤64):kL P .shl t (.int .i64 x) (.int k b) (.int .i64 ((x*2^j:Nat):Int)):=by
 subst h
 refine km (fun p q=>r9 _ _ _ _ _ _ _ _) ?_
 show Op.shift .shl .i64 (x:Int) k (j:Int)=_
 unfold Op.shift
 rw [if_neg (by omega),Int.toNat_natCast]
 show pure (Value.int .i64 (IntKind.i64.wrap ((x:Int)*2^(min j 64))))=_
 rw [Nat.min_eq_left hj]
 have e1:((x:Int)*2^j)=((x*2^j:Nat):Int):=by norm_cast
 rw [e1,IntWalk.i64_in _ (by omega)]
end
end Go.Proofs.Wit
namespace Go.Proofs.Wit
def G1 (r s z:List aB) (v w:Nat):Bool:=(dG (r.getD v 0#64)).all (fun x=>z.getD x 0#64 &&& s.getD w 0#64 !=0#64) && (s.getD w 0#64 &&& ~~~ uI z (r.getD v 0#64)==0#64)
def Bh (va vb:List aB) (ra rb:List (List aB)) (z:List aB) (v w:Nat):Bool:=(fm va v==fm vb w) && (List.range ra.length).all (fun i=>G1 (ra.getD i []) (rb.getD i []) z v w)
def IU (l c:List aB):Prop:=∀u v,Rl l u v→Rl c u v
section
variable {va vb:List aB} {ra rb:List (List aB)}
def Hy (va vb:List aB) (ra rb:List (List aB)) (z:List aB):Prop:=∀v w,Rl z v w→Bh va vb ra rb z v w=true
structure HG (va vb:List aB) (ra rb:List (List aB)) (na nb:Nat) (z:List aB):Prop where
  len:z.length=na
  I4:∀v w,Rl z v w→w<nb
  top:∀z':List aB,z'.length=na→(∀v w,Rl z' v w→w<nb)→Hy va vb ra rb z'→IU z' z
theorem A5 {w i:Nat} (hw:w<64):(1#64<<<w).getLsbD i=decide (i=w):=by
 rw [BitVec.getLsbD_shiftLeft]
 by_cases e:i=w
 ·subst e;simp [hw]
 rw [decide_eq_false e]
 by_cases h1:i<64
 ·by_cases h2:i<w
  ·simp [h1,h2]
  ·have h3:i - w≠0:=by omega
   simp [h1,h2,h3]
 simp [h1]
end
def AD (z:List aB):Nat:=(z.map BitVec.toNat).sum
structure CE (va vb:List aB) (ra rb:List (List aB)) (na nb:Nat) (z0 z:List aB) (ch:Bool) (k:Nat):Prop where
  inv:HG va vb ra rb na nb z
  le:AD z≤AD z0
  I9:ch=true→AD z<AD z0
  same:ch=false→∀v w,v<k→Rl z v w→Bh va vb ra rb z v w=true
structure IJ (va vb:List aB) (ra rb:List (List aB)) (na nb:Nat) (z0:List aB) (k:Nat) (s:aB) (i:Nat) (z:List aB) (ch:Bool):Prop where
  pq:CE va vb ra rb na nb z0 z ch k
  row:∀w,Rl z k w→s.getLsbD w=true
  left:∀w∈(dG s).drop i,Rl z k w
  done:ch=false→∀w∈(dG s).take i,Bh va vb ra rb z k w=true
section
variable {va vb:List aB} {ra rb:List (List aB)} {na nb k i:Nat} {z0 z:List aB} {s:aB} {ch:Bool}
end
end Go.Proofs.Wit
namespace Go.Proofs.Wit
open Go Go.RowKit
section
variable {P:Program} {t:TypeId}
end
section
variable {κ:Type} [DecidableEq κ]
structure Down (key:Nat→κ) (i:Nat) (j:Int) (low:Nat):Prop where
  lo:j<low
  hi:low≤i
  eq:key low=key i
  min:∀m:Nat,j<m→m≤i→key m=key i→low≤m
omit [DecidableEq κ] in
end
structure IK (va vb:List aB) (ra rb:List (List aB)) (na nb:Nat) (z0:List aB) (k j:Nat) (z:List aB) (ch:Bool):Prop where
  pq:CE va vb ra rb na nb z0 z ch k
  done:ch=false→∀w,w<j→Rl z k w→Bh va vb ra rb z k w=true
section
variable {va vb:List aB} {ra rb:List (List aB)} {na nb k j:Nat} {z0 z:List aB} {ch:Bool}
end
end Go.Proofs.Wit
namespace Go.Proofs.Wit
open Go Go.RowKit
section
variable {P:Program} {t:TypeId}
theorem CA {x j:Nat} {b:Int} {k:IntKind} (h:b=j) (_hx:x<9223372036854775808) (hj:j≤64):kL P .shr t (.int .i64 x) (.int k b) (.int .i64 ((x / 2^j:Nat):Int)):=by
 subst h
 refine km (fun p q=>r9 _ _ _ _ _ _ _ _) ?_
 show Op.shift .shr .i64 (x:Int) k (j:Int)=_
 unfold Op.shift
 rw [if_neg (by omega),Int.toNat_natCast]
 show pure (Value.int .i64 ((x:Int).fdiv (2^(min j 64))))=_
 rw [Nat.min_eq_left hj]
 have e1:((2:Int)^j)=((2^j:Nat):Int):=by norm_cast
 rw [e1,←Int.ofNat_fdiv]
theorem zP {x:Nat} (hx:x<9223372036854775808):kL P .and t (.int .i64 x) (.int .i64 1) (.int .i64 ((x%2:Nat):Int)):=bI _ (by
 show Op.intBits .and .i64 (x:Int) 1=_
 unfold Op.intBits
 have e1:(BitVec.ofInt 64 (x:Int) &&& BitVec.ofInt 64 1).toNat=x%2:=by
  rw [wK,show BitVec.ofInt 64 1=BitVec.ofNat 64 1 from rfl,BitVec.toNat_and,BitVec.toNat_ofNat,BitVec.toNat_ofNat,Nat.mod_eq_of_lt (by omega),Nat.mod_eq_of_lt (by omega),Nat.and_one_is_mod]
 show pure (Value.int .i64 (IntKind.i64.wrap ((BitVec.ofInt 64 (x:Int) &&& BitVec.ofInt 64 1).toNat:Int)))=_
 rw [e1,IntWalk.i64_in _ (by omega)])
end
def gb (g k:Nat):Nat:=g / 2^k%2
def Fw (n:Nat) (rel:List (List aB)) (g w:Nat) (k:Nat):aB:=ug (fun a (o:aB)=>if gb g a=1 then o &&& (rel.getD a []).getD w 0#64 else o) (zR n) k
def Dy (n:Nat) (rel:List (List aB)) (g k:Nat):List aB:=(List.range n).map (fun w=>Fw n rel g w k)
def Fx (n:Nat) (rel:List (List aB)) (g:Nat):List aB:=Dy n rel g rel.length
section
variable {n:Nat} {rel:List (List aB)} {g k w:Nat}
end
section
variable {P:Program} {r:Option Nat} {f:FuncId} {R:Value→World→Prop} {w0:World} {S:List Nat} {Y:List (Nat×Obj)} {n:Nat} {k:List Item} {l:Fl} {h:Hl}
variable {ops:Array Oper} {i d:Nat} {rest:List Nat} {ty:TypeId} {pos:String} {aft:Array Edge} {g:Option (Nat×Bool)}
end
end Go.Proofs.Wit
namespace Go.Proofs.Wit
open Go
theorem vC {w i:Nat} (hw:w<64):(1#64<<<w).getLsbD i=true↔i=w:=by rw [A5 hw];simp
def E5 (q:Nat→Bool) (n:Nat):aB:=ug (fun w (o:aB)=>if q w=true then o|||1#64<<<w else o) 0#64 n
def BV (r:List aB) (n:Nat) (s:aB):aB:=E5 (fun w=>r.getD w 0#64 &&& ~~~s==0#64) n
def Fb (r:List aB) (c:aB) (n:Nat) (s:aB):aB:=ug (fun w (o:aB)=>if o.getLsbD w=true then o|||(r.getD w 0#64 &&& c) else o) s n
def Dd (r:List aB) (n v:Nat) (c:aB) (k:Nat):aB:=ug (fun _ (o:aB)=>Fb r c n o) (r.getD v 0#64 &&& c) k
def Fg (r:List aB) (n v:Nat) (c:aB):aB:=Dd r n v c n
def Hd (r:List aB) (n:Nat) (c s:aB):aB:=E5 (fun w=>Fg r n w c &&& ~~~s==0#64) n
inductive Ep (r:List aB) (c:aB) (v:Nat):Nat→Prop where
  |one {u:Nat} (h:Rl r v u) (hc:c.getLsbD u=true):Ep r c v u
  |step {u x:Nat} (h:Ep r c v u) (h2:Rl r u x) (hc:c.getLsbD x=true):Ep r c v x
def FC (rel:List (List aB)) (g w:Nat) (k:Nat):aB:=ug (fun a (o:aB)=>if gb g a=1 then o|||(rel.getD a []).getD w 0#64 else o) 0#64 k
def DI (n:Nat) (rel:List (List aB)) (g k:Nat):List aB:=(List.range n).map (fun w=>FC rel g w k)
def Cr (n:Nat) (rel:List (List aB)) (g:Nat):List aB:=DI n rel g rel.length
def F8 (op:Int) (x y all:aB):aB:=if op=1 then all else if op=4 then all &&& ~~~x else if op=5 then x &&& y else if op=6 then x|||y else if op=7 then (all &&& ~~~x)|||y else if op=8 then all &&& ~~~(x^^^y) else 0#64
def Dg (n:Nat) (val:List aB) (rel:List (List aB)) (op i g:Int) (x y:aB):aB:=
 if op=3 then val.getD i.toNat 0#64 else if op≤8 then F8 op x y (zR n)
 else if op=9 then BV (rel.getD i.toNat []) n x else if op=10 then zR n &&& ~~~BV (rel.getD i.toNat []) n (zR n &&& ~~~x)
 else if op=11 then BV (Cr n rel g.toNat) n x else if op=12 then BV (Fx n rel g.toNat) n x else Hd (Cr n rel g.toNat) n x y
def xZ (n:Nat) (val:List aB) (rel:List (List aB)):Tr→aB
 |.leaf op i _ g=>Dg n val rel op i g 0#64 0#64
 |.un op i _ g a=>Dg n val rel op i g (xZ n val rel a) 0#64
 |.bin op i _ g a b=>Dg n val rel op i g (xZ n val rel a) (xZ n val rel b)
end Go.Proofs.Wit
namespace Go.Proofs.Wit
open Go
abbrev HE (p:List Int) (v w:Nat):Prop:=p.getD v 0=p.getD w 0
structure Jc (n:Nat) (p' p:List Int) (R:List aB):Prop where
  fb:∀v w,v<n→w<n→HE p' v w→∀u,Rl R v u→∃u',Rl R w u'∧HE p u u'
def IW (n:Nat) (p:List Int) (s:aB):Prop:=∀v w,v<n→w<n→HE p v w→s.getLsbD v=true→s.getLsbD w=true
section
variable {n:Nat} {p p':List Int} {s t c:aB} {R:List aB}
end
section
variable {n:Nat} {val:List aB} {oK:List (List aB)}
end
def jX (q:Int→Int→Int→Prop):Tr→Prop
 |.leaf op i _ g=>q op i g
 |.un op i _ g a=>q op i g∧jX q a
 |.bin op i _ g a b=>q op i g∧jX q a∧jX q b
def GW (op:Int):Nat:=if 9≤op∧op≤15∨18≤op then 1 else 0
def BH:Tr→Nat
 |.leaf op _ _ _=>GW op
 |.un op _ _ _ a=>BH a+GW op
 |.bin op _ _ _ a b=>max (BH a) (BH b)+GW op
end Go.Proofs.Wit
namespace Go.Proofs.Wit
open Go
def EI (q:Int→Int→Int→Prop):Tr→Prop
 |.leaf op i _ g=>q op i g
 |.un op i _ g _=>q op i g
 |.bin op i _ g _ _=>q op i g
theorem jX.EI {q:Int→Int→Int→Prop}:∀{t:Tr},jX q t→Wit.EI q t
 |.leaf ..,h=>h
 |.un ..,h=>h.1
 |.bin ..,h=>h.1
theorem jX.tF {q:Int→Int→Int→Prop}:∀{t c:Tr},jX q t→c∈kids t→jX q c
 |.leaf ..,_,_,hc=>by cases hc
 |.un ..,_,h,hc=>by rw [List.mem_singleton.1 hc];exact h.2
 |.bin ..,_,h,hc=>by
  simp only [kids,List.mem_cons,List.not_mem_nil,or_false] at hc
  rcases hc with rfl|rfl
  ·exact h.2.1
  exact h.2.2
theorem l9.jX {q:Int→Int→Int→Prop} {ts:List Tr} (hc:l9 ts) (h:∀u∈ts,Wit.EI q u):∀t:Tr,t∈ts→Wit.jX q t
 |.leaf ..,ht=>h _ ht
 |.un _ _ _ _ a,ht=>⟨h _ ht,hc.jX h a (hc.mem ht a (by simp [kids]))⟩
 |.bin _ _ _ _ a b,ht=>⟨h _ ht,hc.jX h a (hc.mem ht a (by simp [kids])),hc.jX h b (hc.mem ht b (by simp [kids]))⟩
theorem tB (t:Tr):t∈gq t:=(ib t).mem
theorem xm {q:Int→Int→Int→Prop} {t:Tr}:jX q t↔∀u∈gq t,EI q u:=
 ⟨fun h u hu=>(qP (fun _ ht _ hc=>ht.tF hc) t h (fun u hu=>by cases hu) u hu).EI,fun h=>(ib t).oQ.jX h t (tB t)⟩
theorem pS {q:Int→Int→Int→Prop} {ts:List Tr}:∀{u:Tr},EI q u↔q (br ts u).op (br ts u).i (br ts u).g
 |.leaf ..=>Iff.rfl
 |.un ..=>Iff.rfl
 |.bin ..=>Iff.rfl
theorem zS {q:Int→Int→Int→Prop} {t:Tr}:jX q t↔∀n∈bX t,q n.op n.i n.g:=by
 rw [xm]
 show _↔∀n∈aQ (gq t),_
 unfold aQ
 constructor
 ·intro h n hn
  obtain ⟨u,hu,rfl⟩:=List.mem_map.1 hn
  exact pS.1 (h u hu)
 intro h u hu
 exact pS.2 (h _ (List.mem_map_of_mem hu))
def Cj (h:NV→Nat) (c:List NV):Nat:=c.foldl (fun a n=>a|||h n) 0
theorem yp {h:NV→Nat} {c:List NV} {n:NV}:Cj h (c++[n])=Cj h c|||h n:=by simp [Cj]
theorem vB {h:NV→Nat} {j:Nat} {c:List NV}:(Cj h c).testBit j=true↔∃n∈c,(h n).testBit j=true:=by
 induction c using gv with
 |h0=>simp [Cj]
 |h1 c n ih=>
  rw [yp,Nat.testBit_or,Bool.or_eq_true,ih]
  simp only [List.mem_append,List.mem_singleton]
  constructor
  ·rintro (⟨m,h1,h2⟩|h1)
   ·exact ⟨m,.inl h1,h2⟩
   ·exact ⟨n,.inr rfl,h1⟩
  rintro ⟨m,h1|rfl,h2⟩
  ·exact .inl ⟨m,h1,h2⟩
  exact .inr h2
def Iu (n:NV):Nat:=if n.op=3 then 2^n.i.toNat else 0
def IC (n:NV):Nat:=(if pf n.op=true then 2^n.i.toNat else 0)|||n.g.toNat
structure Gq (op i e g:Int):Prop where
  i0:iO op=false→i=0
  e0:op≠17→e=0
  g0:lT op=false→g=0
  fact:op=3→0≤i∧i<8
  ag:pf op=true→0≤i∧i<4
  act:op=17→(0≤i∧i<8)∧0≤e∧e<8
  gr:lT op=true→1≤g∧g<16
theorem gz {op i e g:Int} (h:fe op i e g=0):Gq op i e g:=by
 unfold fe at h
 split at h
 ·cases h
 rename_i h1
 split at h
 ·cases h
 rename_i h2
 simp only [Bool.or_eq_true,Bool.and_eq_true,Bool.not_eq_true',bne_iff_ne,ne_eq,beq_iff_eq,not_or,not_and,Bool.and_eq_false_iff,decide_eq_false_iff_not,Classical.not_not] at h1 h2
 obtain ⟨⟨a1,a2⟩,a3⟩:=h1
 obtain ⟨⟨⟨b1,b2⟩,b3⟩,b4⟩:=h2
 refine ⟨a1,a2,a3,fun e=>?_,fun e=>?_,fun e=>?_,fun e=>?_⟩
 ·have:=b1 e;omega
 ·have:=b2 e;omega
 ·have:=b3 e;omega
 have:=b4 e;omega
def HU (m k A:Nat):Bool:=(List.range k).all (fun i=>gb m i !=1||decide (i<A))
def FO (f:List NV) (A B:Nat):Bool:=aW f==0 && (HU (Cj IC (aj f)) 4 A && HU (Cj Iu (aj f)) 8 B)
def HH (A B:Nat) (op i g:Int):Prop:=(pf op=true→i.toNat<A)∧(op=3→i.toNat<B)∧g.toNat<2^A
theorem aZ.Ig {f:List NV} (h:aZ f):∀n∈f,1≤n.op∧n.op≤21:=fun n hn=>by
 obtain ⟨i,hi,rfl⟩:=List.mem_iff_getElem.1 hn
 exact (h i hi).op
def kp (a b:Nat):Nat:=a &&& (511^^^b)
theorem oq {a b:Nat} (ha:a<512):kp a b=0↔∀i,a.testBit i=true→b.testBit i=true:=by
 have h511:∀i,(511:Nat).testBit i=decide (i<9):=fun i=>by
  rw [show (511:Nat)=2^9 - 1 from rfl,Nat.testBit_two_pow_sub_one]
 constructor
 ·intro h i hi
  have h9:i<9:=by
   refine Classical.byContradiction (fun hc=>?_)
   rw [Nat.testBit_lt_two_pow (Nat.lt_of_lt_of_le ha (by show 2^9≤2^i;exact Nat.pow_le_pow_right (by decide) (by omega)))] at hi
   cases hi
  have:=congrArg (fun x=>x.testBit i) h
  simp only [kp,Nat.testBit_and,Nat.testBit_xor,hi,h511,h9,decide_true,Nat.zero_testBit,Bool.true_and,Bool.true_bne] at this
  simpa using this
 intro h
 refine Nat.eq_of_testBit_eq (fun i=>?_)
 rw [kp,Nat.testBit_and,Nat.testBit_xor,h511,Nat.zero_testBit]
 cases e:a.testBit i with
 |false=>rfl
 |true=>
  rw [h i e]
  have h9:i<9:=by
   refine Classical.byContradiction (fun hc=>?_)
   rw [Nat.testBit_lt_two_pow (Nat.lt_of_lt_of_le ha (by show 2^9≤2^i;exact Nat.pow_le_pow_right (by decide) (by omega)))] at e
   cases e
  simp [h9]
theorem y8 (n:NV):Ad n<512:=by
 have:=rZ n.op
 have:=y9 n
 omega
theorem y6 {c:List NV} {b:Nat}:kp (kS c) b=0↔∀n∈c,kp (Ad n) b=0:=by
 rw [oq (rY c)]
 constructor
 ·intro h n hn
  rw [oq (y8 n)]
  exact fun i hi=>h i (vB.2 ⟨n,hn,hi⟩)
 intro h i hi
 obtain ⟨n,hn,hb⟩:=vB.1 (show (Cj Ad c).testBit i=true from hi)
 exact (oq (y8 n)).1 (h n hn) i hb
theorem ys {p:Int→Prop} (h:∀k:Nat,k<21→p ((k:Int)+1)) {op:Int} (ho:1≤op∧op≤21):p op:=by
 have:=h (op.toNat - 1) (by omega)
 rw [show (((op.toNat - 1:Nat):Int)+1)=op by omega] at this
 exact this
theorem Bw {t:Tr} {b:Nat} {r:Int→Prop} (ht:t.ok) (hr:∀{op:Int},(1≤op∧op≤21)→(kp (xx op).toNat b=0↔r op)):kp (kS (bX t)) b=0↔jX (fun op _ _=>r op) t:=by
 rw [y6,zS]
 have ho:=(mu ht).Ig
 exact ⟨fun h n hn=>(hr (ho n hn)).1 (h n hn),fun h n hn=>(hr (ho n hn)).2 (h n hn)⟩
theorem zO {P:Program} {t:TypeId} {a b:Nat} (ha:a<512) (hb:b<512):kL P .andNot t (.int .i64 a) (.int .i64 b) (.int .i64 (kp a b)):=by
 refine bI _ ?_
 have h1:(BitVec.ofInt 64 (a:Int)).toNat=a:=by
  rw [BitVec.ofInt_natCast,BitVec.toNat_ofNat];exact Nat.mod_eq_of_lt (by omega)
 have h2:BitVec.ofInt 64 (b:Int)=BitVec.ofNat 64 b:=BitVec.ofInt_natCast ..
 have h0:BitVec.ofInt 64 (a:Int)=BitVec.ofNat 64 a:=BitVec.ofInt_natCast ..
 have hx:kp a b<2^9:=Nat.and_lt_two_pow _ (by show 511^^^b<2^9;exact Nat.xor_lt_two_pow (by decide) (by omega))
 have key:(BitVec.ofInt 64 (a:Int) &&& ~~~ BitVec.ofInt 64 (b:Int))=BitVec.ofNat 64 (kp a b):=by
  rw [h0,h2]
  apply BitVec.eq_of_getLsbD_eq
  intro i hi
  rw [BitVec.getLsbD_and,BitVec.getLsbD_not,BitVec.getLsbD_ofNat,BitVec.getLsbD_ofNat,BitVec.getLsbD_ofNat,kp,Nat.testBit_and,Nat.testBit_xor,show (511:Nat)=2^9 - 1 from rfl,Nat.testBit_two_pow_sub_one]
  have e9:¬i<9→a.testBit i=false:=fun hc=>Nat.testBit_lt_two_pow (Nat.lt_of_lt_of_le ha (by show 2^9≤2^i;exact Nat.pow_le_pow_right (by decide) (by omega)))
  by_cases h9:i<9
  ·simp [hi,h9]
  simp [hi,e9 h9]
 show (binOp .andNot t (.int .i64 a) (.int .i64 b))=_
 show (pure (Value.int .i64 (IntKind.i64.wrap ((BitVec.ofInt 64 (a:Int) &&& ~~~ BitVec.ofInt 64 (b:Int)).toNat:Int))):Sem Value)=_
 rw [key,BitVec.toNat_ofNat,Nat.mod_eq_of_lt (by omega),IntWalk.i64_in _ (by omega)]
def FH (n:Int) (val:List aB) (rel:List (List aB)) (f:List NV):Int:=
 if zA n val rel≠0 then zA n val rel else if aW f≠0 then aW f else if kp (kS (aj f)) 15≠0 then 10 else if FO f rel.length val.length=false then 2 else 0
def Gj (A B:Nat) (op i g:Int):Prop:=op≤13∧HH A B op i g
end Go.Proofs.Wit
namespace Go.Proofs.Wit
structure H8 (A B:Nat) (nd:NV):Prop where
  I5:1≤nd.op
  Ih:nd.op≤13
  fact:nd.op=3→0≤nd.i∧nd.i.toNat<B
  ag:nd.op=9∨nd.op=10→0≤nd.i∧nd.i.toNat<A
  gr:11≤nd.op→1≤nd.g∧nd.g.toNat<2^A
structure iF (g:List NV):Prop where
  jD:aW g=0
  can:g=bX (bh g)
theorem iF.ok {g:List NV} (h:iF g):(bh g).ok:=(aA.1 h.jD).top
theorem iF.of {t:Tr} (h:t.ok) (hl:(bX t).length≤200):iF (bX t):=⟨(om h hl).2.1,by rw [(om h hl).2.2]⟩
theorem iF.aj {f:List NV} (h:aW f=0):iF (aj f):=by
 have hl:=nZ h
 have hl2:=(aA.1 h).len
 rw [dv h] at hl⊢
 exact .of (aA.1 h).top (by omega)
theorem qR {f:List NV} (h:aW f=0):bh (aj f)=bh f:=by
 rw [dv h];exact jc (aA.1 h).top.wf
theorem iF.len {g:List NV} (h:iF g):g.length≤200:=(aA.1 h.jD).len
theorem iF.nodes {g:List NV} (h:iF g):aZ g:=(aA.1 h.jD).nodes
theorem iF.trees {g:List NV} (h:iF g):Wit.trees g=gq (bh g):=by
 have:=h.can
 rw [this]
 conv=>rhs;rw [←this]
 exact me h.ok.wf
end Go.Proofs.Wit
namespace Go.Proofs.Wit
open Go Go.RowKit
theorem xP {c t:Tr} (h:c∈kids t):gq c⊆gq t:=
 iY c (ts:=[]) (ib t).oQ ((ib t).oQ.mem (tB t) c h) (List.nil_subset _)
theorem js {c t:Tr} (h:c∈kids t):(bX c).length≤(bX t).length:=by
 rw [fX,fX]
 exact (ib c).nd.length_le_of_subset (xP h)
theorem jO {t:Tr} (h:200<(bX t).length):bT t=[]:=if_pos h
theorem zK {t:Tr} (h:¬200<(bX t).length):bT t=bX t:=if_neg h
theorem Cz (t:Tr):(bT t).length≤200:=by
 unfold bT;split
 ·simp
 omega
theorem vd {t:Tr}:bT t=[]↔200<(bX t).length:=by
 constructor
 ·intro h
  refine Classical.byContradiction (fun hn=>?_)
  rw [zK hn] at h
  have:=jr t
  rw [h] at this;exact absurd this (by simp)
 exact jO
theorem qu {n:NV} {gs:List (List NV)} (h:∃g∈gs,aW g≠0):aR n gs=[]:=if_pos h
theorem BW (n:NV) (gs:List (List NV)):(aR n gs).length≤200:=by
 unfold aR
 repeat' split
 ·simp
 ·simp
 ·simp
 omega
theorem jW {op i e g:Int} {a:Tr} (ha:a.ok) (hop:1≤op∧op≤21) (hX:cG op=true) (hY:ct op=false) (hf:fe op i e g=0):aR ⟨op,i,e,g,0,0⟩ [bT a]=bT (.un op i e g a):=by
 by_cases hl:200<(bX a).length
 ·rw [jO hl,qu ⟨[],by simp,by decide⟩,jO (Nat.lt_of_lt_of_le hl (js (by simp [kids])))]
 obtain ⟨h1,h2,h3⟩:=om ha (by omega)
 rw [h1,Ga h2 hop hX hY hf rfl,h3]
theorem dz {op i e g:Int} {a b:Tr} (ha:a.ok) (hb:b.ok) (hop:1≤op∧op≤21) (hY:ct op=true) (hf:fe op i e g=0):aR ⟨op,i,e,g,0,0⟩ [bT a,bT b]=bT (.bin op i e g a b):=by
 by_cases hl:200<(bX a).length
 ·rw [jO hl,qu ⟨[],by simp,by decide⟩,jO (Nat.lt_of_lt_of_le hl (js (by simp [kids])))]
 by_cases hl2:200<(bX b).length
 ·rw [jO hl2,qu ⟨[],by simp,by decide⟩,jO (Nat.lt_of_lt_of_le hl2 (js (by simp [kids])))]
 obtain ⟨h1,h2,h3⟩:=om ha (by omega)
 obtain ⟨k1,k2,k3⟩:=om hb (by omega)
 rw [h1,k1,F9 h2 k2 hop hY hf,h3,k3]
theorem zw {t:Tr} (h:t.ok):aj (bT t)=bT t:=by
 by_cases hl:200<(bX t).length
 ·rw [jO hl];exact if_pos (by decide)
 obtain ⟨h1,h2,h3⟩:=om h (by omega)
 rw [h1,dv h2,h3]
def my (a b:List NV):List NV:=aR ⟨5,0,0,0,0,0⟩ [a,b]
def ju:List (List NV)→List NV
 |[]=>aR ⟨1,0,0,0,0,0⟩ []
 |g::gs=>gs.foldl my (aj g)
def jM:List Tr→Tr
 |[]=>.leaf 1 0 0 0
 |t::ts=>ts.foldl (fun a b=>.bin 5 0 0 0 a b) t
theorem jw {a b:Tr} (ha:a.ok) (hb:b.ok):(Tr.bin 5 0 0 0 a b).ok:=⟨by omega,rfl,rfl,ha,hb⟩
theorem tO:∀{ts:List Tr} {t:Tr},t.ok→(∀u∈ts,u.ok)→(ts.map bT).foldl my (bT t)=bT (ts.foldl (fun a b=>.bin 5 0 0 0 a b) t)
 |[],_,_,_=>rfl
 |u::us,t,h,hs=>by
  rw [List.map_cons,List.foldl_cons,List.foldl_cons,my,dz h (hs u (by simp)) (by omega) rfl rfl]
  exact tO (jw h (hs u (by simp))) (fun v hv=>hs v (by simp [hv]))
theorem oh:∀{ts:List Tr},(∀u∈ts,u.ok)→ju (ts.map bT)=bT (jM ts)
 |[],_=>Ed (n:=⟨1,0,0,0,0,0⟩) (by decide) rfl rfl rfl rfl
 |t::ts,h=>by
  rw [List.map_cons,ju,zw (h t (by simp))]
  exact tO (h t (by simp)) (fun u hu=>h u (by simp [hu]))
def CD (a:Option Addr) (cap lo sz:Nat):Option Addr:=if cap=lo then a else a.map (·.add (lo*sz))
theorem Sl.drop {w:World} {a:Option Addr} {xs:List Value} (h:Sl w a xs) {cap lo:Nat} (hc:xs.length≤cap):Sl w (CD a cap lo 1) (xs.drop lo):=by
 by_cases hl:xs.length≤lo
 ·rw [List.drop_eq_nil_of_le hl];exact Sl.nil _ _
 obtain ⟨b,o,rfl,hb⟩:=h.isSome (by omega)
 have e0:CD (some ⟨b,o,none⟩) cap lo 1=some ⟨b,o+lo,none⟩:=by
  rw [CD,if_neg (by omega),Option.map_some,Addr.add,Nat.mul_one]
  split
  ·rename_i hz;subst hz;rfl
  rfl
 rw [e0]
 refine ⟨fun _=>⟨b,o+lo,rfl,hb⟩,fun i hi=>?_⟩
 rw [List.length_drop] at hi
 have:=h.cell (lo+i) (by omega)
 have e1:nD (some ⟨b,o+lo,none⟩) i=nD (some ⟨b,o,none⟩) (lo+i):=by
  simp only [nD,Option.getD_some,Nat.add_assoc]
 rw [e1,this]
 simp [List.getD_eq_getElem?_getD,List.getElem?_drop]
section
variable {P:Program} {w0:World} {S:List Nat} {n:Nat} {l:Fl} {h:Hl} {ops:Array Oper} {i d:Nat} {ty:TypeId} {pos:String} {aft:Array Edge} {g:Option (Nat×Bool)}
theorem ae.C3 {t e:TypeId} {x y:Operand} {a:Option Addr} {m cap lo:Nat} {kd:IntKind} {j:Int} {sz:Nat} (ho:ops[i]?=some ⟨some d,.slice t x (some y) none none,ty,pos,aft,g⟩) (hw:au ops l g=true)
  (hx:aU l x=some (.slice a m cap)) (hy:aU l y=some (.int kd j)) (hd:Nat.blt d n=true) (hu:P.underlying t=some (.slice e)) (he:∀w,(sizeOf e).run P w=.ok sz w) (hj:j=lo) (hc:lo≤m):
  ae P w0 S n h ops i l d (.slice (CD a cap lo sz) (m - lo) (cap - lo)):=
 .of ho hw rfl rfl hd (fun t w Ds _ hF hS=>⟨.value (.slice (CD a cap lo sz) (m - lo) (cap - lo)),by
  subst hj
  simp only [execOp,hF.aU hx,hF.aU hy,Option.map_some,Option.map_none,Instr.sliceAt,Sem.run_bind,run_underlying hu,Result.andThen_ok,Instr.slice,Instr.sliceBounds,Instr.sliceBound,asIntOf,Sem.run_pure]
  rw [if_pos ⟨by omega,by omega⟩]
  simp only [Sem.run_pure,Result.andThen_ok,he,Int.toNat_natCast]
  rfl,rfl⟩)
end
end Go.Proofs.Wit
