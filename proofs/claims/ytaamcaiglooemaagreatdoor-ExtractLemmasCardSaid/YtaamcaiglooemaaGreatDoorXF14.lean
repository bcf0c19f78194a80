/- Laws of walks, for any program, under the conditions that each theorem states. -/
import Derived.Test.YtaamcaiglooemaaGreatDoorXF12
set_option maxRecDepth 100000
set_option maxHeartbeats 4000000
namespace Go.Proofs.Wit
open Go Go.RowKit
theorem KE {P:Program} {t:TypeId} {a b c:Nat} (ha:a<512) (hb:b<512) (hc:c=a|||b):ly P .or t (.int .i64 a) (.int .i64 b) (.int .i64 c):=by
 subst hc;refine bI _ ?_;have hx:a|||b<2^9:=Nat.or_lt_two_pow (by omega) (by omega);have h1:(BitVec.ofInt 64 (a:Int)).toNat=a:=by
  rw [BitVec.ofInt_natCast,BitVec.toNat_ofNat];exact Nat.mod_eq_of_lt (by omega)
 have h2:(BitVec.ofInt 64 (b:Int)).toNat=b:=by
  rw [BitVec.ofInt_natCast,BitVec.toNat_ofNat];exact Nat.mod_eq_of_lt (by omega)
 rw [binOp_or];show (pure (Value.int .i64 (IntKind.i64.wrap ((BitVec.ofInt 64 (a:Int)|||BitVec.ofInt 64 (b:Int)).toNat:Int))):Sem Value)=_;rw [BitVec.toNat_or,h1,h2,IntWalk.i64_in _ (by omega)]
def CI (n:NV):Nat:=(z6 n.op).toNat
theorem uB (op:Int):0≤z6 op∧z6 op<512:=by
 unfold z6
 repeat' split
 all_goals omega
theorem By (n:NV):(CI n:Int)=z6 n.op:=by
 have:=uB n.op;unfold CI;omega
def lW (c:List NV):Nat:=c.foldl (fun a n=>a|||CI n) 0
theorem tC {c:List NV} {n:NV}:lW (c++[n])=lW c|||CI n:=by simp [lW]
theorem uA (c:List NV):lW c<512:=by
 induction c using gV with
 |h0=>decide
 |h1 c n ih=>
  rw [tC];have h2:CI n<2^9:=by have:=uB n.op;unfold CI;omega
  exact Nat.or_lt_two_pow (n:=9) ih h2
theorem rV (f:List NV):(ah f).length≤200:=by
 by_cases h:aN f=0;exact (gz h).len;rw [ah,if_pos h];exact Nat.zero_le _
def Kw:List UInt8:=[48,49,50,51,52,53,54,55,56,57,97,98,99,100,101,102,103,104,105,106,107,108,109,110,111,112,113,114,115,116,117,118,119,120,121,122]
def K8 (i:Nat):UInt8:=Kw.getD i 0
def G0 (n:Nat):List UInt8:=if n<16 then [K8 n] else G0 (n / 16)++[K8 (n%16)]
termination_by n
section
variable {P:Program} {r:Option Nat} {f:FuncId} {R:Value→World→Prop} {w0:World} {S:List Nat} {Y:List (Nat×Obj)} {n:Nat} {k:List Item} {l:Fl} {h:Hl}
variable {ops:Array Oper} {i d:Nat} {rest:List Nat} {ty:TypeId} {pos:String} {aft:Array Edge} {g:Option (Nat×Bool)} {t:TypeId}
end
structure Mg (ks:Nat→List UInt8) (n:Nat) (L:List (List UInt8×Nat)) (l:List Int) (k:Nat):Prop where
  len:l.length=n
  le:k≤n
  lt:∀x v,bL (fun a b=>a==b) L x=some v→v<L.length
  inj:∀x y v,bL (fun a b=>a==b) L x=some v→bL (fun a b=>a==b) L y=some v→x=y
  at_:∀i,i<k→∃v:Nat,l.getD i 0=v∧bL (fun a b=>a==b) L (ks i)=some v
section
variable {P:Program} {t:TypeId}
theorem zo (x:Nat):BitVec.ofInt 64 (x:Int)=BitVec.ofNat 64 x:=by
 apply BitVec.eq_of_toNat_eq;simp
theorem Fq {x j:Nat} {b:Int} {k:IntKind} (h:b=j) (hx:x*2^j<9223372036854775808) (hj:j≤64):ly P .shl t (.int .i64 x) (.int k b) (.int .i64 ((x*2^j:Nat):Int)):=by
 subst h;refine ll (fun p q=>uE _ _ _ _ _ _ _ _) ?_;show Op.shift .shl .i64 (x:Int) k (j:Int)=_;unfold Op.shift;rw [if_neg (by omega),Int.toNat_natCast];show pure (Value.int .i64 (IntKind.i64.wrap ((x:Int)*2^(min j 64))))=_;rw [Nat.min_eq_left hj];have e1:((x:Int)*2^j)=((x*2^j:Nat):Int):=by norm_cast
 rw [e1,IntWalk.i64_in _ (by omega)]
end
end Go.Proofs.Wit
namespace Go.Proofs.Wit
def Ko (r s z:List aE) (v w:Nat):Bool:=(ew (r.getD v 0#64)).all (fun x=>z.getD x 0#64 &&& s.getD w 0#64 !=0#64) && (s.getD w 0#64 &&& ~~~ wS z (r.getD v 0#64)==0#64)
def DP (va vb:List aE) (ra rb:List (List aE)) (z:List aE) (v w:Nat):Bool:=(fm va v==fm vb w) && (List.range ra.length).all (fun i=>Ko (ra.getD i []) (rb.getD i []) z v w)
def Mi (l c:List aE):Prop:=∀u v,Rl l u v→Rl c u v
section
variable {va vb:List aE} {ra rb:List (List aE)}
def KK (va vb:List aE) (ra rb:List (List aE)) (z:List aE):Prop:=∀v w,Rl z v w→DP va vb ra rb z v w=true
structure KR (va vb:List aE) (ra rb:List (List aE)) (na nb:Nat) (z:List aE):Prop where
  len:z.length=na
  Mr:∀v w,Rl z v w→w<nb
  top:∀z':List aE,z'.length=na→(∀v w,Rl z' v w→w<nb)→KK va vb ra rb z'→Mi z' z
theorem DE {w i:Nat} (hw:w<64):(1#64<<<w).getLsbD i=decide (i=w):=by
 rw [BitVec.getLsbD_shiftLeft];by_cases e:i=w;subst e;simp [hw];rw [decide_eq_false e];by_cases h1:i<64;by_cases h2:i<w;simp [h1,h2];have h:i - w≠0:=by omega
 simp [h1,h2,h];simp [h1]
end
def C6 (z:List aE):Nat:=(z.map BitVec.toNat).sum
structure Fw (va vb:List aE) (ra rb:List (List aE)) (na nb:Nat) (z0 z:List aE) (ch:Bool) (k:Nat):Prop where
  inv:KR va vb ra rb na nb z
  le:C6 z≤C6 z0
  MC:ch=true→C6 z<C6 z0
  same:ch=false→∀v w,v<k→Rl z v w→DP va vb ra rb z v w=true
structure L9 (va vb:List aE) (ra rb:List (List aE)) (na nb:Nat) (z0:List aE) (k:Nat) (s:aE) (i:Nat) (z:List aE) (ch:Bool):Prop where
  pZ:Fw va vb ra rb na nb z0 z ch k
  row:∀w,Rl z k w→s.getLsbD w=true
  left:∀w∈(ew s).drop i,Rl z k w
  done:ch=false→∀w∈(ew s).take i,DP va vb ra rb z k w=true
section
variable {va vb:List aE} {ra rb:List (List aE)} {na nb k i:Nat} {z0 z:List aE} {s:aE} {ch:Bool}
end
end Go.Proofs.Wit
namespace Go.Proofs.Wit
open Go Go.RowKit
section
variable {P:Program} {t:TypeId}
end
section
variable {κ:Type} [DecidableEq κ]
structure Down (key:Nat→κ) (i:Nat) (j:Int) (low:Nat):Prop where
  lo:j<low
  hi:low≤i
  eq:key low=key i
  min:∀m:Nat,j<m→m≤i→key m=key i→low≤m
omit [DecidableEq κ] in
end
structure Ma (va vb:List aE) (ra rb:List (List aE)) (na nb:Nat) (z0:List aE) (k j:Nat) (z:List aE) (ch:Bool):Prop where
  pZ:Fw va vb ra rb na nb z0 z ch k
  done:ch=false→∀w,w<j→Rl z k w→DP va vb ra rb z k w=true
section
variable {va vb:List aE} {ra rb:List (List aE)} {na nb k j:Nat} {z0 z:List aE} {ch:Bool}
end
section
variable {P:Program} {t:TypeId}
theorem yQ {x j:Nat} {b:Int} {k:IntKind} (h:b=j) (_hx:x<9223372036854775808) (hj:j≤64):ly P .shr t (.int .i64 x) (.int k b) (.int .i64 ((x / 2^j:Nat):Int)):=by
 subst h;refine ll (fun p q=>uE _ _ _ _ _ _ _ _) ?_;show Op.shift .shr .i64 (x:Int) k (j:Int)=_;unfold Op.shift;rw [if_neg (by omega),Int.toNat_natCast];show pure (Value.int .i64 ((x:Int).fdiv (2^(min j 64))))=_;rw [Nat.min_eq_left hj];have e1:((2:Int)^j)=((2^j:Nat):Int):=by norm_cast
 rw [e1,←Int.ofNat_fdiv]
theorem xw {x:Nat} (hx:x<9223372036854775808):ly P .and t (.int .i64 x) (.int .i64 1) (.int .i64 ((x%2:Nat):Int)):=bI _ (by
 show Op.intBits .and .i64 (x:Int) 1=_;unfold Op.intBits;have e1:(BitVec.ofInt 64 (x:Int) &&& BitVec.ofInt 64 1).toNat=x%2:=by
  rw [zo,show BitVec.ofInt 64 1=BitVec.ofNat 64 1 from rfl,BitVec.toNat_and,BitVec.toNat_ofNat,BitVec.toNat_ofNat,Nat.mod_eq_of_lt (by omega),Nat.mod_eq_of_lt (by omega),Nat.and_one_is_mod]
 show pure (Value.int .i64 (IntKind.i64.wrap ((BitVec.ofInt 64 (x:Int) &&& BitVec.ofInt 64 1).toNat:Int)))=_;rw [e1,IntWalk.i64_in _ (by omega)])
end
def gb (g k:Nat):Nat:=g / 2^k%2
def IZ (n:Nat) (rel:List (List aE)) (g w:Nat) (k:Nat):aE:=wu (fun a (o:aE)=>if gb g a=1 then o &&& (rel.getD a []).getD w 0#64 else o) (Cp n) k
def GA (n:Nat) (rel:List (List aE)) (g k:Nat):List aE:=(List.range n).map (fun w=>IZ n rel g w k)
def I0 (n:Nat) (rel:List (List aE)) (g:Nat):List aE:=GA n rel g rel.length
section
variable {n:Nat} {rel:List (List aE)} {g k w:Nat}
end
section
variable {P:Program} {r:Option Nat} {f:FuncId} {R:Value→World→Prop} {w0:World} {S:List Nat} {Y:List (Nat×Obj)} {n:Nat} {k:List Item} {l:Fl} {h:Hl}
variable {ops:Array Oper} {i d:Nat} {rest:List Nat} {ty:TypeId} {pos:String} {aft:Array Edge} {g:Option (Nat×Bool)}
end
end Go.Proofs.Wit
namespace Go.Proofs.Wit
open Go
theorem xX {w i:Nat} (hw:w<64):(1#64<<<w).getLsbD i=true↔i=w:=by rw [DE hw];simp
def Is (q:Nat→Bool) (n:Nat):aE:=wu (fun w (o:aE)=>if q w=true then o|||1#64<<<w else o) 0#64 n
def Ev (r:List aE) (n:Nat) (s:aE):aE:=Is (fun w=>r.getD w 0#64 &&& ~~~s==0#64) n
def IC (r:List aE) (c:aE) (n:Nat) (s:aE):aE:=wu (fun w (o:aE)=>if o.getLsbD w=true then o|||(r.getD w 0#64 &&& c) else o) s n
def Gg (r:List aE) (n v:Nat) (c:aE) (k:Nat):aE:=wu (fun _ (o:aE)=>IC r c n o) (r.getD v 0#64 &&& c) k
def IG (r:List aE) (n v:Nat) (c:aE):aE:=Gg r n v c n
def Ky (r:List aE) (n:Nat) (c s:aE):aE:=Is (fun w=>IG r n w c &&& ~~~s==0#64) n
inductive HI (r:List aE) (c:aE) (v:Nat):Nat→Prop where
  |one {u:Nat} (h:Rl r v u) (hc:c.getLsbD u=true):HI r c v u
  |step {u x:Nat} (h:HI r c v u) (h2:Rl r u x) (hc:c.getLsbD x=true):HI r c v x
def I4 (rel:List (List aE)) (g w:Nat) (k:Nat):aE:=wu (fun a (o:aE)=>if gb g a=1 then o|||(rel.getD a []).getD w 0#64 else o) 0#64 k
def GL (n:Nat) (rel:List (List aE)) (g k:Nat):List aE:=(List.range n).map (fun w=>I4 rel g w k)
def Fe (n:Nat) (rel:List (List aE)) (g:Nat):List aE:=GL n rel g rel.length
def Jp (op:Int) (x y all:aE):aE:=if op=1 then all else if op=4 then all &&& ~~~x else if op=5 then x &&& y else if op=6 then x|||y else if op=7 then (all &&& ~~~x)|||y else if op=8 then all &&& ~~~(x^^^y) else 0#64
def Gj (n:Nat) (val:List aE) (rel:List (List aE)) (op i g:Int) (x y:aE):aE:=
 if op=3 then val.getD i.toNat 0#64 else if op≤8 then Jp op x y (Cp n)
 else if op=9 then Ev (rel.getD i.toNat []) n x else if op=10 then Cp n &&& ~~~Ev (rel.getD i.toNat []) n (Cp n &&& ~~~x)
 else if op=11 then Ev (Fe n rel g.toNat) n x else if op=12 then Ev (I0 n rel g.toNat) n x else Ky (Fe n rel g.toNat) n x y
def Ax (n:Nat) (val:List aE) (rel:List (List aE)):Tr→aE
 |.leaf op i _ g=>Gj n val rel op i g 0#64 0#64
 |.un op i _ g a=>Gj n val rel op i g (Ax n val rel a) 0#64
 |.bin op i _ g a b=>Gj n val rel op i g (Ax n val rel a) (Ax n val rel b)
abbrev KP (p:List Int) (v w:Nat):Prop:=p.getD v 0=p.getD w 0
structure MJ (n:Nat) (p' p:List Int) (R:List aE):Prop where
  fb:∀v w,v<n→w<n→KP p' v w→∀u,Rl R v u→∃u',Rl R w u'∧KP p u u'
def Mj (n:Nat) (p:List Int) (s:aE):Prop:=∀v w,v<n→w<n→KP p v w→s.getLsbD v=true→s.getLsbD w=true
section
variable {n:Nat} {p p':List Int} {s t c:aE} {R:List aE}
end
section
variable {n:Nat} {val:List aE} {p3:List (List aE)}
end
def kz (q:Int→Int→Int→Prop):Tr→Prop
 |.leaf op i _ g=>q op i g
 |.un op i _ g a=>q op i g∧kz q a
 |.bin op i _ g a b=>q op i g∧kz q a∧kz q b
def Kj (op:Int):Nat:=if 9≤op∧op≤15∨18≤op then 1 else 0
def Ei:Tr→Nat
 |.leaf op _ _ _=>Kj op
 |.un op _ _ _ a=>Ei a+Kj op
 |.bin op _ _ _ a b=>max (Ei a) (Ei b)+Kj op
def HZ (q:Int→Int→Int→Prop):Tr→Prop
 |.leaf op i _ g=>q op i g
 |.un op i _ g _=>q op i g
 |.bin op i _ g _ _=>q op i g
theorem kz.HZ {q:Int→Int→Int→Prop}:∀{t:Tr},kz q t→Wit.HZ q t
 |.leaf ..,h=>h
 |.un ..,h=>h.1
 |.bin ..,h=>h.1
theorem kz.vJ {q:Int→Int→Int→Prop}:∀{t c:Tr},kz q t→c∈kids t→kz q c
 |.leaf ..,_,_,hc=>by cases hc
 |.un ..,_,h,hc=>by rw [List.mem_singleton.1 hc];exact h.2
 |.bin ..,_,h,hc=>by
  simp only [kids,List.mem_cons,List.not_mem_nil,or_false] at hc;rcases hc with rfl|rfl;exact h.2.1;exact h.2.2
theorem mI.kz {q:Int→Int→Int→Prop} {ts:List Tr} (hc:mI ts) (h:∀u∈ts,Wit.HZ q u):∀t:Tr,t∈ts→Wit.kz q t
 |.leaf ..,m=>h _ m
 |.un _ _ _ _ a,m=>⟨h _ m,hc.kz h a (hc.mem m a (by simp [kids]))⟩
 |.bin _ _ _ _ a b,m=>⟨h _ m,hc.kz h a (hc.mem m a (by simp [kids])),hc.kz h b (hc.mem m b (by simp [kids]))⟩
theorem vz (t:Tr):t∈eN t:=(iP t).mem
theorem zS {q:Int→Int→Int→Prop} {t:Tr}:kz q t↔∀u∈eN t,HZ q u:=
 ⟨fun h u hu=>(sN (fun _ m _ hc=>m.vJ hc) t h (fun u hu=>by cases hu) u hu).HZ,fun h=>(iP t).lL.kz h t (vz t)⟩
theorem rA {q:Int→Int→Int→Prop} {ts:List Tr}:∀{u:Tr},HZ q u↔q (aG ts u).op (aG ts u).i (aG ts u).g
 |.leaf ..=>Iff.rfl
 |.un ..=>Iff.rfl
 |.bin ..=>Iff.rfl
theorem Cq {q:Int→Int→Int→Prop} {t:Tr}:kz q t↔∀n∈cg t,q n.op n.i n.g:=by
 rw [zS];show _↔∀n∈ao (eN t),_;unfold ao;constructor;intro h n m;obtain ⟨u,hu,rfl⟩:=List.mem_map.1 m;exact rA.1 (h u hu);intro h u hu;exact rA.2 (h _ (List.mem_map_of_mem hu))
def E3 (h:NV→Nat) (c:List NV):Nat:=c.foldl (fun a n=>a|||h n) 0
theorem AP {h:NV→Nat} {c:List NV} {n:NV}:E3 h (c++[n])=E3 h c|||h n:=by simp [E3]
theorem xW {h:NV→Nat} {j:Nat} {c:List NV}:(E3 h c).testBit j=true↔∃n∈c,(h n).testBit j=true:=by
 induction c using gV with
 |h0=>simp [E3]
 |h1 c n p=>
  rw [AP,Nat.testBit_or,Bool.or_eq_true,p];simp only [List.mem_append,List.mem_singleton];constructor;rintro (⟨m,h1,h2⟩|h1);exact ⟨m,.inl h1,h2⟩;exact ⟨n,.inr rfl,h1⟩;rintro ⟨m,h1|rfl,h2⟩;exact .inl ⟨m,h1,h2⟩;exact .inr h2
def LO (n:NV):Nat:=if n.op=3 then 2^n.i.toNat else 0
def LZ (n:NV):Nat:=(if nr n.op=true then 2^n.i.toNat else 0)|||n.g.toNat
structure JL (op i e g:Int):Prop where
  i0:iO op=false→i=0
  e0:op≠17→e=0
  g0:jF op=false→g=0
  fact:op=3→0≤i∧i<8
  ag:nr op=true→0≤i∧i<4
  act:op=17→(0≤i∧i<8)∧0≤e∧e<8
  gr:jF op=true→1≤g∧g<16
theorem fB {op i e g:Int} (h:eP op i e g=0):JL op i e g:=by
 unfold eP at h;split at h;cases h;rename_i h1;split at h;cases h;rename_i h2;simp only [Bool.or_eq_true,Bool.and_eq_true,Bool.not_eq_true',bne_iff_ne,ne_eq,beq_iff_eq,not_or,not_and,Bool.and_eq_false_iff,decide_eq_false_iff_not,Classical.not_not] at h1 h2;obtain ⟨⟨F,E⟩,D⟩:=h1;obtain ⟨⟨⟨C,w⟩,p⟩,m⟩:=h2;refine ⟨F,E,D,fun e=>?_,fun e=>?_,fun e=>?_,fun e=>?_⟩;have:=C e;omega;have:=w e;omega;have:=p e;omega;have:=m e;omega
def K1 (m k A:Nat):Bool:=(List.range k).all (fun i=>gb m i !=1||decide (i<A))
def Jg (f:List NV) (A B:Nat):Bool:=aN f==0 && (K1 (E3 LZ (ah f)) 4 A && K1 (E3 LO (ah f)) 8 B)
def KT (A B:Nat) (op i g:Int):Prop:=(nr op=true→i.toNat<A)∧(op=3→i.toNat<B)∧g.toNat<2^A
theorem aK.Ls {f:List NV} (h:aK f):∀n∈f,1≤n.op∧n.op≤21:=fun n m=>by
 obtain ⟨i,hi,rfl⟩:=List.mem_iff_getElem.1 m;exact (h i hi).op
def lq (a b:Nat):Nat:=a &&& (511^^^b)
theorem pJ {a b:Nat} (ha:a<512):lq a b=0↔∀i,a.testBit i=true→b.testBit i=true:=by
 have m:∀i,(511:Nat).testBit i=decide (i<9):=fun i=>by
  rw [show (511:Nat)=2^9 - 1 from rfl,Nat.testBit_two_pow_sub_one]
 constructor;intro h i hi;have p:i<9:=by
  refine Classical.byContradiction (fun hc=>?_);rw [Nat.testBit_lt_two_pow (Nat.lt_of_lt_of_le ha (by show 2^9≤2^i;exact Nat.pow_le_pow_right (by decide) (by omega)))] at hi;cases hi
 have:=congrArg (fun x=>x.testBit i) h;simp only [lq,Nat.testBit_and,Nat.testBit_xor,hi,m,p,decide_true,Nat.zero_testBit,Bool.true_and,Bool.true_bne] at this;simpa using this;intro h;refine Nat.eq_of_testBit_eq (fun i=>?_);rw [lq,Nat.testBit_and,Nat.testBit_xor,m,Nat.zero_testBit];cases e:a.testBit i with
 |false=>rfl
 |true=>
  rw [h i e];have p:i<9:=by
   refine Classical.byContradiction (fun hc=>?_);rw [Nat.testBit_lt_two_pow (Nat.lt_of_lt_of_le ha (by show 2^9≤2^i;exact Nat.pow_le_pow_right (by decide) (by omega)))] at e;cases e
  simp [p]
theorem Bx (n:NV):CI n<512:=by
 have:=uB n.op;have:=By n;omega
theorem Bv {c:List NV} {b:Nat}:lq (lW c) b=0↔∀n∈c,lq (CI n) b=0:=by
 rw [pJ (uA c)];constructor;intro h n m;rw [pJ (Bx n)];exact fun i hi=>h i (xW.2 ⟨n,m,hi⟩);intro h i hi;obtain ⟨n,m,hb⟩:=xW.1 (show (E3 CI c).testBit i=true from hi);exact (pJ (Bx n)).1 (h n m) i hb
theorem AQ {p:Int→Prop} (h:∀k:Nat,k<21→p ((k:Int)+1)) {op:Int} (ho:1≤op∧op≤21):p op:=by
 have:=h (op.toNat - 1) (by omega);rw [show (((op.toNat - 1:Nat):Int)+1)=op by omega] at this;exact this
theorem D9 {t:Tr} {b:Nat} {r:Int→Prop} (w:t.ok) (p:∀{op:Int},(1≤op∧op≤21)→(lq (z6 op).toNat b=0↔r op)):lq (lW (cg t)) b=0↔kz (fun op _ _=>r op) t:=by
 rw [Bv,Cq];have ho:=(nN w).Ls;exact ⟨fun h n m=>(p (ho n m)).1 (h n m),fun h n m=>(p (ho n m)).2 (h n m)⟩
theorem Ci {P:Program} {t:TypeId} {a b:Nat} (ha:a<512) (hb:b<512):ly P .andNot t (.int .i64 a) (.int .i64 b) (.int .i64 (lq a b)):=by
 refine bI _ ?_;have h1:(BitVec.ofInt 64 (a:Int)).toNat=a:=by
  rw [BitVec.ofInt_natCast,BitVec.toNat_ofNat];exact Nat.mod_eq_of_lt (by omega)
 have h2:BitVec.ofInt 64 (b:Int)=BitVec.ofNat 64 b:=BitVec.ofInt_natCast ..;have h0:BitVec.ofInt 64 (a:Int)=BitVec.ofNat 64 a:=BitVec.ofInt_natCast ..;have hx:lq a b<2^9:=Nat.and_lt_two_pow _ (by show 511^^^b<2^9;exact Nat.xor_lt_two_pow (by decide) (by omega));have h:(BitVec.ofInt 64 (a:Int) &&& ~~~ BitVec.ofInt 64 (b:Int))=BitVec.ofNat 64 (lq a b):=by
  rw [h0,h2];apply BitVec.eq_of_getLsbD_eq;intro i hi;rw [BitVec.getLsbD_and,BitVec.getLsbD_not,BitVec.getLsbD_ofNat,BitVec.getLsbD_ofNat,BitVec.getLsbD_ofNat,lq,Nat.testBit_and,Nat.testBit_xor,show (511:Nat)=2^9 - 1 from rfl,Nat.testBit_two_pow_sub_one];have p:¬i<9→a.testBit i=false:=fun hc=>Nat.testBit_lt_two_pow (Nat.lt_of_lt_of_le ha (by show 2^9≤2^i;exact Nat.pow_le_pow_right (by decide) (by omega)));by_cases m:i<9;simp [hi,m];simp [hi,p m]
 show (binOp .andNot t (.int .i64 a) (.int .i64 b))=_;show (pure (Value.int .i64 (IntKind.i64.wrap ((BitVec.ofInt 64 (a:Int) &&& ~~~ BitVec.ofInt 64 (b:Int)).toNat:Int))):Sem Value)=_;rw [h,BitVec.toNat_ofNat,Nat.mod_eq_of_lt (by omega),IntWalk.i64_in _ (by omega)]
theorem Jy {P:Program} {t:TypeId} {a b:Nat} (ha:a<512) (hb:b<512):ly P .and t (.int .i64 a) (.int .i64 b) (.int .i64 (a &&& b:Nat)):=by
 refine bI _ ?_;have hx:a &&& b<2^9:=Nat.and_lt_two_pow _ (by omega);have h1:(BitVec.ofInt 64 (a:Int)).toNat=a:=by
  rw [BitVec.ofInt_natCast,BitVec.toNat_ofNat];exact Nat.mod_eq_of_lt (by omega)
 have h2:(BitVec.ofInt 64 (b:Int)).toNat=b:=by
  rw [BitVec.ofInt_natCast,BitVec.toNat_ofNat];exact Nat.mod_eq_of_lt (by omega)
 show (pure (Value.int .i64 (IntKind.i64.wrap ((BitVec.ofInt 64 (a:Int) &&& BitVec.ofInt 64 (b:Int)).toNat:Int))):Sem Value)=_;rw [BitVec.toNat_and,h1,h2,IntWalk.i64_in _ (by omega)]
def Ja (n:Int) (val:List aE) (rel:List (List aE)) (f:List NV):Int:=
 if B2 n val rel≠0 then B2 n val rel else if aN f≠0 then aN f else if lq (lW (ah f)) 15≠0 then 10 else if Jg f rel.length val.length=false then 2 else 0
def JD (A B:Nat) (op i g:Int):Prop:=op≤13∧KT A B op i g
end Go.Proofs.Wit
namespace Go.Proofs.Wit
structure Li (A B:Nat) (nd:NV):Prop where
  Mu:1≤nd.op
  Lt:nd.op≤13
  fact:nd.op=3→0≤nd.i∧nd.i.toNat<B
  ag:nd.op=9∨nd.op=10→0≤nd.i∧nd.i.toNat<A
  gr:11≤nd.op→1≤nd.g∧nd.g.toNat<2^A
structure fL (g:List NV):Prop where
  jk:aN g=0
  can:g=cg (aS g)
theorem fL.ok {g:List NV} (h:fL g):(aS g).ok:=(aB.1 h.jk).top
theorem fL.of {t:Tr} (h:t.ok) (m:(cg t).length≤200):fL (cg t):=⟨(pI h m).2.1,by rw [(pI h m).2.2]⟩
theorem fL.ah {f:List NV} (h:aN f=0):fL (ah f):=by
 have p:=pC h;have m:=(aB.1 h).len;rw [dG h] at p⊢;exact .of (aB.1 h).top (by omega)
theorem o8 {f:List NV} (h:aN f=0):aS (ah f)=aS f:=by
 rw [dG h];exact iH (aB.1 h).top.wf
theorem fL.len {g:List NV} (h:fL g):g.length≤200:=(aB.1 h.jk).len
theorem fL.nodes {g:List NV} (h:fL g):aK g:=(aB.1 h.jk).nodes
theorem fL.trees {g:List NV} (h:fL g):Wit.trees g=eN (aS g):=by
 have:=h.can;rw [this]
 conv=>rhs;rw [←this]
 exact nE h.ok.wf
theorem fL.sub {g:List NV} (h:fL g) {k:Nat} (hk:k<g.length):fL (bZ g k)∧aS (bZ g k)=aa g k:=by
 have m:(aa g k).ok:=h.nodes.tree k hk;have w:=mW h.nodes.ord hk;have p:=h.len;have e:bZ g k=cg (aa g k):=by
  rw [bZ,if_neg (by simp only [h.jk,ne_eq,not_true_eq_false,false_or];omega),Int.toNat_natCast]
 rw [e];exact ⟨.of m (by omega),iH m.wf⟩
end Go.Proofs.Wit
namespace Go.Proofs.Wit
open Go Go.RowKit
theorem An {c t:Tr} (h:c∈kids t):eN c⊆eN t:=
 fX c (ts:=[]) (iP t).lL ((iP t).lL.mem (vz t) c h) (List.nil_subset _)
theorem jQ {c t:Tr} (h:c∈kids t):(cg c).length≤(cg t).length:=by
 rw [fW,fW];exact (iP c).nd.length_le_of_subset (An h)
theorem jz {t:Tr} (h:200<(cg t).length):bT t=[]:=if_pos h
theorem we {t:Tr} (h:¬200<(cg t).length):bT t=cg t:=if_neg h
theorem wg (t:Tr):(bT t).length≤200:=by
 unfold bT;split;simp;omega
theorem xq {t:Tr}:bT t=[]↔200<(cg t).length:=by
 constructor;intro h;refine Classical.byContradiction (fun hn=>?_);rw [we hn] at h;have:=jP t;rw [h] at this;exact absurd this (by simp);exact jz
theorem lk {n:NV} {gs:List (List NV)} (h:∃g∈gs,aN g≠0):aU n gs=[]:=if_pos h
theorem Ew (n:NV) (gs:List (List NV)):(aU n gs).length≤200:=by
 unfold aU
 repeat' split
 simp;simp;simp;omega
theorem jS {op i e g:Int} {a:Tr} (ha:a.ok) (hop:1≤op∧op≤21) (hX:cS op=true) (hY:cF op=false) (hf:eP op i e g=0):aU ⟨op,i,e,g,0,0⟩ [bT a]=bT (.un op i e g a):=by
 by_cases hl:200<(cg a).length;rw [jz hl,lk ⟨[],by simp,by decide⟩,jz (Nat.lt_of_lt_of_le hl (jQ (by simp [kids])))];obtain ⟨h1,h2,h3⟩:=pI ha (by omega);rw [h1,Jr h2 hop hX hY hf rfl,h3]
theorem dC {op i e g:Int} {a b:Tr} (ha:a.ok) (hb:b.ok) (hop:1≤op∧op≤21) (hY:cF op=true) (hf:eP op i e g=0):aU ⟨op,i,e,g,0,0⟩ [bT a,bT b]=bT (.bin op i e g a b):=by
 by_cases hl:200<(cg a).length;rw [jz hl,lk ⟨[],by simp,by decide⟩,jz (Nat.lt_of_lt_of_le hl (jQ (by simp [kids])))];by_cases hl2:200<(cg b).length;rw [jz hl2,lk ⟨[],by simp,by decide⟩,jz (Nat.lt_of_lt_of_le hl2 (jQ (by simp [kids])))];obtain ⟨h1,h2,h3⟩:=pI ha (by omega);obtain ⟨k1,k2,k3⟩:=pI hb (by omega);rw [h1,k1,Jq h2 k2 hop hY hf,h3,k3]
theorem BY {t:Tr} (h:t.ok):ah (bT t)=bT t:=by
 by_cases hl:200<(cg t).length;rw [jz hl];exact if_pos (by decide);obtain ⟨h1,h2,h3⟩:=pI h (by omega);rw [h1,dG h2,h3]
def nS (a b:List NV):List NV:=aU ⟨5,0,0,0,0,0⟩ [a,b]
def kv:List (List NV)→List NV
 |[]=>aU ⟨1,0,0,0,0,0⟩ []
 |g::gs=>gs.foldl nS (ah g)
def lR:List Tr→Tr
 |[]=>.leaf 1 0 0 0
 |t::ts=>ts.foldl (fun a b=>.bin 5 0 0 0 a b) t
theorem gm {a b:Tr} (ha:a.ok) (hb:b.ok):(Tr.bin 5 0 0 0 a b).ok:=⟨by omega,rfl,rfl,ha,hb⟩
theorem vV:∀{ts:List Tr} {t:Tr},t.ok→(∀u∈ts,u.ok)→(ts.map bT).foldl nS (bT t)=bT (ts.foldl (fun a b=>.bin 5 0 0 0 a b) t)
 |[],_,_,_=>rfl
 |u::us,t,h,hs=>by
  rw [List.map_cons,List.foldl_cons,List.foldl_cons,nS,dC h (hs u (by simp)) (by omega) rfl rfl];exact vV (gm h (hs u (by simp))) (fun v hv=>hs v (by simp [hv]))
theorem tI:∀{ts:List Tr},(∀u∈ts,u.ok)→kv (ts.map bT)=bT (lR ts)
 |[],_=>Hp (n:=⟨1,0,0,0,0,0⟩) (by decide) rfl rfl rfl rfl
 |t::ts,h=>by
  rw [List.map_cons,kv,BY (h t (by simp))];exact vV (h t (by simp)) (fun u hu=>h u (by simp [hu]))
def Fv (a:Option Addr) (cap lo sz:Nat):Option Addr:=if cap=lo then a else a.map (·.add (lo*sz))
theorem Sl.drop {w:World} {a:Option Addr} {xs:List Value} (h:Sl w a xs) {cap lo:Nat} (hc:xs.length≤cap):Sl w (Fv a cap lo 1) (xs.drop lo):=by
 by_cases hl:xs.length≤lo;rw [List.drop_eq_nil_of_le hl];exact Sl.nil _ _;obtain ⟨b,o,rfl,hb⟩:=h.isSome (by omega);have e0:Fv (some ⟨b,o,none⟩) cap lo 1=some ⟨b,o+lo,none⟩:=by
  rw [Fv,if_neg (by omega),Option.map_some,Addr.add,Nat.mul_one];split;rename_i hz;subst hz;rfl;rfl
 rw [e0];refine ⟨fun _=>⟨b,o+lo,rfl,hb⟩,fun i hi=>?_⟩;rw [List.length_drop] at hi;have:=h.cell (lo+i) (by omega);have e1:ny (some ⟨b,o+lo,none⟩) i=ny (some ⟨b,o,none⟩) (lo+i):=by
  simp only [ny,Option.getD_some,Nat.add_assoc]
 rw [e1,this];simp [List.getD_eq_getElem?_getD,List.getElem?_drop]
section
variable {P:Program} {w0:World} {S:List Nat} {n:Nat} {l:Fl} {h:Hl} {ops:Array Oper} {i d:Nat} {ty:TypeId} {pos:String} {aft:Array Edge} {g:Option (Nat×Bool)}
theorem af.FU {t e:TypeId} {x y:Operand} {a:Option Addr} {m cap lo:Nat} {kd:IntKind} {j:Int} {sz:Nat} (ho:ops[i]?=some ⟨some d,.slice t x (some y) none none,ty,pos,aft,g⟩) (hw:aq ops l g=true)
  (hx:aM l x=some (.slice a m cap)) (hy:aM l y=some (.int kd j)) (hd:Nat.blt d n=true) (hu:P.underlying t=some (.slice e)) (he:∀w,(sizeOf e).run P w=.ok sz w) (hj:j=lo) (hc:lo≤m):
  af P w0 S n h ops i l d (.slice (Fv a cap lo sz) (m - lo) (cap - lo)):=
 .of ho hw rfl rfl hd (fun t w Ds _ hF hS=>⟨.value (.slice (Fv a cap lo sz) (m - lo) (cap - lo)),by
  subst hj;simp only [execOp,hF.aM hx,hF.aM hy,Option.map_some,Option.map_none,Instr.sliceAt,Sem.run_bind,run_underlying hu,Result.andThen_ok,Instr.slice,Instr.sliceBounds,Instr.sliceBound,asIntOf,Sem.run_pure];rw [if_pos ⟨by omega,by omega⟩];simp only [Sem.run_pure,Result.andThen_ok,he,Int.toNat_natCast];rfl,rfl⟩)
end
end Go.Proofs.Wit
