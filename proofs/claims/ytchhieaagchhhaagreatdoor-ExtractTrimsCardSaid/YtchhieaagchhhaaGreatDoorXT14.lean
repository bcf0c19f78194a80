/- Laws of walks, for any program, under the conditions that each theorem states. -/
import Derived.Test.YtchhieaagchhhaaGreatDoorXT12
set_option maxRecDepth 100000
set_option maxHeartbeats 4000000
namespace Go.Proofs.Wit
open Go Go.RowKit
theorem Kn {P:Program} {t:TypeId} {a b c:Nat} (ha:a<512) (hb:b<512) (hc:c=a|||b):kD P .or t (.int .i64 a) (.int .i64 b) (.int .i64 c):=by
 subst hc;refine bI _ ?_;have hx:a|||b<2^9:=Nat.or_lt_two_pow (by omega) (by omega);have h1:(BitVec.ofInt 64 (a:Int)).toNat=a:=by
  rw [BitVec.ofInt_natCast,BitVec.toNat_ofNat];exact Nat.mod_eq_of_lt (by omega)
 have h2:(BitVec.ofInt 64 (b:Int)).toNat=b:=by
  rw [BitVec.ofInt_natCast,BitVec.toNat_ofNat];exact Nat.mod_eq_of_lt (by omega)
 rw [binOp_or];show (pure (Value.int .i64 (IntKind.i64.wrap ((BitVec.ofInt 64 (a:Int)|||BitVec.ofInt 64 (b:Int)).toNat:Int))):Sem Value)=_;rw [BitVec.toNat_or,h1,h2,IntWalk.i64_in _ (by omega)]
def CE (n:NV):Nat:=(zS n.op).toNat
theorem ux (op:Int):0≤zS op∧zS op<512:=by
 unfold zS
 repeat' split
 all_goals omega
theorem Bz (n:NV):(CE n:Int)=zS n.op:=by
 have:=ux n.op;unfold CE;omega
def l6 (c:List NV):Nat:=c.foldl (fun a n=>a|||CE n) 0
theorem tf {c:List NV} {n:NV}:l6 (c++[n])=l6 c|||CE n:=by simp [l6]
theorem uw (c:List NV):l6 c<512:=by
 induction c using gV with
 |h0=>decide
 |h1 c n ih=>
  rw [tf];have h2:CE n<2^9:=by have:=ux n.op;unfold CE;omega
  exact Nat.or_lt_two_pow (n:=9) ih h2
theorem oI (f:List NV):(ah f).length≤200:=by
 by_cases h:aN f=0;exact (gu h).len;rw [ah,if_pos h];exact Nat.zero_le _
def Kh:List UInt8:=[48,49,50,51,52,53,54,55,56,57,97,98,99,100,101,102,103,104,105,106,107,108,109,110,111,112,113,114,115,116,117,118,119,120,121,122]
def KT (i:Nat):UInt8:=Kh.getD i 0
def GW (n:Nat):List UInt8:=if n<16 then [KT n] else GW (n / 16)++[KT (n%16)]
termination_by n
section
variable {P:Program} {r:Option Nat} {f:FuncId} {R:Value→World→Prop} {w0:World} {S:List Nat} {Y:List (Nat×Obj)} {n:Nat} {k:List Item} {l:Fl} {h:Hl}
variable {ops:Array Oper} {i d:Nat} {rest:List Nat} {ty:TypeId} {pos:String} {aft:Array Edge} {g:Option (Nat×Bool)} {t:TypeId}
end
structure LS (ks:Nat→List UInt8) (n:Nat) (L:List (List UInt8×Nat)) (l:List Int) (k:Nat):Prop where
  len:l.length=n
  le:k≤n
  lt:∀x v,bC (fun a b=>a==b) L x=some v→v<L.length
  inj:∀x y v,bC (fun a b=>a==b) L x=some v→bC (fun a b=>a==b) L y=some v→x=y
  at_:∀i,i<k→∃v:Nat,l.getD i 0=v∧bC (fun a b=>a==b) L (ks i)=some v
section
variable {P:Program} {t:TypeId}
theorem ze (x:Nat):BitVec.ofInt 64 (x:Int)=BitVec.ofNat 64 x:=by
 apply BitVec.eq_of_toNat_eq;simp
theorem Jg {x j:Nat} {b:Int} {k:IntKind} (h:b=j) (hx:x*2^j<9223372036854775808) (hj:j≤64):kD P .shl t (.int .i64 x) (.int k b) (.int .i64 ((x*2^j:Nat):Int)):=by
 subst h;refine lk (fun p q=>uB _ _ _ _ _ _ _ _) ?_;show Op.shift .shl .i64 (x:Int) k (j:Int)=_;unfold Op.shift;rw [if_neg (by omega),Int.toNat_natCast];show pure (Value.int .i64 (IntKind.i64.wrap ((x:Int)*2^(min j 64))))=_;rw [Nat.min_eq_left hj];have e1:((x:Int)*2^j)=((x*2^j:Nat):Int):=by norm_cast
 rw [e1,IntWalk.i64_in _ (by omega)]
end
end Go.Proofs.Wit
namespace Go.Proofs.Wit
def J9 (r s z:List aC) (v w:Nat):Bool:=(eC (r.getD v 0#64)).all (fun x=>z.getD x 0#64 &&& s.getD w 0#64 !=0#64) && (s.getD w 0#64 &&& ~~~ wP z (r.getD v 0#64)==0#64)
def DO (va vb:List aC) (ra rb:List (List aC)) (z:List aC) (v w:Nat):Bool:=(fm va v==fm vb w) && (List.range ra.length).all (fun i=>J9 (ra.getD i []) (rb.getD i []) z v w)
def LW (l c:List aC):Prop:=∀u v,Rl l u v→Rl c u v
section
variable {va vb:List aC} {ra rb:List (List aC)}
def Kw (va vb:List aC) (ra rb:List (List aC)) (z:List aC):Prop:=∀v w,Rl z v w→DO va vb ra rb z v w=true
structure KD (va vb:List aC) (ra rb:List (List aC)) (na nb:Nat) (z:List aC):Prop where
  len:z.length=na
  Ma:∀v w,Rl z v w→w<nb
  top:∀z':List aC,z'.length=na→(∀v w,Rl z' v w→w<nb)→Kw va vb ra rb z'→LW z' z
theorem DB {w i:Nat} (hw:w<64):(1#64<<<w).getLsbD i=decide (i=w):=by
 rw [BitVec.getLsbD_shiftLeft];by_cases e:i=w;subst e;simp [hw];rw [decide_eq_false e];by_cases h1:i<64;by_cases h2:i<w;simp [h1,h2];have h:i - w≠0:=by omega
 simp [h1,h2,h];simp [h1]
end
def C5 (z:List aC):Nat:=(z.map BitVec.toNat).sum
structure Fp (va vb:List aC) (ra rb:List (List aC)) (na nb:Nat) (z0 z:List aC) (ch:Bool) (k:Nat):Prop where
  inv:KD va vb ra rb na nb z
  le:C5 z≤C5 z0
  Mn:ch=true→C5 z<C5 z0
  same:ch=false→∀v w,v<k→Rl z v w→DO va vb ra rb z v w=true
structure LK (va vb:List aC) (ra rb:List (List aC)) (na nb:Nat) (z0:List aC) (k:Nat) (s:aC) (i:Nat) (z:List aC) (ch:Bool):Prop where
  pR:Fp va vb ra rb na nb z0 z ch k
  row:∀w,Rl z k w→s.getLsbD w=true
  left:∀w∈(eC s).drop i,Rl z k w
  done:ch=false→∀w∈(eC s).take i,DO va vb ra rb z k w=true
section
variable {va vb:List aC} {ra rb:List (List aC)} {na nb k i:Nat} {z0 z:List aC} {s:aC} {ch:Bool}
end
end Go.Proofs.Wit
namespace Go.Proofs.Wit
open Go Go.RowKit
section
variable {P:Program} {t:TypeId}
theorem Jh {x:aC}:kD P .rem t (U x) (U 2#64) (U (x &&& 1#64)):=bU _ (by
 show Op.intDiv .rem .u64 (x.toNat:Int) 2=_;unfold Op.intDiv;rw [if_neg (by decide)];show pure (Value.int .u64 ((x.toNat:Int).tmod 2))=pure (Value.int .u64 ((x &&& 1#64).toNat:Int));rw [show (x.toNat:Int).tmod 2=((x.toNat%2:Nat):Int) from rfl,BitVec.toNat_and];rw [show (1#64:aC).toNat=1 from rfl,Nat.and_one_is_mod])
end
section
variable {κ:Type} [DecidableEq κ]
structure Down (key:Nat→κ) (i:Nat) (j:Int) (low:Nat):Prop where
  lo:j<low
  hi:low≤i
  eq:key low=key i
  min:∀m:Nat,j<m→m≤i→key m=key i→low≤m
omit [DecidableEq κ] in
end
structure LM (va vb:List aC) (ra rb:List (List aC)) (na nb:Nat) (z0:List aC) (k j:Nat) (z:List aC) (ch:Bool):Prop where
  pR:Fp va vb ra rb na nb z0 z ch k
  done:ch=false→∀w,w<j→Rl z k w→DO va vb ra rb z k w=true
section
variable {va vb:List aC} {ra rb:List (List aC)} {na nb k j:Nat} {z0 z:List aC} {ch:Bool}
end
section
variable {P:Program} {t:TypeId}
theorem Fj {x j:Nat} {b:Int} {k:IntKind} (h:b=j) (_hx:x<9223372036854775808) (hj:j≤64):kD P .shr t (.int .i64 x) (.int k b) (.int .i64 ((x / 2^j:Nat):Int)):=by
 subst h;refine lk (fun p q=>uB _ _ _ _ _ _ _ _) ?_;show Op.shift .shr .i64 (x:Int) k (j:Int)=_;unfold Op.shift;rw [if_neg (by omega),Int.toNat_natCast];show pure (Value.int .i64 ((x:Int).fdiv (2^(min j 64))))=_;rw [Nat.min_eq_left hj];have e1:((2:Int)^j)=((2^j:Nat):Int):=by norm_cast
 rw [e1,←Int.ofNat_fdiv]
theorem Cj {x:Nat} (hx:x<9223372036854775808):kD P .and t (.int .i64 x) (.int .i64 1) (.int .i64 ((x%2:Nat):Int)):=bI _ (by
 show Op.intBits .and .i64 (x:Int) 1=_;unfold Op.intBits;have e1:(BitVec.ofInt 64 (x:Int) &&& BitVec.ofInt 64 1).toNat=x%2:=by
  rw [ze,show BitVec.ofInt 64 1=BitVec.ofNat 64 1 from rfl,BitVec.toNat_and,BitVec.toNat_ofNat,BitVec.toNat_ofNat,Nat.mod_eq_of_lt (by omega),Nat.mod_eq_of_lt (by omega),Nat.and_one_is_mod]
 show pure (Value.int .i64 (IntKind.i64.wrap ((BitVec.ofInt 64 (x:Int) &&& BitVec.ofInt 64 1).toNat:Int)))=_;rw [e1,IntWalk.i64_in _ (by omega)])
end
def gb (g k:Nat):Nat:=g / 2^k%2
def IJ (n:Nat) (rel:List (List aC)) (g w:Nat) (k:Nat):aC:=wi (fun a (o:aC)=>if gb g a=1 then o &&& (rel.getD a []).getD w 0#64 else o) (Cm n) k
def Gp (n:Nat) (rel:List (List aC)) (g k:Nat):List aC:=(List.range n).map (fun w=>IJ n rel g w k)
def IK (n:Nat) (rel:List (List aC)) (g:Nat):List aC:=Gp n rel g rel.length
section
variable {n:Nat} {rel:List (List aC)} {g k w:Nat}
end
section
variable {P:Program} {r:Option Nat} {f:FuncId} {R:Value→World→Prop} {w0:World} {S:List Nat} {Y:List (Nat×Obj)} {n:Nat} {k:List Item} {l:Fl} {h:Hl}
variable {ops:Array Oper} {i d:Nat} {rest:List Nat} {ty:TypeId} {pos:String} {aft:Array Edge} {g:Option (Nat×Bool)}
end
end Go.Proofs.Wit
namespace Go.Proofs.Wit
open Go
theorem xQ {w i:Nat} (hw:w<64):(1#64<<<w).getLsbD i=true↔i=w:=by rw [DB hw];simp
def Ij (q:Nat→Bool) (n:Nat):aC:=wi (fun w (o:aC)=>if q w=true then o|||1#64<<<w else o) 0#64 n
def Ey (r:List aC) (n:Nat) (s:aC):aC:=Ij (fun w=>r.getD w 0#64 &&& ~~~s==0#64) n
def Iq (r:List aC) (c:aC) (n:Nat) (s:aC):aC:=wi (fun w (o:aC)=>if o.getLsbD w=true then o|||(r.getD w 0#64 &&& c) else o) s n
def F8 (r:List aC) (n v:Nat) (c:aC) (k:Nat):aC:=wi (fun _ (o:aC)=>Iq r c n o) (r.getD v 0#64 &&& c) k
def Iu (r:List aC) (n v:Nat) (c:aC):aC:=F8 r n v c n
def Kj (r:List aC) (n:Nat) (c s:aC):aC:=Ij (fun w=>Iu r n w c &&& ~~~s==0#64) n
inductive Hu (r:List aC) (c:aC) (v:Nat):Nat→Prop where
  |one {u:Nat} (h:Rl r v u) (hc:c.getLsbD u=true):Hu r c v u
  |step {u x:Nat} (h:Hu r c v u) (h2:Rl r u x) (hc:c.getLsbD x=true):Hu r c v x
def IQ (rel:List (List aC)) (g w:Nat) (k:Nat):aC:=wi (fun a (o:aC)=>if gb g a=1 then o|||(rel.getD a []).getD w 0#64 else o) 0#64 k
def GA (n:Nat) (rel:List (List aC)) (g k:Nat):List aC:=(List.range n).map (fun w=>IQ rel g w k)
def Fb (n:Nat) (rel:List (List aC)) (g:Nat):List aC:=GA n rel g rel.length
def Jc (op:Int) (x y all:aC):aC:=if op=1 then all else if op=4 then all &&& ~~~x else if op=5 then x &&& y else if op=6 then x|||y else if op=7 then (all &&& ~~~x)|||y else if op=8 then all &&& ~~~(x^^^y) else 0#64
def Gb (n:Nat) (val:List aC) (rel:List (List aC)) (op i g:Int) (x y:aC):aC:=
 if op=3 then val.getD i.toNat 0#64 else if op≤8 then Jc op x y (Cm n)
 else if op=9 then Ey (rel.getD i.toNat []) n x else if op=10 then Cm n &&& ~~~Ey (rel.getD i.toNat []) n (Cm n &&& ~~~x)
 else if op=11 then Ey (Fb n rel g.toNat) n x else if op=12 then Ey (IK n rel g.toNat) n x else Kj (Fb n rel g.toNat) n x y
def As (n:Nat) (val:List aC) (rel:List (List aC)):Tr→aC
 |.leaf op i _ g=>Gb n val rel op i g 0#64 0#64
 |.un op i _ g a=>Gb n val rel op i g (As n val rel a) 0#64
 |.bin op i _ g a b=>Gb n val rel op i g (As n val rel a) (As n val rel b)
abbrev KA (p:List Int) (v w:Nat):Prop:=p.getD v 0=p.getD w 0
structure Mt (n:Nat) (p' p:List Int) (R:List aC):Prop where
  fb:∀v w,v<n→w<n→KA p' v w→∀u,Rl R v u→∃u',Rl R w u'∧KA p u u'
def LX (n:Nat) (p:List Int) (s:aC):Prop:=∀v w,v<n→w<n→KA p v w→s.getLsbD v=true→s.getLsbD w=true
section
variable {n:Nat} {p p':List Int} {s t c:aC} {R:List aC}
end
section
variable {n:Nat} {val:List aC} {pS:List (List aC)}
end
def kA (q:Int→Int→Int→Prop):Tr→Prop
 |.leaf op i _ g=>q op i g
 |.un op i _ g a=>q op i g∧kA q a
 |.bin op i _ g a b=>q op i g∧kA q a∧kA q b
def J3 (op:Int):Nat:=if 9≤op∧op≤15∨18≤op then 1 else 0
def Ek:Tr→Nat
 |.leaf op _ _ _=>J3 op
 |.un op _ _ _ a=>Ek a+J3 op
 |.bin op _ _ _ a b=>max (Ek a) (Ek b)+J3 op
def HO (q:Int→Int→Int→Prop):Tr→Prop
 |.leaf op i _ g=>q op i g
 |.un op i _ g _=>q op i g
 |.bin op i _ g _ _=>q op i g
theorem kA.HO {q:Int→Int→Int→Prop}:∀{t:Tr},kA q t→Wit.HO q t
 |.leaf ..,h=>h
 |.un ..,h=>h.1
 |.bin ..,h=>h.1
theorem kA.vz {q:Int→Int→Int→Prop}:∀{t c:Tr},kA q t→c∈kids t→kA q c
 |.leaf ..,_,_,hc=>by cases hc
 |.un ..,_,h,hc=>by rw [List.mem_singleton.1 hc];exact h.2
 |.bin ..,_,h,hc=>by
  simp only [kids,List.mem_cons,List.not_mem_nil,or_false] at hc;rcases hc with rfl|rfl;exact h.2.1;exact h.2.2
theorem mM.kA {q:Int→Int→Int→Prop} {ts:List Tr} (hc:mM ts) (h:∀u∈ts,Wit.HO q u):∀t:Tr,t∈ts→Wit.kA q t
 |.leaf ..,m=>h _ m
 |.un _ _ _ _ a,m=>⟨h _ m,hc.kA h a (hc.mem m a (by simp [kids]))⟩
 |.bin _ _ _ _ a b,m=>⟨h _ m,hc.kA h a (hc.mem m a (by simp [kids])),hc.kA h b (hc.mem m b (by simp [kids]))⟩
theorem vu (t:Tr):t∈eM t:=(iW t).mem
theorem zH {q:Int→Int→Int→Prop} {t:Tr}:kA q t↔∀u∈eM t,HO q u:=
 ⟨fun h u hu=>(sG (fun _ m _ hc=>m.vz hc) t h (fun u hu=>by cases hu) u hu).HO,fun h=>(iW t).lR.kA h t (vu t)⟩
theorem rr {q:Int→Int→Int→Prop} {ts:List Tr}:∀{u:Tr},HO q u↔q (aH ts u).op (aH ts u).i (aH ts u).g
 |.leaf ..=>Iff.rfl
 |.un ..=>Iff.rfl
 |.bin ..=>Iff.rfl
theorem Co {q:Int→Int→Int→Prop} {t:Tr}:kA q t↔∀n∈cm t,q n.op n.i n.g:=by
 rw [zH];show _↔∀n∈ar (eM t),_;unfold ar;constructor;intro h n m;obtain ⟨u,hu,rfl⟩:=List.mem_map.1 m;exact rr.1 (h u hu);intro h u hu;exact rr.2 (h _ (List.mem_map_of_mem hu))
def E2 (h:NV→Nat) (c:List NV):Nat:=c.foldl (fun a n=>a|||h n) 0
theorem AP {h:NV→Nat} {c:List NV} {n:NV}:E2 h (c++[n])=E2 h c|||h n:=by simp [E2]
theorem xP {h:NV→Nat} {j:Nat} {c:List NV}:(E2 h c).testBit j=true↔∃n∈c,(h n).testBit j=true:=by
 induction c using gV with
 |h0=>simp [E2]
 |h1 c n p=>
  rw [AP,Nat.testBit_or,Bool.or_eq_true,p];simp only [List.mem_append,List.mem_singleton];constructor;rintro (⟨m,h1,h2⟩|h1);exact ⟨m,.inl h1,h2⟩;exact ⟨n,.inr rfl,h1⟩;rintro ⟨m,h1|rfl,h2⟩;exact .inl ⟨m,h1,h2⟩;exact .inr h2
def Lr (n:NV):Nat:=if n.op=3 then 2^n.i.toNat else 0
def LC (n:NV):Nat:=(if np n.op=true then 2^n.i.toNat else 0)|||n.g.toNat
structure Jx (op i e g:Int):Prop where
  i0:iO op=false→i=0
  e0:op≠17→e=0
  g0:jL op=false→g=0
  fact:op=3→0≤i∧i<8
  ag:np op=true→0≤i∧i<4
  act:op=17→(0≤i∧i<8)∧0≤e∧e<8
  gr:jL op=true→1≤g∧g<16
theorem fC {op i e g:Int} (h:eR op i e g=0):Jx op i e g:=by
 unfold eR at h;split at h;cases h;rename_i h1;split at h;cases h;rename_i h2;simp only [Bool.or_eq_true,Bool.and_eq_true,Bool.not_eq_true',bne_iff_ne,ne_eq,beq_iff_eq,not_or,not_and,Bool.and_eq_false_iff,decide_eq_false_iff_not,Classical.not_not] at h1 h2;obtain ⟨⟨F,E⟩,D⟩:=h1;obtain ⟨⟨⟨C,w⟩,p⟩,m⟩:=h2;refine ⟨F,E,D,fun e=>?_,fun e=>?_,fun e=>?_,fun e=>?_⟩;have:=C e;omega;have:=w e;omega;have:=p e;omega;have:=m e;omega
def KN (m k A:Nat):Bool:=(List.range k).all (fun i=>gb m i !=1||decide (i<A))
def I4 (f:List NV) (A B:Nat):Bool:=aN f==0 && (KN (E2 LC (ah f)) 4 A && KN (E2 Lr (ah f)) 8 B)
def KE (A B:Nat) (op i g:Int):Prop:=(np op=true→i.toNat<A)∧(op=3→i.toNat<B)∧g.toNat<2^A
theorem aP.K9 {f:List NV} (h:aP f):∀n∈f,1≤n.op∧n.op≤21:=fun n m=>by
 obtain ⟨i,hi,rfl⟩:=List.mem_iff_getElem.1 m;exact (h i hi).op
def lp (a b:Nat):Nat:=a &&& (511^^^b)
theorem pD {a b:Nat} (ha:a<512):lp a b=0↔∀i,a.testBit i=true→b.testBit i=true:=by
 have m:∀i,(511:Nat).testBit i=decide (i<9):=fun i=>by
  rw [show (511:Nat)=2^9 - 1 from rfl,Nat.testBit_two_pow_sub_one]
 constructor;intro h i hi;have p:i<9:=by
  refine Classical.byContradiction (fun hc=>?_);rw [Nat.testBit_lt_two_pow (Nat.lt_of_lt_of_le ha (by show 2^9≤2^i;exact Nat.pow_le_pow_right (by decide) (by omega)))] at hi;cases hi
 have:=congrArg (fun x=>x.testBit i) h;simp only [lp,Nat.testBit_and,Nat.testBit_xor,hi,m,p,decide_true,Nat.zero_testBit,Bool.true_and,Bool.true_bne] at this;simpa using this;intro h;refine Nat.eq_of_testBit_eq (fun i=>?_);rw [lp,Nat.testBit_and,Nat.testBit_xor,m,Nat.zero_testBit];cases e:a.testBit i with
 |false=>rfl
 |true=>
  rw [h i e];have p:i<9:=by
   refine Classical.byContradiction (fun hc=>?_);rw [Nat.testBit_lt_two_pow (Nat.lt_of_lt_of_le ha (by show 2^9≤2^i;exact Nat.pow_le_pow_right (by decide) (by omega)))] at e;cases e
  simp [p]
theorem By (n:NV):CE n<512:=by
 have:=ux n.op;have:=Bz n;omega
theorem Bw {c:List NV} {b:Nat}:lp (l6 c) b=0↔∀n∈c,lp (CE n) b=0:=by
 rw [pD (uw c)];constructor;intro h n m;rw [pD (By n)];exact fun i hi=>h i (xP.2 ⟨n,m,hi⟩);intro h i hi;obtain ⟨n,m,hb⟩:=xP.1 (show (E2 CE c).testBit i=true from hi);exact (pD (By n)).1 (h n m) i hb
theorem AR {p:Int→Prop} (h:∀k:Nat,k<21→p ((k:Int)+1)) {op:Int} (ho:1≤op∧op≤21):p op:=by
 have:=h (op.toNat - 1) (by omega);rw [show (((op.toNat - 1:Nat):Int)+1)=op by omega] at this;exact this
theorem D9 {t:Tr} {b:Nat} {r:Int→Prop} (w:t.ok) (p:∀{op:Int},(1≤op∧op≤21)→(lp (zS op).toNat b=0↔r op)):lp (l6 (cm t)) b=0↔kA (fun op _ _=>r op) t:=by
 rw [Bw,Co];have ho:=(nN w).K9;exact ⟨fun h n m=>(p (ho n m)).1 (h n m),fun h n m=>(p (ho n m)).2 (h n m)⟩
theorem Ci {P:Program} {t:TypeId} {a b:Nat} (ha:a<512) (hb:b<512):kD P .andNot t (.int .i64 a) (.int .i64 b) (.int .i64 (lp a b)):=by
 refine bI _ ?_;have h1:(BitVec.ofInt 64 (a:Int)).toNat=a:=by
  rw [BitVec.ofInt_natCast,BitVec.toNat_ofNat];exact Nat.mod_eq_of_lt (by omega)
 have h2:BitVec.ofInt 64 (b:Int)=BitVec.ofNat 64 b:=BitVec.ofInt_natCast ..;have h0:BitVec.ofInt 64 (a:Int)=BitVec.ofNat 64 a:=BitVec.ofInt_natCast ..;have hx:lp a b<2^9:=Nat.and_lt_two_pow _ (by show 511^^^b<2^9;exact Nat.xor_lt_two_pow (by decide) (by omega));have h:(BitVec.ofInt 64 (a:Int) &&& ~~~ BitVec.ofInt 64 (b:Int))=BitVec.ofNat 64 (lp a b):=by
  rw [h0,h2];apply BitVec.eq_of_getLsbD_eq;intro i hi;rw [BitVec.getLsbD_and,BitVec.getLsbD_not,BitVec.getLsbD_ofNat,BitVec.getLsbD_ofNat,BitVec.getLsbD_ofNat,lp,Nat.testBit_and,Nat.testBit_xor,show (511:Nat)=2^9 - 1 from rfl,Nat.testBit_two_pow_sub_one];have p:¬i<9→a.testBit i=false:=fun hc=>Nat.testBit_lt_two_pow (Nat.lt_of_lt_of_le ha (by show 2^9≤2^i;exact Nat.pow_le_pow_right (by decide) (by omega)));by_cases m:i<9;simp [hi,m];simp [hi,p m]
 show (binOp .andNot t (.int .i64 a) (.int .i64 b))=_;show (pure (Value.int .i64 (IntKind.i64.wrap ((BitVec.ofInt 64 (a:Int) &&& ~~~ BitVec.ofInt 64 (b:Int)).toNat:Int))):Sem Value)=_;rw [h,BitVec.toNat_ofNat,Nat.mod_eq_of_lt (by omega),IntWalk.i64_in _ (by omega)]
def IX (n:Int) (val:List aC) (rel:List (List aC)) (f:List NV):Int:=
 if B1 n val rel≠0 then B1 n val rel else if aN f≠0 then aN f else if lp (l6 (ah f)) 15≠0 then 10 else if I4 f rel.length val.length=false then 2 else 0
def Jq (A B:Nat) (op i g:Int):Prop:=op≤13∧KE A B op i g
end Go.Proofs.Wit
namespace Go.Proofs.Wit
structure KZ (A B:Nat) (nd:NV):Prop where
  Md:1≤nd.op
  Lc:nd.op≤13
  fact:nd.op=3→0≤nd.i∧nd.i.toNat<B
  ag:nd.op=9∨nd.op=10→0≤nd.i∧nd.i.toNat<A
  gr:11≤nd.op→1≤nd.g∧nd.g.toNat<2^A
structure jl (g:List NV):Prop where
  jt:aN g=0
  can:g=cm (bu g)
theorem jl.ok {g:List NV} (h:jl g):(bu g).ok:=(aB.1 h.jt).top
theorem jl.of {t:Tr} (h:t.ok) (m:(cm t).length≤200):jl (cm t):=⟨(pC h m).2.1,by rw [(pC h m).2.2]⟩
theorem jl.ah {f:List NV} (h:aN f=0):jl (ah f):=by
 have p:=pv h;have m:=(aB.1 h).len;rw [dG h] at p⊢;exact .of (aB.1 h).top (by omega)
theorem sH {f:List NV} (h:aN f=0):bu (ah f)=bu f:=by
 rw [dG h];exact jK (aB.1 h).top.wf
theorem jl.len {g:List NV} (h:jl g):g.length≤200:=(aB.1 h.jt).len
theorem jl.nodes {g:List NV} (h:jl g):aP g:=(aB.1 h.jt).nodes
theorem jl.trees {g:List NV} (h:jl g):Wit.trees g=eM (bu g):=by
 have:=h.can;rw [this]
 conv=>rhs;rw [←this]
 exact ny h.ok.wf
end Go.Proofs.Wit
namespace Go.Proofs.Wit
open Go Go.RowKit
theorem Ah {c t:Tr} (h:c∈kids t):eM c⊆eM t:=
 fS c (ts:=[]) (iW t).lR ((iW t).lR.mem (vu t) c h) (List.nil_subset _)
theorem jW {c t:Tr} (h:c∈kids t):(cm c).length≤(cm t).length:=by
 rw [fR,fR];exact (iW c).nd.length_le_of_subset (Ah h)
theorem jF {t:Tr} (h:200<(cm t).length):bT t=[]:=if_pos h
theorem v3 {t:Tr} (h:¬200<(cm t).length):bT t=cm t:=if_neg h
theorem v5 (t:Tr):(bT t).length≤200:=by
 unfold bT;split;simp;omega
theorem xi {t:Tr}:bT t=[]↔200<(cm t).length:=by
 constructor;intro h;refine Classical.byContradiction (fun hn=>?_);rw [v3 hn] at h;have:=jV t;rw [h] at this;exact absurd this (by simp);exact jF
theorem lh {n:NV} {gs:List (List NV)} (h:∃g∈gs,aN g≠0):aU n gs=[]:=if_pos h
theorem Ez (n:NV) (gs:List (List NV)):(aU n gs).length≤200:=by
 unfold aU
 repeat' split
 simp;simp;simp;omega
theorem jY {op i e g:Int} {a:Tr} (ha:a.ok) (hop:1≤op∧op≤21) (hX:dh op=true) (hY:cD op=false) (hf:eR op i e g=0):aU ⟨op,i,e,g,0,0⟩ [bT a]=bT (.un op i e g a):=by
 by_cases hl:200<(cm a).length;rw [jF hl,lh ⟨[],by simp,by decide⟩,jF (Nat.lt_of_lt_of_le hl (jW (by simp [kids])))];obtain ⟨h1,h2,h3⟩:=pC ha (by omega);rw [h1,Je h2 hop hX hY hf rfl,h3]
theorem dC {op i e g:Int} {a b:Tr} (ha:a.ok) (hb:b.ok) (hop:1≤op∧op≤21) (hY:cD op=true) (hf:eR op i e g=0):aU ⟨op,i,e,g,0,0⟩ [bT a,bT b]=bT (.bin op i e g a b):=by
 by_cases hl:200<(cm a).length;rw [jF hl,lh ⟨[],by simp,by decide⟩,jF (Nat.lt_of_lt_of_le hl (jW (by simp [kids])))];by_cases hl2:200<(cm b).length;rw [jF hl2,lh ⟨[],by simp,by decide⟩,jF (Nat.lt_of_lt_of_le hl2 (jW (by simp [kids])))];obtain ⟨h1,h2,h3⟩:=pC ha (by omega);obtain ⟨k1,k2,k3⟩:=pC hb (by omega);rw [h1,k1,Jd h2 k2 hop hY hf,h3,k3]
theorem BW {t:Tr} (h:t.ok):ah (bT t)=bT t:=by
 by_cases hl:200<(cm t).length;rw [jF hl];exact if_pos (by decide);obtain ⟨h1,h2,h3⟩:=pC h (by omega);rw [h1,dG h2,h3]
def nS (a b:List NV):List NV:=aU ⟨5,0,0,0,0,0⟩ [a,b]
def kz:List (List NV)→List NV
 |[]=>aU ⟨1,0,0,0,0,0⟩ []
 |g::gs=>gs.foldl nS (ah g)
def lW:List Tr→Tr
 |[]=>.leaf 1 0 0 0
 |t::ts=>ts.foldl (fun a b=>.bin 5 0 0 0 a b) t
theorem gh {a b:Tr} (ha:a.ok) (hb:b.ok):(Tr.bin 5 0 0 0 a b).ok:=⟨by omega,rfl,rfl,ha,hb⟩
theorem vK:∀{ts:List Tr} {t:Tr},t.ok→(∀u∈ts,u.ok)→(ts.map bT).foldl nS (bT t)=bT (ts.foldl (fun a b=>.bin 5 0 0 0 a b) t)
 |[],_,_,_=>rfl
 |u::us,t,h,hs=>by
  rw [List.map_cons,List.foldl_cons,List.foldl_cons,nS,dC h (hs u (by simp)) (by omega) rfl rfl];exact vK (gh h (hs u (by simp))) (fun v hv=>hs v (by simp [hv]))
theorem tz:∀{ts:List Tr},(∀u∈ts,u.ok)→kz (ts.map bT)=bT (lW ts)
 |[],_=>He (n:=⟨1,0,0,0,0,0⟩) (by decide) rfl rfl rfl rfl
 |t::ts,h=>by
  rw [List.map_cons,kz,BW (h t (by simp))];exact vK (h t (by simp)) (fun u hu=>h u (by simp [hu]))
def Fm (a:Option Addr) (cap lo sz:Nat):Option Addr:=if cap=lo then a else a.map (·.add (lo*sz))
theorem Sl.drop {w:World} {a:Option Addr} {xs:List Value} (h:Sl w a xs) {cap lo:Nat} (hc:xs.length≤cap):Sl w (Fm a cap lo 1) (xs.drop lo):=by
 by_cases hl:xs.length≤lo;rw [List.drop_eq_nil_of_le hl];exact Sl.nil _ _;obtain ⟨b,o,rfl,hb⟩:=h.isSome (by omega);have e0:Fm (some ⟨b,o,none⟩) cap lo 1=some ⟨b,o+lo,none⟩:=by
  rw [Fm,if_neg (by omega),Option.map_some,Addr.add,Nat.mul_one];split;rename_i hz;subst hz;rfl;rfl
 rw [e0];refine ⟨fun _=>⟨b,o+lo,rfl,hb⟩,fun i hi=>?_⟩;rw [List.length_drop] at hi;have:=h.cell (lo+i) (by omega);have e1:nq (some ⟨b,o+lo,none⟩) i=nq (some ⟨b,o,none⟩) (lo+i):=by
  simp only [nq,Option.getD_some,Nat.add_assoc]
 rw [e1,this];simp [List.getD_eq_getElem?_getD,List.getElem?_drop]
section
variable {P:Program} {w0:World} {S:List Nat} {n:Nat} {l:Fl} {h:Hl} {ops:Array Oper} {i d:Nat} {ty:TypeId} {pos:String} {aft:Array Edge} {g:Option (Nat×Bool)}
theorem af.FN {t e:TypeId} {x y:Operand} {a:Option Addr} {m cap lo:Nat} {kd:IntKind} {j:Int} {sz:Nat} (ho:ops[i]?=some ⟨some d,.slice t x (some y) none none,ty,pos,aft,g⟩) (hw:au ops l g=true)
  (hx:aO l x=some (.slice a m cap)) (hy:aO l y=some (.int kd j)) (hd:Nat.blt d n=true) (hu:P.underlying t=some (.slice e)) (he:∀w,(sizeOf e).run P w=.ok sz w) (hj:j=lo) (hc:lo≤m):
  af P w0 S n h ops i l d (.slice (Fm a cap lo sz) (m - lo) (cap - lo)):=
 .of ho hw rfl rfl hd (fun t w Ds _ hF hS=>⟨.value (.slice (Fm a cap lo sz) (m - lo) (cap - lo)),by
  subst hj;simp only [execOp,hF.aO hx,hF.aO hy,Option.map_some,Option.map_none,Instr.sliceAt,Sem.run_bind,run_underlying hu,Result.andThen_ok,Instr.slice,Instr.sliceBounds,Instr.sliceBound,asIntOf,Sem.run_pure];rw [if_pos ⟨by omega,by omega⟩];simp only [Sem.run_pure,Result.andThen_ok,he,Int.toNat_natCast];rfl,rfl⟩)
end
end Go.Proofs.Wit
