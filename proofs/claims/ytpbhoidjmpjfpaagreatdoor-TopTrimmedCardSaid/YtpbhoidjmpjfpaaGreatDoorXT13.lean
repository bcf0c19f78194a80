/- Laws of walks, each under its own conditions. -/
import Derived.Test.YtpbhoidjmpjfpaaGreatDoorXT11
set_option maxRecDepth 100000
set_option maxHeartbeats 40000000
namespace Go.Proofs.Wit
open Go Go.RowKit
theorem Lk{P:av}{t:ax}{a b c:Nat}(ha:a<512)(hb:b<512)(hc:c=a|||b):nE P .or t (aS a) (aS b) (aS c):=by
 subst hc;refine bI _ ?_;have hx:a|||b<2^9:=Nat.or_lt_two_pow aH aH;have h1:(BitVec.ofInt 64 (a:Int)).toNat=a:=by
  rw[ct,cN];exact dz aH
 have h2:(BitVec.ofInt 64 (b:Int)).toNat=b:=by
  rw[ct,cN];exact dz aH
 rw[binOp_or];show(pure (Value.int .i64 (IntKind.i64.wrap ((BitVec.ofInt 64 (a:Int)|||BitVec.ofInt 64 (b:Int)).toNat:Int))):Sem aC)=_;rw[BitVec.toNat_or,h1,h2,IntWalk.i64_in _ aH]
def Gz(n:NV):Nat:=(B2 n.op).toNat
theorem yl(op:Int):0<=B2 op/\B2 op<512:=by
 unfold B2
 repeat' split
 all_goals omega
theorem Fb(n:NV):(Gz n:Int)=B2 n.op:=by
 have:=yl n.op;unfold Gz;omega
def nH(c:List NV):Nat:=c.foldl (λa n=>a|||Gz n) 0
theorem xl{c:List NV}{n:NV}:nH (c++[n])=nH c|||Gz n:=by simp[nH]
theorem sx(c:List NV):nH c<512:=by
 induction c using lH with
 |h0=>decide
 |h1 c n ih=>
  rw[xl];have h2:Gz n<2^9:=by have:=yl n.op;unfold Gz;omega
  exact Nat.or_lt_two_pow (n:=9) ih h2
theorem v7(f:List NV):(eE f).length<=200:=by
 by_cases h:fK f=0;exact(mx h).len;rw[eE,if_pos h];exact aG
def OT:List UInt8:=[48,49,50,51,52,53,54,55,56,57,97,98,99,100,101,102,103,104,105,106,107,108,109,110,111,112,113,114,115,116,117,118,119,120,121,122]
def Pw(i:Nat):UInt8:=OT.getD i 0
def KO(n:Nat):List UInt8:=if n<16 then [Pw n]else KO (n / 16)++[Pw (n%16)]
termination_by n
section
variable{P:av}{r:ah}{f:ay}{R:aC->aB->Prop}{w0:aB}{S:aq}{Y:List (Nat×Obj)}{n:Nat}{k:al}{l:Fl}{h:Hl}
variable{ops:aj}{i d:Nat}{rest:aq}{ty:ax}{pos:aA}{aft:ak}{g:Option (Nat×Bool)}{t:ax}
end
structure Qw (ks:Nat->List UInt8) (n:Nat) (L:List (List UInt8×Nat)) (l:ar) (k:Nat):Prop where
  len:l.length=n
  le:k<=n
  lt:∀x v,gL (λa b=>a==b) L x=some v->v<L.length
  inj:∀x y v,gL (λa b=>a==b) L x=some v->gL (λa b=>a==b) L y=some v->x=y
  at_:∀i,i<k->∃v:Nat,l.getD i 0=v/\gL (λa b=>a==b) L (ks i)=some v
section
variable{P:av}{t:ax}
theorem CZ(x:Nat):BitVec.ofInt 64 (x:Int)=BitVec.ofNat 64 x:=by
 apply BitVec.eq_of_toNat_eq;simp
theorem NP{x j:Nat}{b:Int}{k:aw}(h:b=j)(hx:x*2^j<9223372036854775808)(hj:j<=64):nE P .shl t (aS x) (.int k b) (aS ((x*2^j:Nat):Int)):=by
 subst h;refine oE (λp q=>yq _ _ _ _ _ _ _ _) ?_;show Op.shift .shl .i64 (x:Int) k (j:Int)=_;unfold Op.shift;rw[if_neg aH,c7];show pure (Value.int .i64 (IntKind.i64.wrap ((x:Int)*2^(min j 64))))=_;rw[Nat.min_eq_left hj];have e1:((x:Int)*2^j)=((x*2^j:Nat):Int):=by norm_cast
 rw[e1,IntWalk.i64_in _ aH]
end
end Go.Proofs.Wit
namespace Go.Proofs.Wit
def OG(r s z:List eF)(v w:Nat):Bool:=(jd (r.getD v 0#64)).all (λx=>z.getD x 0#64 &&& s.getD w 0#64 !=0#64) && (s.getD w 0#64 &&& ~~~ AI z (r.getD v 0#64)==0#64)
def HN(va vb:List eF)(ra rb:List (List eF))(z:List eF)(v w:Nat):Bool:=(fm va v==fm vb w) && (List.range ra.length).all (λi=>OG (ra.getD i []) (rb.getD i []) z v w)
def Qz(l c:List eF):Prop:=∀u v,Rl l u v->Rl c u v
section
variable{va vb:List eF}{ra rb:List (List eF)}
def O9(va vb:List eF)(ra rb:List (List eF))(z:List eF):Prop:=∀v w,Rl z v w->HN va vb ra rb z v w=true
structure Pf (va vb:List eF) (ra rb:List (List eF)) (na nb:Nat) (z:List eF):Prop where
  len:z.length=na
  QJ:∀v w,Rl z v w->w<nb
  top:∀z':List eF,z'.length=na->(∀v w,Rl z' v w->w<nb)->O9 va vb ra rb z'->Qz z' z
theorem Hv{w i:Nat}(hw:w<64):(1#64<<<w).getLsbD i=decide (i=w):=by
 rw[BitVec.getLsbD_shiftLeft];by_cases e:i=w;subst e;simp[hw];rw[dN e];by_cases h1:i<64;by_cases h2:i<w;simp[h1,h2];have h:i - w≠0:=aH;simp[h1,h2,h];simp[h1]
end
def GY(z:List eF):Nat:=(z.map BitVec.toNat).sum
structure Jx (va vb:List eF) (ra rb:List (List eF)) (na nb:Nat) (z0 z:List eF) (ch:Bool) (k:Nat):Prop where
  inv:Pf va vb ra rb na nb z
  le:GY z<=GY z0
  QV:ch=true->GY z<GY z0
  same:ch=false->∀v w,v<k->Rl z v w->HN va vb ra rb z v w=true
structure Qp (va vb:List eF) (ra rb:List (List eF)) (na nb:Nat) (z0:List eF) (k:Nat) (s:eF) (i:Nat) (z:List eF) (ch:Bool):Prop where
  uq:Jx va vb ra rb na nb z0 z ch k
  row:∀w,Rl z k w->s.getLsbD w=true
  left:∀w∈(jd s).drop i,Rl z k w
  done:ch=false->∀w∈(jd s).take i,HN va vb ra rb z k w=true
section
variable{va vb:List eF}{ra rb:List (List eF)}{na nb k i:Nat}{z0 z:List eF}{s:eF}{ch:Bool}
end
end Go.Proofs.Wit
namespace Go.Proofs.Wit
open Go Go.RowKit
section
variable{P:av}{t:ax}
end
section
variable{κ:Type}[DecidableEq κ]
structure Down (key:Nat->κ) (i:Nat) (j:Int) (low:Nat):Prop where
  lo:j<low
  hi:low<=i
  eq:key low=key i
  min:∀m:Nat,j<m->m<=i->key m=key i->low<=m
omit [DecidableEq κ] in
end
structure Qq (va vb:List eF) (ra rb:List (List eF)) (na nb:Nat) (z0:List eF) (k j:Nat) (z:List eF) (ch:Bool):Prop where
  uq:Jx va vb ra rb na nb z0 z ch k
  done:ch=false->∀w,w<j->Rl z k w->HN va vb ra rb z k w=true
section
variable{va vb:List eF}{ra rb:List (List eF)}{na nb k j:Nat}{z0 z:List eF}{ch:Bool}
end
section
variable{P:av}{t:ax}
theorem Jr{x j:Nat}{b:Int}{k:aw}(h:b=j)(_hx:x<9223372036854775808)(hj:j<=64):nE P .shr t (aS x) (.int k b) (aS ((x / 2^j:Nat):Int)):=by
 subst h;refine oE (λp q=>yq _ _ _ _ _ _ _ _) ?_;show Op.shift .shr .i64 (x:Int) k (j:Int)=_;unfold Op.shift;rw[if_neg aH,c7];show pure (Value.int .i64 ((x:Int).fdiv (2^(min j 64))))=_;rw[Nat.min_eq_left hj];have e1:((2:Int)^j)=((2^j:Nat):Int):=by norm_cast
 rw[e1,<-Int.ofNat_fdiv]
theorem F8{x:Nat}(hx:x<9223372036854775808):nE P .and t (aS x) (aS 1) (aS ((x%2:Nat):Int)):=bI _ (by
 show Op.intBits .and .i64 (x:Int) 1=_;unfold Op.intBits;have e1:(BitVec.ofInt 64 (x:Int) &&& BitVec.ofInt 64 1).toNat=x%2:=by
  rw[CZ,show BitVec.ofInt 64 1=BitVec.ofNat 64 1 from rfl,BitVec.toNat_and,cN,cN,dz aH,dz aH,Nat.and_one_is_mod]
 show pure (Value.int .i64 (IntKind.i64.wrap ((BitVec.ofInt 64 (x:Int) &&& BitVec.ofInt 64 1).toNat:Int)))=_;rw[e1,IntWalk.i64_in _ aH])
end
def gb(g k:Nat):Nat:=g / 2^k%2
def MS(n:Nat)(rel:List (List eF))(g w:Nat)(k:Nat):eF:=Ao (λa (o:eF)=>if gb g a=1 then o &&& (rel.getD a []).getD w 0#64 else o) (Gc n) k
def Kt(n:Nat)(rel:List (List eF))(g k:Nat):List eF:=(List.range n).map (λw=>MS n rel g w k)
def MT(n:Nat)(rel:List (List eF))(g:Nat):List eF:=Kt n rel g rel.length
section
variable{n:Nat}{rel:List (List eF)}{g k w:Nat}
end
section
variable{P:av}{r:ah}{f:ay}{R:aC->aB->Prop}{w0:aB}{S:aq}{Y:List (Nat×Obj)}{n:Nat}{k:al}{l:Fl}{h:Hl}
variable{ops:aj}{i d:Nat}{rest:aq}{ty:ax}{pos:aA}{aft:ak}{g:Option (Nat×Bool)}
end
end Go.Proofs.Wit
namespace Go.Proofs.Wit
open Go
theorem BI{w i:Nat}(hw:w<64):(1#64<<<w).getLsbD i=true↔i=w:=by rw[Hv hw];simp
def Mu(q:Nat->Bool)(n:Nat):eF:=Ao (λw (o:eF)=>if q w=true then o|||1#64<<<w else o) 0#64 n
def Iy(r:List eF)(n:Nat)(s:eF):eF:=Mu (λw=>r.getD w 0#64 &&& ~~~s==0#64) n
def My(r:List eF)(c:eF)(n:Nat)(s:eF):eF:=Ao (λw (o:eF)=>if o.getLsbD w=true then o|||(r.getD w 0#64 &&& c)else o) s n
def J7(r:List eF)(n v:Nat)(c:eF)(k:Nat):eF:=Ao (λ_ (o:eF)=>My r c n o) (r.getD v 0#64 &&& c) k
def ME(r:List eF)(n v:Nat)(c:eF):eF:=J7 r n v c n
def OV(r:List eF)(n:Nat)(c s:eF):eF:=Mu (λw=>ME r n w c &&& ~~~s==0#64) n
inductive Lx (r:List eF) (c:eF) (v:Nat):Nat->Prop where
  |one {u:Nat} (h:Rl r v u) (hc:c.getLsbD u=true):Lx r c v u
  |step {u x:Nat} (h:Lx r c v u) (h2:Rl r u x) (hc:c.getLsbD x=true):Lx r c v x
def MZ(rel:List (List eF))(g w:Nat)(k:Nat):eF:=Ao (λa (o:eF)=>if gb g a=1 then o|||(rel.getD a []).getD w 0#64 else o) 0#64 k
def KB(n:Nat)(rel:List (List eF))(g k:Nat):List eF:=(List.range n).map (λw=>MZ rel g w k)
def Jc(n:Nat)(rel:List (List eF))(g:Nat):List eF:=KB n rel g rel.length
def NL(op:Int)(x y all:eF):eF:=if op=1 then all else if op=4 then all &&& ~~~x else if op=5 then x &&& y else if op=6 then x|||y else if op=7 then(all &&& ~~~x)|||y else if op=8 then all &&& ~~~(x^^^y)else 0#64
def Ka(n:Nat)(val:List eF)(rel:List (List eF))(op i g:Int)(x y:eF):eF:=
 if op=3 then val.getD i.toNat 0#64 else if op<=8 then NL op x y (Gc n)
 else if op=9 then Iy (rel.getD i.toNat []) n x else if op=10 then Gc n &&& ~~~Iy (rel.getD i.toNat []) n (Gc n &&& ~~~x)
 else if op=11 then Iy (Jc n rel g.toNat) n x else if op=12 then Iy (MT n rel g.toNat) n x else OV (Jc n rel g.toNat) n x y
def Ef(n:Nat)(val:List eF)(rel:List (List eF)):Tr->eF
 |.leaf op i _ g=>Ka n val rel op i g 0#64 0#64
 |.un op i _ g a=>Ka n val rel op i g (Ef n val rel a) 0#64
 |.bin op i _ g a b=>Ka n val rel op i g (Ef n val rel a) (Ef n val rel b)
abbrev Pd(p:ar)(v w:Nat):Prop:=p.getD v 0=p.getD w 0
structure Q0 (n:Nat) (p' p:ar) (R:List eF):Prop where
  fb:∀v w,v<n->w<n->Pd p' v w->∀u,Rl R v u->∃u',Rl R w u'/\Pd p u u'
def QA(n:Nat)(p:ar)(s:eF):Prop:=∀v w,v<n->w<n->Pd p v w->s.getLsbD v=true->s.getLsbD w=true
section
variable{n:Nat}{p p':ar}{s t c:eF}{R:List eF}
end
section
variable{n:Nat}{val:List eF}{uw:List (List eF)}
end
def kI(q:Int->Int->Int->Prop):Tr->Prop
 |.leaf op i _ g=>q op i g
 |.un op i _ g a=>q op i g/\kI q a
 |.bin op i _ g a b=>q op i g/\kI q a/\kI q b
def OD(op:Int):Nat:=if 9<=op/\op<=15\/18<=op then 1 else 0
def Io:Tr->Nat
 |.leaf op _ _ _=>OD op
 |.un op _ _ _ a=>Io a+OD op
 |.bin op _ _ _ a b=>max (Io a) (Io b)+OD op
section
variable{op:Int}{q:Int->Int->Int->Prop}{c:List NV}{a b:Nat}{t:Tr}
def LY(q:Int->Int->Int->Prop):Tr->Prop
 |.leaf op i _ g=>q op i g
 |.un op i _ g _=>q op i g
 |.bin op i _ g _ _=>q op i g
theorem kI.LY{q:Int->Int->Int->Prop}:∀{t:Tr},kI q t->Wit.LY q t
 |.leaf ..,h=>h
 |.un ..,h=>h.1
 |.bin ..,h=>h.1
theorem kI.wE :∀{t c:Tr},kI q t->c∈kids t->kI q c
 |.leaf ..,_,_,hc=>by cases hc
 |.un ..,_,h,hc=>by rw[cS.1 hc];exact h.2
 |.bin ..,_,h,hc=>by
  simp only[kids,dS,dv,ep]at hc;rcases hc with rfl|rfl;exact h.2.1;exact h.2.2
theorem mK.kI{q:Int->Int->Int->Prop}{ts:List Tr}(hc:mK ts)(h:∀u∈ts,Wit.LY q u):∀t:Tr,t∈ts->Wit.kI q t
 |.leaf ..,p=>h _ p
 |.un _ _ _ _ a,p=>⟨h _ p,hc.kI h a (hc.mem p a (by simp[kids]))⟩
 |.bin _ _ _ _ a b,p=>⟨h _ p,hc.kI h a (hc.mem p a (by simp[kids])),hc.kI h b (hc.mem p b (by simp[kids]))⟩
theorem j9(t:Tr):t∈gk t:=(jA t).mem
theorem Dz  :kI q t↔∀u∈gk t,LY q u:=
 ⟨λh u hu=>(p8 (λ_ p _ hc=>p.wE hc) t h (λu hu=>by cases hu) u hu).LY,λh=>(jA t).pP.kI h t (j9 t)⟩
theorem vJ {ts:List Tr}:∀{u:Tr},LY q u↔q (fM ts u).op (fM ts u).i (fM ts u).g
 |.leaf ..=>Iff.rfl
 |.un ..=>Iff.rfl
 |.bin ..=>Iff.rfl
theorem Ab  :kI q t↔∀n∈gv t,q n.op n.i n.g:=by
 rw[Dz];show _↔∀n∈eJ (gk t),_;unfold eJ;constructor;intro h n p;obtain⟨u,hu,rfl⟩:=dU.1 p;exact vJ.1 (h u hu);intro h u hu;exact vJ.2 (h _ (cM hu))
def I8(h:NV->Nat)(c:List NV):Nat:=c.foldl (λa n=>a|||h n) 0
theorem Es{h:NV->Nat} {n:NV}:I8 h (c++[n])=I8 h c|||h n:=by simp[I8]
theorem BG{h:NV->Nat}{j:Nat} :(I8 h c).testBit j=true↔∃n∈c,(h n).testBit j=true:=by
 induction c using lH with
 |h0=>simp[I8]
 |h1 c n p=>
  rw[Es,Nat.testBit_or,dB,p];simp only[dG,cS];constructor;rintro (⟨m,h1,h2⟩|h1);exact⟨m,.inl h1,h2⟩;exact⟨n,.inr rfl,h1⟩;rintro ⟨m,h1|rfl,h2⟩;exact .inl ⟨m,h1,h2⟩;exact .inr h2
def Qb(n:NV):Nat:=if n.op=3 then 2^n.i.toNat else 0
def Qj(n:NV):Nat:=(if uV n.op=true then 2^n.i.toNat else 0)|||n.g.toNat
structure N8 (op i e g:Int):Prop where
  i0:iO op=false->i=0
  e0:op≠17->e=0
  g0:qG op=false->g=0
  fact:op=3->0<=i/\i<8
  ag:uV op=true->0<=i/\i<4
  act:op=17->(0<=i/\i<8)/\0<=e/\e<8
  gr:qG op=true->1<=g/\g<16
theorem lO{i e g:Int}(h:jH op i e g=0):N8 op i e g:=by
 unfold jH at h;split at h;cases h;rename_i h1;split at h;cases h;rename_i h2;simp only[dB,di,c6,bne_iff_ne,ne_eq,eg,not_or,not_and,Bool.and_eq_false_iff,bQ,Classical.not_not]at h1 h2;obtain⟨⟨J,F⟩,E⟩:=h1;obtain⟨⟨⟨D,C⟩,w⟩,p⟩:=h2;refine⟨J,F,E,λe=>?_,λe=>?_,λe=>?_,λe=>?_⟩;have:=D e;omega;have:=C e;omega;have:=w e;omega;have:=p e;omega
def Ps(m k A:Nat):Bool:=(List.range k).all (λi=>gb m i !=1||decide (i<A))
def Nd(f:List NV)(A B:Nat):Bool:=fK f==0 && (Ps (I8 Qj (eE f)) 4 A && Ps (I8 Qb (eE f)) 8 B)
def Pg(A B:Nat)(op i g:Int):Prop:=(uV op=true->i.toNat<A)/\(op=3->i.toNat<B)/\g.toNat<2^A
theorem fC.PW{f:List NV}(h:fC f):∀n∈f,1<=n.op/\n.op<=21:=λn p=>by
 obtain⟨i,hi,rfl⟩:=cz.1 p;exact(h i hi).op
def mz(a b:Nat):Nat:=a &&& (511^^^b)
theorem tR (ha:a<512):mz a b=0↔∀i,a.testBit i=true->b.testBit i=true:=by
 have p:∀i,(511:Nat).testBit i=decide (i<9):=λi=>by
  rw[show(511:Nat)=2^9 - 1 from rfl,Nat.testBit_two_pow_sub_one]
 constructor;intro h i hi;have w:i<9:=by
  refine bh (λhc=>?_);rw[Nat.testBit_lt_two_pow (cX ha (by show 2^9<=2^i;exact cI aI aH))]at hi;cases hi
 have:=eh (λx=>x.testBit i) h;simp only[mz,Nat.testBit_and,Nat.testBit_xor,hi,p,w,decide_true,Nat.zero_testBit,Bool.true_and,Bool.true_bne]at this;simpa using this;intro h;refine Nat.eq_of_testBit_eq (λi=>?_);rw[mz,Nat.testBit_and,Nat.testBit_xor,p,Nat.zero_testBit];cases e:a.testBit i with
 |false=>rfl
 |true=>
  rw[h i e];have w:i<9:=by
   refine bh (λhc=>?_);rw[Nat.testBit_lt_two_pow (cX ha (by show 2^9<=2^i;exact cI aI aH))]at e;cases e
  simp[w]
theorem Fa(n:NV):Gz n<512:=by
 have:=yl n.op;have:=Fb n;omega
theorem E8  :mz (nH c) b=0↔∀n∈c,mz (Gz n) b=0:=by
 rw[tR (sx c)];constructor;intro h n p;rw[tR (Fa n)];exact λi hi=>h i (BG.2 ⟨n,p,hi⟩);intro h i hi;obtain⟨n,p,hb⟩:=BG.1 (show(I8 Gz c).testBit i=true from hi);exact(tR (Fa n)).1 (h n p) i hb
theorem zg{p:Int->Prop}(h:∀k:Nat,k<21->p ((k:Int)+1)) (ho:1<=op/\op<=21):p op:=by
 have:=h (op.toNat - 1) aH;rw[show(((op.toNat - 1:Nat):Int)+1)=op by omega]at this;exact this
theorem Jf (ho:1<=op/\op<=21):mz (B2 op).toNat 1=0↔op<=10:=
 zg (p:=λop=>mz (B2 op).toNat 1=0↔op<=10) aI ho
theorem yi  {r:Int->Prop}(C:t.ok)(w:∀{op:Int},(1<=op/\op<=21)->(mz (B2 op).toNat b=0↔r op)):mz (nH (gv t)) b=0↔kI (λop _ _=>r op) t:=by
 rw[E8,Ab];have ho:=(rk C).PW;exact⟨λh n p=>(w (ho n p)).1 (h n p),λh n p=>(w (ho n p)).2 (h n p)⟩
theorem wj{P:av}{t:ax} (ha:a<512)(hb:b<512):nE P .andNot t (aS a) (aS b) (aS (mz a b)):=by
 refine bI _ ?_;have h1:(BitVec.ofInt 64 (a:Int)).toNat=a:=by
  rw[ct,cN];exact dz aH
 have h2:BitVec.ofInt 64 (b:Int)=BitVec.ofNat 64 b:=ct ..;have h0:BitVec.ofInt 64 (a:Int)=BitVec.ofNat 64 a:=ct ..;have hx:mz a b<2^9:=Nat.and_lt_two_pow _ (by show 511^^^b<2^9;exact Nat.xor_lt_two_pow aI aH);have h:(BitVec.ofInt 64 (a:Int) &&& ~~~ BitVec.ofInt 64 (b:Int))=BitVec.ofNat 64 (mz a b):=by
  rw[h0,h2];apply BitVec.eq_of_getLsbD_eq;intro i hi;rw[BitVec.getLsbD_and,BitVec.getLsbD_not,BitVec.getLsbD_ofNat,BitVec.getLsbD_ofNat,BitVec.getLsbD_ofNat,mz,Nat.testBit_and,Nat.testBit_xor,show(511:Nat)=2^9 - 1 from rfl,Nat.testBit_two_pow_sub_one];have w:¬i<9->a.testBit i=false:=λhc=>Nat.testBit_lt_two_pow (cX ha (by show 2^9<=2^i;exact cI aI aH));by_cases p:i<9;simp[hi,p];simp[hi,w p]
 show(binOp .andNot t (aS a) (aS b))=_;show(pure (Value.int .i64 (IntKind.i64.wrap ((BitVec.ofInt 64 (a:Int) &&& ~~~ BitVec.ofInt 64 (b:Int)).toNat:Int))):Sem aC)=_;rw[h,cN,dz aH,IntWalk.i64_in _ aH]
theorem NT{P:av}{t:ax} (ha:a<512)(hb:b<512):nE P .and t (aS a) (aS b) (aS (a &&& b:Nat)):=by
 refine bI _ ?_;have hx:a &&& b<2^9:=Nat.and_lt_two_pow _ aH;have h1:(BitVec.ofInt 64 (a:Int)).toNat=a:=by
  rw[ct,cN];exact dz aH
 have h2:(BitVec.ofInt 64 (b:Int)).toNat=b:=by
  rw[ct,cN];exact dz aH
 show(pure (Value.int .i64 (IntKind.i64.wrap ((BitVec.ofInt 64 (a:Int) &&& BitVec.ofInt 64 (b:Int)).toNat:Int))):Sem aC)=_;rw[BitVec.toNat_and,h1,h2,IntWalk.i64_in _ aH]
def M7(n:Int)(val:List eF)(rel:List (List eF))(f:List NV):Int:=
 if FL n val rel≠0 then FL n val rel else if fK f≠0 then fK f else if mz (nH (eE f)) 15≠0 then 10 else if Nd f rel.length val.length=false then 2 else 0
def N1(A B:Nat)(op i g:Int):Prop:=op<=13/\Pg A B op i g
end
end Go.Proofs.Wit
namespace Go.Proofs.Wit
structure PH (A B:Nat) (nd:NV):Prop where
  QM:1<=nd.op
  PX:nd.op<=13
  fact:nd.op=3->0<=nd.i/\nd.i.toNat<B
  ag:nd.op=9\/nd.op=10->0<=nd.i/\nd.i.toNat<A
  gr:11<=nd.op->1<=nd.g/\nd.g.toNat<2^A
structure nJ (g:List NV):Prop where
  oe:fK g=0
  can:g=gv (eP g)
theorem nJ.ok{g:List NV}(h:nJ g):(eP g).ok:=(eO.1 h.oe).top
theorem nJ.of{t:Tr}(h:t.ok)(p:(gv t).length<=200):nJ (gv t):=⟨(tQ h p).2.1,by rw[(tQ h p).2.2]⟩
theorem nJ.eE{f:List NV}(h:fK f=0):nJ (eE f):=by
 have w:=tK h;have p:=(eO.1 h).len;rw[jG h]at w⊢;exact .of (eO.1 h).top aH
theorem wQ{f:List NV}(h:fK f=0):eP (eE f)=eP f:=by
 rw[jG h];exact mV (eO.1 h).top.wf
theorem nJ.len{g:List NV}(h:nJ g):g.length<=200:=(eO.1 h.oe).len
theorem nJ.nodes{g:List NV}(h:nJ g):fC g:=(eO.1 h.oe).nodes
theorem nJ.trees{g:List NV}(h:nJ g):Wit.trees g=gk (eP g):=by
 have:=h.can;rw[this]
 conv=>rhs;rw[<-this]
 exact mZ h.ok.wf
end Go.Proofs.Wit
namespace Go.Proofs.Wit
open Go Go.RowKit
section
variable{a t:Tr}
theorem rH{c:Tr}(h:c∈kids t):gk c⊆gk t:=
 lA c (ts:=[]) (jA t).pP ((jA t).pP.mem (j9 t) c h) (List.nil_subset _)
theorem np{c:Tr}(h:c∈kids t):(gv c).length<=(gv t).length:=by
 rw[ke,ke];exact(jA c).nd.length_le_of_subset (rH h)
theorem nU (h:200<(gv t).length):bT t=[]:=if_pos h
theorem FX (h:¬200<(gv t).length):bT t=gv t:=if_neg h
theorem Jq(t:Tr):(bT t).length<=200:=by
 unfold bT;split;simp;omega
theorem Bc :bT t=[]↔200<(gv t).length:=by
 constructor;intro h;refine bh (λhn=>?_);rw[FX hn]at h;have:=nm t;rw[h]at this;exact absurd this aL;exact nU
theorem wh{n:NV}{gs:List (List NV)}(h:∃g∈gs,fK g≠0):fB n gs=[]:=if_pos h
theorem IA(n:NV)(gs:List (List NV)):(fB n gs).length<=200:=by
 unfold fB
 repeat' split
 simp;simp;simp;omega
theorem og{op i e g:Int} (ha:a.ok)(hop:1<=op/\op<=21)(hX:iX op=true)(hY:ij op=false)(hf:jH op i e g=0):fB ⟨op,i,e,g,0,0⟩ [bT a]=bT (.un op i e g a):=by
 by_cases hl:200<(gv a).length;rw[nU hl,wh ⟨[],by simp,aI⟩,nU (cX hl (np (by simp[kids])))];obtain⟨h1,h2,h3⟩:=tQ ha aH;rw[h1,IB h2 hop hX hY hf rfl,h3]
theorem iZ{op i e g:Int}{b:Tr}(ha:a.ok)(hb:b.ok)(hop:1<=op/\op<=21)(hY:ij op=true)(hf:jH op i e g=0):fB ⟨op,i,e,g,0,0⟩ [bT a,bT b]=bT (.bin op i e g a b):=by
 by_cases hl:200<(gv a).length;rw[nU hl,wh ⟨[],by simp,aI⟩,nU (cX hl (np (by simp[kids])))];by_cases hl2:200<(gv b).length;rw[nU hl2,wh ⟨[],by simp,aI⟩,nU (cX hl2 (np (by simp[kids])))];obtain⟨h1,h2,h3⟩:=tQ ha aH;obtain⟨k1,k2,k3⟩:=tQ hb aH;rw[h1,k1,NM h2 k2 hop hY hf,h3,k3]
theorem FE (h:t.ok):eE (bT t)=bT t:=by
 by_cases hl:200<(gv t).length;rw[nU hl];exact if_pos aI;obtain⟨h1,h2,h3⟩:=tQ h aH;rw[h1,jG h2,h3]
def rp(a b:List NV):List NV:=fB ⟨5,0,0,0,0,0⟩ [a,b]
def oh:List (List NV)->List NV
 |[]=>fB ⟨1,0,0,0,0,0⟩ []
 |g::gs=>gs.foldl rp (eE g)
def pe:List Tr->Tr
 |[]=>.leaf 1 0 0 0
 |t::ts=>ts.foldl (λa b=>.bin 5 0 0 0 a b) t
theorem nu{b:Tr}(ha:a.ok)(hb:b.ok):(Tr.bin 5 0 0 0 a b).ok:=⟨aH,rfl,rfl,ha,hb⟩
theorem zI:∀{ts:List Tr} {t:Tr},t.ok->(∀u∈ts,u.ok)->(ts.map bT).foldl rp (bT t)=bT (ts.foldl (λa b=>.bin 5 0 0 0 a b) t)
 |[],_,_,_=>rfl
 |u::us,t,h,hs=>by
  rw[dR,List.foldl_cons,List.foldl_cons,rp,iZ h (hs u aL) aH rfl rfl];exact zI (nu h (hs u aL)) (λv hv=>hs v (by simp[hv]))
theorem xw:∀{ts:List Tr},(∀u∈ts,u.ok)->oh (ts.map bT)=bT (pe ts)
 |[],_=>Lh (n:=⟨1,0,0,0,0,0⟩) aI rfl rfl rfl rfl
 |t::ts,h=>by
  rw[dR,oh,FE (h t aL)];exact zI (h t aL) (λu hu=>h u (by simp[hu]))
def Jw(a:ae)(cap lo sz:Nat):ae:=if cap=lo then a else a.map (·.add (lo*sz))
theorem Sl.drop{w:aB}{a:ae}{xs:ai}(h:Sl w a xs){cap lo:Nat}(hc:xs.length<=cap):Sl w (Jw a cap lo 1) (xs.drop lo):=by
 by_cases hl:xs.length<=lo;rw[List.drop_eq_nil_of_le hl];exact Sl.nil _ _;obtain⟨b,o,rfl,hb⟩:=h.isSome aH;have e0:Jw (some ⟨b,o,none⟩) cap lo 1=some ⟨b,o+lo,none⟩:=by
  rw[Jw,if_neg aH,dL,Addr.add,ec];split;rename_i hz;subst hz;rfl;rfl
 rw[e0];refine⟨λ_=>⟨b,o+lo,rfl,hb⟩,λi hi=>?_⟩;rw[List.length_drop]at hi;have:=h.cell (lo+i) aH;have e1:qT (some ⟨b,o+lo,none⟩) i=qT (some ⟨b,o,none⟩) (lo+i):=by
  simp only[qT,Option.getD_some,Nat.add_assoc]
 rw[e1,this];simp[List.getElem?_drop]
section
variable{P:av}{w0:aB}{S:aq}{n:Nat}{l:Fl}{h:Hl}{ops:aj}{i d:Nat}{ty:ax}{pos:aA}{aft:ak}{g:Option (Nat×Bool)}
theorem wm{t e:ax}{x y:au}{a:ae}{m cap lo:Nat}{kd:aw}{j:Int}{sz:Nat}(ho:ops[i]?=some ⟨some d,.slice t x (some y) none none,ty,pos,aft,g⟩)(hw:eL ops l g=true)
  (hx:eZ l x=some (.slice a m cap))(hy:eZ l y=some (.int kd j))(hd:Nat.blt d n=true)(hu:P.underlying t=some (.slice e))(he:∀w,(sizeOf e).run P w=.ok sz w)(hj:j=lo)(hc:lo<=m):
  eD P w0 S n h ops i l d (.slice (Jw a cap lo sz) (m - lo) (cap - lo)):=
 .of ho hw rfl rfl hd (λt w Ds _ hF hS=>⟨.value (.slice (Jw a cap lo sz) (m - lo) (cap - lo)),by
  subst hj;simp only[execOp,hF.eZ hx,hF.eZ hy,dL,Option.map_none,Instr.sliceAt,Sem.run_bind,run_underlying hu,Result.andThen_ok,Instr.slice,Instr.sliceBounds,Instr.sliceBound,asIntOf,Sem.run_pure];rw[if_pos ⟨aH,aH⟩];simp only[Sem.run_pure,Result.andThen_ok,he,c7];rfl,rfl⟩)
end
end
end Go.Proofs.Wit
