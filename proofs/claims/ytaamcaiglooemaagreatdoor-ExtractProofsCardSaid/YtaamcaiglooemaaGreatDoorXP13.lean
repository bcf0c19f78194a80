/- Laws of walks, each under its own conditions. -/
import Derived.Test.YtaamcaiglooemaaGreatDoorXP11
set_option maxRecDepth 100000
set_option maxHeartbeats 40000000
namespace Go.Proofs.Wit
open Go Go.RowKit
theorem PK{P:av}{t:ax}{a b c:Nat}(ha:a<512)(hb:b<512)(hc:c=a|||b):pD P .or t (aS a) (aS b) (aS c):=by
 subst hc;refine bI _ ?_;have hx:a|||b<2^9:=Nat.or_lt_two_pow aH aH;have h1:(BitVec.ofInt 64 (a:Int)).toNat=a:=by
  rw[cy,cU];exact dI aH
 have h2:(BitVec.ofInt 64 (b:Int)).toNat=b:=by
  rw[cy,cU];exact dI aH
 rw[binOp_or];show(pure (Value.int .i64 (IntKind.i64.wrap ((BitVec.ofInt 64 (a:Int)|||BitVec.ofInt 64 (b:Int)).toNat:Int))):Sem aC)=_;rw[BitVec.toNat_or,h1,h2,IntWalk.i64_in _ aH]
def HL(n:NV):Nat:=(ED n.op).toNat
theorem ze(op:Int):0<=ED op/\ED op<512:=by
 unfold ED
 repeat' split
 all_goals omega
theorem Gx(n:NV):(HL n:Int)=ED n.op:=by
 have:=ze n.op;unfold HL;omega
def re(c:List NV):Nat:=c.foldl (λa n=>a|||HL n) 0
theorem yk{c:List NV}{n:NV}:re (c++[n])=re c|||HL n:=by simp[re]
theorem zd(c:List NV):re c<512:=by
 induction c using mU with
 |h0=>decide
 |h1 c n ih=>
  rw[yk];have h2:HL n<2^9:=by have:=ze n.op;unfold HL;omega
  exact Nat.or_lt_two_pow (n:=9) ih h2
theorem ug(f:List NV):(eT f).length<=200:=by
 by_cases h:fX f=0;exact(mo h).len;rw[eT,if_pos h];exact aG
def PC:List UInt8:=[48,49,50,51,52,53,54,55,56,57,97,98,99,100,101,102,103,104,105,106,107,108,109,110,111,112,113,114,115,116,117,118,119,120,121,122]
def Qg(i:Nat):UInt8:=PC.getD i 0
def Ml(n:Nat):List UInt8:=if n<16 then [Qg n]else Ml (n / 16)++[Qg (n%16)]
termination_by n
section
variable{P:av}{r:ah}{f:ay}{R:aC->aB->Prop}{w0:aB}{S:aq}{Y:List (Nat×Obj)}{n:Nat}{k:al}{l:Fl}{h:Hl}
variable{ops:aj}{i d:Nat}{rest:aq}{ty:ax}{pos:aA}{aft:ak}{g:Option (Nat×Bool)}{t:ax}
end
structure Q8 (ks:Nat->List UInt8) (n:Nat) (L:List (List UInt8×Nat)) (l:ar) (k:Nat):Prop where
  len:l.length=n
  le:k<=n
  lt:∀x v,ic (λa b=>a==b) L x=some v->v<L.length
  inj:∀x y v,ic (λa b=>a==b) L x=some v->ic (λa b=>a==b) L y=some v->x=y
  at_:∀i,i<k->∃v:Nat,l.getD i 0=v/\ic (λa b=>a==b) L (ks i)=some v
section
variable{P:av}{t:ax}
theorem D3(x:Nat):BitVec.ofInt 64 (x:Int)=BitVec.ofNat 64 x:=by
 apply BitVec.eq_of_toNat_eq;simp
theorem KB{x j:Nat}{b:Int}{k:aw}(h:b=j)(hx:x*2^j<9223372036854775808)(hj:j<=64):pD P .shl t (aS x) (.int k b) (aS ((x*2^j:Nat):Int)):=by
 subst h;refine qz (λp q=>zi _ _ _ _ _ _ _ _) ?_;show Op.shift .shl .i64 (x:Int) k (j:Int)=_;unfold Op.shift;rw[if_neg aH,di];show pure (Value.int .i64 (IntKind.i64.wrap ((x:Int)*2^(min j 64))))=_;rw[dU hj];have e1:((x:Int)*2^j)=((x*2^j:Nat):Int):=by norm_cast
 rw[e1,IntWalk.i64_in _ aH]
end
end Go.Proofs.Wit
namespace Go.Proofs.Wit
def Pu(r s z:List fC)(v w:Nat):Bool:=(jK (r.getD v 0#64)).all (λx=>z.getD x 0#64 &&& s.getD w 0#64 !=0#64) && (s.getD w 0#64 &&& ~~~ BD z (r.getD v 0#64)==0#64)
def I4(va vb:List fC)(ra rb:List (List fC))(z:List fC)(v w:Nat):Bool:=(fm va v==fm vb w) && (List.range ra.length).all (λi=>Pu (ra.getD i []) (rb.getD i []) z v w)
def Ra(l c:List fC):Prop:=∀u v,Rl l u v->Rl c u v
section
variable{va vb:List fC}{ra rb:List (List fC)}
def PW(va vb:List fC)(ra rb:List (List fC))(z:List fC):Prop:=∀v w,Rl z v w->I4 va vb ra rb z v w=true
structure P2 (va vb:List fC) (ra rb:List (List fC)) (na nb:Nat) (z:List fC):Prop where
  len:z.length=na
  Rk:∀v w,Rl z v w->w<nb
  top:∀z':List fC,z'.length=na->(∀v w,Rl z' v w->w<nb)->PW va vb ra rb z'->Ra z' z
theorem IQ{w i:Nat}(hw:w<64):(1#64<<<w).getLsbD i=decide (i=w):=by
 rw[BitVec.getLsbD_shiftLeft];by_cases e:i=w;subst e;simp[hw];rw[dY e];by_cases h1:i<64;by_cases h2:i<w;simp[h1,h2];have h:i - w≠0:=aH;simp[h1,h2,h];simp[h1]
end
def Ig(z:List fC):Nat:=(z.map BitVec.toNat).sum
structure KF (va vb:List fC) (ra rb:List (List fC)) (na nb:Nat) (z0 z:List fC) (ch:Bool) (k:Nat):Prop where
  inv:P2 va vb ra rb na nb z
  le:Ig z<=Ig z0
  Rw:ch=true->Ig z<Ig z0
  same:ch=false->∀v w,v<k->Rl z v w->I4 va vb ra rb z v w=true
structure Q1 (va vb:List fC) (ra rb:List (List fC)) (na nb:Nat) (z0:List fC) (k:Nat) (s:fC) (i:Nat) (z:List fC) (ch:Bool):Prop where
  vq:KF va vb ra rb na nb z0 z ch k
  row:∀w,Rl z k w->s.getLsbD w=true
  left:∀w∈(jK s).drop i,Rl z k w
  done:ch=false->∀w∈(jK s).take i,I4 va vb ra rb z k w=true
section
variable{va vb:List fC}{ra rb:List (List fC)}{na nb k i:Nat}{z0 z:List fC}{s:fC}{ch:Bool}
end
end Go.Proofs.Wit
namespace Go.Proofs.Wit
open Go Go.RowKit
section
variable{P:av}{t:ax}
theorem Oz{x:fC}:pD P .rem t (U x) (U 2#64) (U (x &&& 1#64)):=bU _ (by
 show Op.intDiv .rem .u64 (x.toNat:Int) 2=_;unfold Op.intDiv;rw[if_neg aI];show pure (Value.int .u64 ((x.toNat:Int).tmod 2))=pure (Value.int .u64 ((x &&& 1#64).toNat:Int));rw[show(x.toNat:Int).tmod 2=((x.toNat%2:Nat):Int)from rfl,BitVec.toNat_and];rw[show(1#64:fC).toNat=1 from rfl,Nat.and_one_is_mod])
end
section
variable{κ:Type}[DecidableEq κ]
structure Down (key:Nat->κ) (i:Nat) (j:Int) (low:Nat):Prop where
  lo:j<low
  hi:low<=i
  eq:key low=key i
  min:∀m:Nat,j<m->m<=i->key m=key i->low<=m
omit [DecidableEq κ] in
end
structure Q2 (va vb:List fC) (ra rb:List (List fC)) (na nb:Nat) (z0:List fC) (k j:Nat) (z:List fC) (ch:Bool):Prop where
  vq:KF va vb ra rb na nb z0 z ch k
  done:ch=false->∀w,w<j->Rl z k w->I4 va vb ra rb z k w=true
section
variable{va vb:List fC}{ra rb:List (List fC)}{na nb k j:Nat}{z0 z:List fC}{ch:Bool}
end
section
variable{P:av}{t:ax}
theorem Dv{x j:Nat}{b:Int}{k:aw}(h:b=j)(_hx:x<9223372036854775808)(hj:j<=64):pD P .shr t (aS x) (.int k b) (aS ((x / 2^j:Nat):Int)):=by
 subst h;refine qz (λp q=>zi _ _ _ _ _ _ _ _) ?_;show Op.shift .shr .i64 (x:Int) k (j:Int)=_;unfold Op.shift;rw[if_neg aH,di];show pure (Value.int .i64 ((x:Int).fdiv (2^(min j 64))))=_;rw[dU hj];have e1:((2:Int)^j)=((2^j:Nat):Int):=by norm_cast
 rw[e1,<-Int.ofNat_fdiv]
theorem Ca{x:Nat}(hx:x<9223372036854775808):pD P .and t (aS x) (aS 1) (aS ((x%2:Nat):Int)):=bI _ (by
 show Op.intBits .and .i64 (x:Int) 1=_;unfold Op.intBits;have e1:(BitVec.ofInt 64 (x:Int) &&& BitVec.ofInt 64 1).toNat=x%2:=by
  rw[D3,show BitVec.ofInt 64 1=BitVec.ofNat 64 1 from rfl,BitVec.toNat_and,cU,cU,dI aH,dI aH,Nat.and_one_is_mod]
 show pure (Value.int .i64 (IntKind.i64.wrap ((BitVec.ofInt 64 (x:Int) &&& BitVec.ofInt 64 1).toNat:Int)))=_;rw[e1,IntWalk.i64_in _ aH])
end
def gb(g k:Nat):Nat:=g / 2^k%2
def N4(n:Nat)(rel:List (List fC))(g w:Nat)(k:Nat):fC:=Ba (λa (o:fC)=>if gb g a=1 then o &&& (rel.getD a []).getD w 0#64 else o) (Hm n) k
def LJ(n:Nat)(rel:List (List fC))(g k:Nat):List fC:=(List.range n).map (λw=>N4 n rel g w k)
def N5(n:Nat)(rel:List (List fC))(g:Nat):List fC:=LJ n rel g rel.length
section
variable{n:Nat}{rel:List (List fC)}{g k w:Nat}
end
section
variable{P:av}{r:ah}{f:ay}{R:aC->aB->Prop}{w0:aB}{S:aq}{Y:List (Nat×Obj)}{n:Nat}{k:al}{l:Fl}{h:Hl}
variable{ops:aj}{i d:Nat}{rest:aq}{ty:ax}{pos:aA}{aft:ak}{g:Option (Nat×Bool)}
end
end Go.Proofs.Wit
namespace Go.Proofs.Wit
open Go
theorem CM{w i:Nat}(hw:w<64):(1#64<<<w).getLsbD i=true↔i=w:=by rw[IQ hw];simp
def NF(q:Nat->Bool)(n:Nat):fC:=Ba (λw (o:fC)=>if q w=true then o|||1#64<<<w else o) 0#64 n
def JH(r:List fC)(n:Nat)(s:fC):fC:=NF (λw=>r.getD w 0#64 &&& ~~~s==0#64) n
def NL(r:List fC)(c:fC)(n:Nat)(s:fC):fC:=Ba (λw (o:fC)=>if o.getLsbD w=true then o|||(r.getD w 0#64 &&& c)else o) s n
def Ln(r:List fC)(n v:Nat)(c:fC)(k:Nat):fC:=Ba (λ_ (o:fC)=>NL r c n o) (r.getD v 0#64 &&& c) k
def NP(r:List fC)(n v:Nat)(c:fC):fC:=Ln r n v c n
def PE(r:List fC)(n:Nat)(c s:fC):fC:=NF (λw=>NP r n w c &&& ~~~s==0#64) n
inductive MY (r:List fC) (c:fC) (v:Nat):Nat->Prop where
  |one {u:Nat} (h:Rl r v u) (hc:c.getLsbD u=true):MY r c v u
  |step {u x:Nat} (h:MY r c v u) (h2:Rl r u x) (hc:c.getLsbD x=true):MY r c v x
def N8(rel:List (List fC))(g w:Nat)(k:Nat):fC:=Ba (λa (o:fC)=>if gb g a=1 then o|||(rel.getD a []).getD w 0#64 else o) 0#64 k
def LX(n:Nat)(rel:List (List fC))(g k:Nat):List fC:=(List.range n).map (λw=>N8 rel g w k)
def Kt(n:Nat)(rel:List (List fC))(g:Nat):List fC:=LX n rel g rel.length
def Ov(op:Int)(x y all:fC):fC:=if op=1 then all else if op=4 then all &&& ~~~x else if op=5 then x &&& y else if op=6 then x|||y else if op=7 then(all &&& ~~~x)|||y else if op=8 then all &&& ~~~(x^^^y)else 0#64
def Ls(n:Nat)(val:List fC)(rel:List (List fC))(op i g:Int)(x y:fC):fC:=
 if op=3 then val.getD i.toNat 0#64 else if op<=8 then Ov op x y (Hm n)
 else if op=9 then JH (rel.getD i.toNat []) n x else if op=10 then Hm n &&& ~~~JH (rel.getD i.toNat []) n (Hm n &&& ~~~x)
 else if op=11 then JH (Kt n rel g.toNat) n x else if op=12 then JH (N5 n rel g.toNat) n x else PE (Kt n rel g.toNat) n x y
def E4(n:Nat)(val:List fC)(rel:List (List fC)):Tr->fC
 |.leaf op i _ g=>Ls n val rel op i g 0#64 0#64
 |.un op i _ g a=>Ls n val rel op i g (E4 n val rel a) 0#64
 |.bin op i _ g a b=>Ls n val rel op i g (E4 n val rel a) (E4 n val rel b)
abbrev P0(p:ar)(v w:Nat):Prop:=p.getD v 0=p.getD w 0
structure RB (n:Nat) (p' p:ar) (R:List fC):Prop where
  fb:∀v w,v<n->w<n->P0 p' v w->∀u,Rl R v u->∃u',Rl R w u'/\P0 p u u'
def Rb(n:Nat)(p:ar)(s:fC):Prop:=∀v w,v<n->w<n->P0 p v w->s.getLsbD v=true->s.getLsbD w=true
section
variable{n:Nat}{p p':ar}{s t c:fC}{R:List fC}
end
section
variable{n:Nat}{val:List fC}{vr:List (List fC)}
end
def pN(q:Int->Int->Int->Prop):Tr->Prop
 |.leaf op i _ g=>q op i g
 |.un op i _ g a=>q op i g/\pN q a
 |.bin op i _ g a b=>q op i g/\pN q a/\pN q b
def Po(op:Int):Nat:=if 9<=op/\op<=15\/18<=op then 1 else 0
def Jx:Tr->Nat
 |.leaf op _ _ _=>Po op
 |.un op _ _ _ a=>Jx a+Po op
 |.bin op _ _ _ a b=>max (Jx a) (Jx b)+Po op
section
variable{q:Int->Int->Int->Prop}{c:List NV}{a b:Nat}{t:Tr}
def Nf(q:Int->Int->Int->Prop):Tr->Prop
 |.leaf op i _ g=>q op i g
 |.un op i _ g _=>q op i g
 |.bin op i _ g _ _=>q op i g
theorem pN.Nf{q:Int->Int->Int->Prop}:∀{t:Tr},pN q t->Wit.Nf q t
 |.leaf ..,h=>h
 |.un ..,h=>h.1
 |.bin ..,h=>h.1
theorem pN.Au :∀{t c:Tr},pN q t->c∈kids t->pN q c
 |.leaf ..,_,_,hc=>by cases hc
 |.un ..,_,h,hc=>by rw[de.1 hc];exact h.2
 |.bin ..,_,h,hc=>by
  simp only[kids,ew,dE,eM]at hc;rcases hc with rfl|rfl;exact h.2.1;exact h.2.2
theorem rR.pN{q:Int->Int->Int->Prop}{ts:List Tr}(hc:rR ts)(h:∀u∈ts,Wit.Nf q u):∀t:Tr,t∈ts->Wit.pN q t
 |.leaf ..,m=>h _ m
 |.un _ _ _ _ a,m=>⟨h _ m,hc.pN h a (hc.mem m a (by simp[kids]))⟩
 |.bin _ _ _ _ a b,m=>⟨h _ m,hc.pN h a (hc.mem m a (by simp[kids])),hc.pN h b (hc.mem m b (by simp[kids]))⟩
theorem Ak(t:Tr):t∈kK t:=(nK t).mem
theorem Et  :pN q t↔∀u∈kK t,Nf q u:=
 ⟨λh u hu=>(xI (λ_ m _ hc=>m.Au hc) t h (λu hu=>by cases hu) u hu).Nf,λh=>(nK t).qU.pN h t (Ak t)⟩
theorem wR {ts:List Tr}:∀{u:Tr},Nf q u↔q (fM ts u).op (fM ts u).i (fM ts u).g
 |.leaf ..=>Iff.rfl
 |.un ..=>Iff.rfl
 |.bin ..=>Iff.rfl
theorem Hn  :pN q t↔∀n∈iD t,q n.op n.i n.g:=by
 rw[Et];show _↔∀n∈ff (kK t),_;unfold ff;constructor;intro h n m;obtain⟨u,hu,rfl⟩:=eA.1 m;exact wR.1 (h u hu);intro h u hu;exact wR.2 (h _ (cQ hu))
def Ki(h:NV->Nat)(c:List NV):Nat:=c.foldl (λa n=>a|||h n) 0
theorem FB{h:NV->Nat} {n:NV}:Ki h (c++[n])=Ki h c|||h n:=by simp[Ki]
theorem CL{h:NV->Nat}{j:Nat} :(Ki h c).testBit j=true↔∃n∈c,(h n).testBit j=true:=by
 induction c using mU with
 |h0=>simp[Ki]
 |h1 c n p=>
  rw[FB,Nat.testBit_or,dK,p];simp only[dP,de];constructor;rintro (⟨m,h1,h2⟩|h1);exact⟨m,.inl h1,h2⟩;exact⟨n,.inr rfl,h1⟩;rintro ⟨m,h1|rfl,h2⟩;exact .inl ⟨m,h1,h2⟩;exact .inr h2
def QP(n:NV):Nat:=if n.op=3 then 2^n.i.toNat else 0
def QV(n:NV):Nat:=(if sJ n.op=true then 2^n.i.toNat else 0)|||n.g.toNat
structure OT (op i e g:Int):Prop where
  i0:iO op=false->i=0
  e0:op≠17->e=0
  g0:oP op=false->g=0
  fact:op=3->0<=i/\i<8
  ag:sJ op=true->0<=i/\i<4
  act:op=17->(0<=i/\i<8)/\0<=e/\e<8
  gr:oP op=true->1<=g/\g<16
theorem kM{op i e g:Int}(h:kN op i e g=0):OT op i e g:=by
 unfold kN at h;split at h;cases h;rename_i h1;split at h;cases h;rename_i h2;simp only[dK,dx,dh,bne_iff_ne,ne_eq,eJ,not_or,not_and,bS,bP,Classical.not_not]at h1 h2;obtain⟨⟨F,E⟩,D⟩:=h1;obtain⟨⟨⟨C,w⟩,p⟩,m⟩:=h2;refine⟨F,E,D,λe=>?_,λe=>?_,λe=>?_,λe=>?_⟩;have:=C e;omega;have:=w e;omega;have:=p e;omega;have:=m e;omega
def Qc(m k A:Nat):Bool:=(List.range k).all (λi=>gb m i !=1||decide (i<A))
def Oj(f:List NV)(A B:Nat):Bool:=fX f==0 && (Qc (Ki QV (eT f)) 4 A && Qc (Ki QP (eT f)) 8 B)
def P4(A B:Nat)(op i g:Int):Prop:=(sJ op=true->i.toNat<A)/\(op=3->i.toNat<B)/\g.toNat<2^A
theorem fT.QB{f:List NV}(h:fT f):∀n∈f,1<=n.op/\n.op<=21:=λn m=>by
 obtain⟨i,hi,rfl⟩:=cG.1 m;exact(h i hi).op
def qB(a b:Nat):Nat:=a &&& (511^^^b)
theorem u6 (ha:a<512):qB a b=0↔∀i,a.testBit i=true->b.testBit i=true:=by
 have m:∀i,(511:Nat).testBit i=decide (i<9):=λi=>by
  rw[show(511:Nat)=2^9 - 1 from rfl,Nat.testBit_two_pow_sub_one]
 constructor;intro h i hi;have p:i<9:=by
  refine bh (λhc=>?_);rw[Nat.testBit_lt_two_pow (dg ha (by show 2^9<=2^i;exact cM aI aH))]at hi;cases hi
 have:=eK (λx=>x.testBit i) h;simp only[qB,Nat.testBit_and,Nat.testBit_xor,hi,m,p,decide_true,Nat.zero_testBit,Bool.true_and,Bool.true_bne]at this;simpa using this;intro h;refine Nat.eq_of_testBit_eq (λi=>?_);rw[qB,Nat.testBit_and,Nat.testBit_xor,m,Nat.zero_testBit];cases e:a.testBit i with
 |false=>rfl
 |true=>
  rw[h i e];have p:i<9:=by
   refine bh (λhc=>?_);rw[Nat.testBit_lt_two_pow (dg ha (by show 2^9<=2^i;exact cM aI aH))]at e;cases e
  simp[p]
theorem Gw(n:NV):HL n<512:=by
 have:=ze n.op;have:=Gx n;omega
theorem Gu  :qB (re c) b=0↔∀n∈c,qB (HL n) b=0:=by
 rw[u6 (zd c)];constructor;intro h n m;rw[u6 (Gw n)];exact λi hi=>h i (CL.2 ⟨n,m,hi⟩);intro h i hi;obtain⟨n,m,hb⟩:=CL.1 (show(Ki HL c).testBit i=true from hi);exact(u6 (Gw n)).1 (h n m) i hb
theorem FD{p:Int->Prop}(h:∀k:Nat,k<21->p ((k:Int)+1)){op:Int}(ho:1<=op/\op<=21):p op:=by
 have:=h (op.toNat - 1) aH;rw[show(((op.toNat - 1:Nat):Int)+1)=op by omega]at this;exact this
theorem Jl  {r:Int->Prop}(w:t.ok)(p:∀{op:Int},(1<=op/\op<=21)->(qB (ED op).toNat b=0↔r op)):qB (re (iD t)) b=0↔pN (λop _ _=>r op) t:=by
 rw[Gu,Hn];have ho:=(th w).QB;exact⟨λh n m=>(p (ho n m)).1 (h n m),λh n m=>(p (ho n m)).2 (h n m)⟩
theorem He{P:av}{t:ax} (ha:a<512)(hb:b<512):pD P .andNot t (aS a) (aS b) (aS (qB a b)):=by
 refine bI _ ?_;have h1:(BitVec.ofInt 64 (a:Int)).toNat=a:=by
  rw[cy,cU];exact dI aH
 have h2:BitVec.ofInt 64 (b:Int)=BitVec.ofNat 64 b:=cy ..;have h0:BitVec.ofInt 64 (a:Int)=BitVec.ofNat 64 a:=cy ..;have hx:qB a b<2^9:=Nat.and_lt_two_pow _ (by show 511^^^b<2^9;exact Nat.xor_lt_two_pow aI aH);have h:(BitVec.ofInt 64 (a:Int) &&& ~~~ BitVec.ofInt 64 (b:Int))=BitVec.ofNat 64 (qB a b):=by
  rw[h0,h2];apply BitVec.eq_of_getLsbD_eq;intro i hi;rw[cS,BitVec.getLsbD_not,BitVec.getLsbD_ofNat,BitVec.getLsbD_ofNat,BitVec.getLsbD_ofNat,qB,Nat.testBit_and,Nat.testBit_xor,show(511:Nat)=2^9 - 1 from rfl,Nat.testBit_two_pow_sub_one];have p:¬i<9->a.testBit i=false:=λhc=>Nat.testBit_lt_two_pow (dg ha (by show 2^9<=2^i;exact cM aI aH));by_cases m:i<9;simp[hi,m];simp[hi,p m]
 show(binOp .andNot t (aS a) (aS b))=_;show(pure (Value.int .i64 (IntKind.i64.wrap ((BitVec.ofInt 64 (a:Int) &&& ~~~ BitVec.ofInt 64 (b:Int)).toNat:Int))):Sem aC)=_;rw[h,cU,dI aH,IntWalk.i64_in _ aH]
theorem OF{P:av}{t:ax} (ha:a<512)(hb:b<512):pD P .and t (aS a) (aS b) (aS (a &&& b:Nat)):=by
 refine bI _ ?_;have hx:a &&& b<2^9:=Nat.and_lt_two_pow _ aH;have h1:(BitVec.ofInt 64 (a:Int)).toNat=a:=by
  rw[cy,cU];exact dI aH
 have h2:(BitVec.ofInt 64 (b:Int)).toNat=b:=by
  rw[cy,cU];exact dI aH
 show(pure (Value.int .i64 (IntKind.i64.wrap ((BitVec.ofInt 64 (a:Int) &&& BitVec.ofInt 64 (b:Int)).toNat:Int))):Sem aC)=_;rw[BitVec.toNat_and,h1,h2,IntWalk.i64_in _ aH]
def Od(n:Int)(val:List fC)(rel:List (List fC))(f:List NV):Int:=
 if GX n val rel≠0 then GX n val rel else if fX f≠0 then fX f else if qB (re (eT f)) 15≠0 then 10 else if Oj f rel.length val.length=false then 2 else 0
def OK(A B:Nat)(op i g:Int):Prop:=op<=13/\P4 A B op i g
end
end Go.Proofs.Wit
namespace Go.Proofs.Wit
structure Qq (A B:Nat) (nd:NV):Prop where
  Ro:1<=nd.op
  QC:nd.op<=13
  fact:nd.op=3->0<=nd.i/\nd.i.toNat<B
  ag:nd.op=9\/nd.op=10->0<=nd.i/\nd.i.toNat<A
  gr:11<=nd.op->1<=nd.g/\nd.g.toNat<2^A
structure mf (g:List NV):Prop where
  nG:fX g=0
  can:g=iD (gA g)
theorem mf.ok{g:List NV}(h:mf g):(gA g).ok:=(fA.1 h.nG).top
theorem mf.of{t:Tr}(h:t.ok)(m:(iD t).length<=200):mf (iD t):=⟨(u5 h m).2.1,by rw[(u5 h m).2.2]⟩
theorem mf.eT{f:List NV}(h:fX f=0):mf (eT f):=by
 have p:=uX h;have m:=(fA.1 h).len;rw[jN h]at p⊢;exact .of (fA.1 h).top aH
theorem uF{f:List NV}(h:fX f=0):gA (eT f)=gA f:=by
 rw[jN h];exact nu (fA.1 h).top.wf
theorem mf.len{g:List NV}(h:mf g):g.length<=200:=(fA.1 h.nG).len
theorem mf.nodes{g:List NV}(h:mf g):fT g:=(fA.1 h.nG).nodes
theorem mf.trees{g:List NV}(h:mf g):Wit.trees g=kK (gA g):=by
 have:=h.can;rw[this]
 conv=>rhs;rw[<-this]
 exact sP h.ok.wf
theorem mf.sub{g:List NV}(h:mf g){k:Nat}(hk:k<g.length):mf (iz g k)/\gA (iz g k)=eP g k:=by
 have m:(eP g k).ok:=h.nodes.tree k hk;have w:=sf h.nodes.ord hk;have p:=h.len;have e:iz g k=iD (eP g k):=by
  rw[iz,if_neg (by simp only[h.nG,ne_eq,not_true_eq_false,false_or];omega),di]
 rw[e];exact⟨.of m aH,nu m.wf⟩
end Go.Proofs.Wit
namespace Go.Proofs.Wit
open Go Go.RowKit
section
variable{a t:Tr}
theorem ES{c:Tr}(h:c∈kids t):kK c⊆kK t:=
 lW c (ts:=[]) (nK t).qU ((nK t).qU.mem (Ak t) c h) (List.nil_subset _)
theorem o8{c:Tr}(h:c∈kids t):(iD c).length<=(iD t).length:=by
 rw[lT,lT];exact(nK c).nd.length_le_of_subset (ES h)
theorem oH (h:200<(iD t).length):bT t=[]:=if_pos h
theorem AV (h:¬200<(iD t).length):bT t=iD t:=if_neg h
theorem AW(t:Tr):(bT t).length<=200:=by
 unfold bT;split;simp;omega
theorem B6 :bT t=[]↔200<(iD t).length:=by
 constructor;intro h;refine bh (λhn=>?_);rw[AV hn]at h;have:=o7 t;rw[h]at this;exact absurd this aL;exact oH
theorem qy{n:NV}{gs:List (List NV)}(h:∃g∈gs,fX g≠0):gv n gs=[]:=if_pos h
theorem JI(n:NV)(gs:List (List NV)):(gv n gs).length<=200:=by
 unfold gv
 repeat' split
 simp;simp;simp;omega
theorem pb{op i e g:Int} (ha:a.ok)(hop:1<=op/\op<=21)(hX:jd op=true)(hY:iH op=false)(hf:kN op i e g=0):gv ⟨op,i,e,g,0,0⟩ [bT a]=bT (.un op i e g a):=by
 by_cases hl:200<(iD a).length;rw[oH hl,qy ⟨[],by simp,aI⟩,oH (dg hl (o8 (by simp[kids])))];obtain⟨h1,h2,h3⟩:=u5 ha aH;rw[h1,Ox h2 hop hX hY hf rfl,h3]
theorem jI{op i e g:Int}{b:Tr}(ha:a.ok)(hb:b.ok)(hop:1<=op/\op<=21)(hY:iH op=true)(hf:kN op i e g=0):gv ⟨op,i,e,g,0,0⟩ [bT a,bT b]=bT (.bin op i e g a b):=by
 by_cases hl:200<(iD a).length;rw[oH hl,qy ⟨[],by simp,aI⟩,oH (dg hl (o8 (by simp[kids])))];by_cases hl2:200<(iD b).length;rw[oH hl2,qy ⟨[],by simp,aI⟩,oH (dg hl2 (o8 (by simp[kids])))];obtain⟨h1,h2,h3⟩:=u5 ha aH;obtain⟨k1,k2,k3⟩:=u5 hb aH;rw[h1,k1,Ow h2 k2 hop hY hf,h3,k3]
theorem AN (h:t.ok):eT (bT t)=bT t:=by
 by_cases hl:200<(iD t).length;rw[oH hl];exact if_pos aI;obtain⟨h1,h2,h3⟩:=u5 h aH;rw[h1,jN h2,h3]
def tv(a b:List NV):List NV:=gv ⟨5,0,0,0,0,0⟩ [a,b]
def pM:List (List NV)->List NV
 |[]=>gv ⟨1,0,0,0,0,0⟩ []
 |g::gs=>gs.foldl tv (eT g)
def nZ:List Tr->Tr
 |[]=>.leaf 1 0 0 0
 |t::ts=>ts.foldl (λa b=>.bin 5 0 0 0 a b) t
theorem mc{b:Tr}(ha:a.ok)(hb:b.ok):(Tr.bin 5 0 0 0 a b).ok:=⟨aH,rfl,rfl,ha,hb⟩
theorem AG:∀{ts:List Tr} {t:Tr},t.ok->(∀u∈ts,u.ok)->(ts.map bT).foldl tv (bT t)=bT (ts.foldl (λa b=>.bin 5 0 0 0 a b) t)
 |[],_,_,_=>rfl
 |u::us,t,h,hs=>by
  rw[ep,List.foldl_cons,List.foldl_cons,tv,jI h (hs u aL) aH rfl rfl];exact AG (mc h (hs u aL)) (λv hv=>hs v (by simp[hv]))
theorem ys:∀{ts:List Tr},(∀u∈ts,u.ok)->pM (ts.map bT)=bT (nZ ts)
 |[],_=>MI (n:=⟨1,0,0,0,0,0⟩) aI rfl rfl rfl rfl
 |t::ts,h=>by
  rw[ep,pM,AN (h t aL)];exact AG (h t aL) (λu hu=>h u (by simp[hu]))
def KE(a:ae)(cap lo sz:Nat):ae:=if cap=lo then a else a.map (·.add (lo*sz))
theorem Sl.drop{w:aB}{a:ae}{xs:ai}(h:Sl w a xs){cap lo:Nat}(hc:xs.length<=cap):Sl w (KE a cap lo 1) (xs.drop lo):=by
 by_cases hl:xs.length<=lo;rw[List.drop_eq_nil_of_le hl];exact Sl.nil _ _;obtain⟨b,o,rfl,hb⟩:=h.isSome aH;have e0:KE (some ⟨b,o,none⟩) cap lo 1=some ⟨b,o+lo,none⟩:=by
  rw[KE,if_neg aH,dW,Addr.add,eH];split;rename_i hz;subst hz;rfl;rfl
 rw[e0];refine⟨λ_=>⟨b,o+lo,rfl,hb⟩,λi hi=>?_⟩;rw[List.length_drop]at hi;have:=h.cell (lo+i) aH;have e1:sK (some ⟨b,o+lo,none⟩) i=sK (some ⟨b,o,none⟩) (lo+i):=by
  simp only[sK,Option.getD_some,Nat.add_assoc]
 rw[e1,this];simp[aX,List.getElem?_drop]
section
variable{P:av}{w0:aB}{S:aq}{n:Nat}{l:Fl}{h:Hl}{ops:aj}{i d:Nat}{ty:ax}{pos:aA}{aft:ak}{g:Option (Nat×Bool)}
theorem xk{t e:ax}{x y:au}{a:ae}{m cap lo:Nat}{kd:aw}{j:Int}{sz:Nat}(ho:ops[i]?=some ⟨some d,.slice t x (some y) none none,ty,pos,aft,g⟩)(hw:fg ops l g=true)
  (hx:fW l x=some (.slice a m cap))(hy:fW l y=some (.int kd j))(hd:Nat.blt d n=true)(hu:P.underlying t=some (.slice e))(he:∀w,(sizeOf e).run P w=.ok sz w)(hj:j=lo)(hc:lo<=m):
  eS P w0 S n h ops i l d (.slice (KE a cap lo sz) (m - lo) (cap - lo)):=
 .of ho hw rfl rfl hd (λt w Ds _ hF hS=>⟨.value (.slice (KE a cap lo sz) (m - lo) (cap - lo)),by
  subst hj;simp only[execOp,hF.fW hx,hF.fW hy,dW,Option.map_none,Instr.sliceAt,Sem.run_bind,run_underlying hu,Result.andThen_ok,Instr.slice,Instr.sliceBounds,Instr.sliceBound,asIntOf,Sem.run_pure];rw[if_pos ⟨aH,aH⟩];simp only[Sem.run_pure,Result.andThen_ok,he,di];rfl,rfl⟩)
end
end
end Go.Proofs.Wit
