/- Laws of walks, each under its own conditions. -/
import Derived.Test.YtpbhoidjmpjfpaaGreatDoorXP12
set_option maxRecDepth 100000
set_option maxHeartbeats 40000000
namespace Go.Proofs.Wit
open Go Go.RowKit
theorem I5{r:List fi}{l:Int}:Av r l=true↔m9 l=0/\kH r.length r=0/\∀p∈mT l,nF p r:=by
 rw[Av,dG,dG,eU,eU,dI];constructor;rintro ⟨⟨h1,h2⟩,h3⟩;exact⟨h1,h2,λp hp=>(Ba.1 (h3 p hp)).2⟩;rintro ⟨h1,h2,h3⟩;exact⟨⟨h1,h2⟩,λp hp=>Ba.2 ⟨h2,h3 p hp⟩⟩
theorem zl{n:Int}{val:List fi}{rel:List (List fi)}{l:Int}:OT n val rel l=true↔m9 l=0/\iY n val rel=0/\∀r∈rel,Av r l=true:=by
 rw[OT,dG,dG,eU,eU,dI];exact and_assoc
section
variable{n:Int}{val:List fi}{rel:List (List fi)}
end
theorem MF{P:av}{t:ax}{a b c:Nat}(ha:a<512)(hb:b<512)(hc:c=a|||b):oO P .or t (aS a) (aS b) (aS c):=by
 subst hc;refine bI _ ?_;have hx:a|||b<2^9:=Nat.or_lt_two_pow aH aH;have h1:(BitVec.ofInt 64 (a:Int)).toNat=a:=by
  rw[cJ,df];exact dT aH
 have h2:(BitVec.ofInt 64 (b:Int)).toNat=b:=by
  rw[cJ,df];exact dT aH
 rw[binOp_or];show(pure (Value.int .i64 (IntKind.i64.wrap ((BitVec.ofInt 64 (a:Int)|||BitVec.ofInt 64 (b:Int)).toNat:Int))):Sem aC)=_;rw[BitVec.toNat_or,h1,h2,IntWalk.i64_in _ aH]
def Nh(n:NV):Nat:=(EM n.op).toNat
theorem B9(op:Int):0<=EM op/\EM op<512:=by
 unfold EM
 repeat' split
 all_goals omega
theorem LC(n:NV):(Nh n:Int)=EM n.op:=by
 have:=B9 n.op;unfold Nh;omega
def nJ(c:List NV):Nat:=c.foldl (λa n=>a|||Nh n) 0
theorem Be{c:List NV}{n:NV}:nJ (c++[n])=nJ c|||Nh n:=by simp[nJ]
theorem tJ(c:List NV):nJ c<512:=by
 induction c using mB with
 |h0=>decide
 |h1 c n ih=>
  rw[Be];have h2:Nh n<2^9:=by have:=B9 n.op;unfold Nh;omega
  exact Nat.or_lt_two_pow (n:=9) ih h2
theorem sQ(f:List NV):(fw f).length<=200:=by
 by_cases h:gp f=0;exact(ox h).len;rw[fw,if_pos h];exact aG
def V1:List UInt8:=[48,49,50,51,52,53,54,55,56,57,97,98,99,100,101,102,103,104,105,106,107,108,109,110,111,112,113,114,115,116,117,118,119,120,121,122]
def WE(i:Nat):UInt8:=V1.getD i 0
def RT(n:Nat):List UInt8:=if n<16 then [WE n]else RT (n / 16)++[WE (n%16)]
termination_by n
section
variable{P:av}{r:ah}{f:ay}{R:aC->aB->Prop}{w0:aB}{S:aq}{Y:List (Nat×Obj)}{n:Nat}{k:al}{l:Fl}{h:Hl}
variable{ops:aj}{i d:Nat}{rest:aq}{ty:ax}{pos:aA}{aft:ak}{g:Option (Nat×Bool)}{t:ax}
end
structure Xw (ks:Nat->List UInt8) (n:Nat) (L:List (List UInt8×Nat)) (l:ar) (k:Nat):Prop where
  len:l.length=n
  le:k<=n
  lt:∀x v,iJ (λa b=>a==b) L x=some v->v<L.length
  inj:∀x y v,iJ (λa b=>a==b) L x=some v->iJ (λa b=>a==b) L y=some v->x=y
  at_:∀i,i<k->∃v:Nat,l.getD i 0=v/\iJ (λa b=>a==b) L (ks i)=some v
section
variable{P:av}{t:ax}
theorem IM(x:Nat):BitVec.ofInt 64 (x:Int)=BitVec.ofNat 64 x:=by
 apply BitVec.eq_of_toNat_eq;simp
theorem xm{x j:Nat}{b:Int}{k:aw}(h:b=j)(hx:x*2^j<9223372036854775808)(hj:j<=64):oO P .shl t (aS x) (.int k b) (aS ((x*2^j:Nat):Int)):=by
 subst h;refine qW (λp q=>Ce _ _ _ _ _ _ _ _) ?_;show Op.shift .shl .i64 (x:Int) k (j:Int)=_;unfold Op.shift;rw[if_neg aH,dy];show pure (Value.int .i64 (IntKind.i64.wrap ((x:Int)*2^(min j 64))))=_;rw[Nat.min_eq_left hj];have e1:((x:Int)*2^j)=((x*2^j:Nat):Int):=by norm_cast
 rw[e1,IntWalk.i64_in _ aH]
end
end Go.Proofs.Wit
namespace Go.Proofs.Wit
def VN(r s z:List fi)(v w:Nat):Bool:=(iQ (r.getD v 0#64)).all (λx=>z.getD x 0#64 &&& s.getD w 0#64 !=0#64) && (s.getD w 0#64 &&& ~~~ xG z (r.getD v 0#64)==0#64)
def OF(va vb:List fi)(ra rb:List (List fi))(z:List fi)(v w:Nat):Bool:=(fm va v==fm vb w) && (List.range ra.length).all (λi=>VN (ra.getD i []) (rb.getD i []) z v w)
def Xz(l c:List fi):Prop:=∀u v,Rl l u v->Rl c u v
section
variable{va vb:List fi}{ra rb:List (List fi)}
def Wk(va vb:List fi)(ra rb:List (List fi))(z:List fi):Prop:=∀v w,Rl z v w->OF va vb ra rb z v w=true
structure Wq (va vb:List fi) (ra rb:List (List fi)) (na nb:Nat) (z:List fi):Prop where
  len:z.length=na
  XJ:∀v w,Rl z v w->w<nb
  top:∀z':List fi,z'.length=na->(∀v w,Rl z' v w->w<nb)->Wk va vb ra rb z'->Xz z' z
theorem Oi{w i:Nat}(hw:w<64):(1#64<<<w).getLsbD i=decide (i=w):=by
 rw[BitVec.getLsbD_shiftLeft];by_cases e:i=w;subst e;simp[hw];rw[eC e];by_cases h1:i<64;by_cases h2:i<w;simp[h1,h2];have h:i - w≠0:=aH;simp[h1,h2,h];simp[h1]
end
def NG(z:List fi):Nat:=(z.map BitVec.toNat).sum
structure QC (va vb:List fi) (ra rb:List (List fi)) (na nb:Nat) (z0 z:List fi) (ch:Bool) (k:Nat):Prop where
  inv:Wq va vb ra rb na nb z
  le:NG z<=NG z0
  XT:ch=true->NG z<NG z0
  same:ch=false->∀v w,v<k->Rl z v w->OF va vb ra rb z v w=true
structure Xp (va vb:List fi) (ra rb:List (List fi)) (na nb:Nat) (z0:List fi) (k:Nat) (s:fi) (i:Nat) (z:List fi) (ch:Bool):Prop where
  xw:QC va vb ra rb na nb z0 z ch k
  row:∀w,Rl z k w->s.getLsbD w=true
  left:∀w∈(iQ s).drop i,Rl z k w
  done:ch=false->∀w∈(iQ s).take i,OF va vb ra rb z k w=true
section
variable{va vb:List fi}{ra rb:List (List fi)}{na nb k i:Nat}{z0 z:List fi}{s:fi}{ch:Bool}
end
theorem Ky{n:Nat}{z:List fi}(p:n<=64):ry n z=false↔∀v w,Rl z v w->w<n:=by
 rw[rv];constructor;intro h v w hw;have hv:=hw.HC;have h1:=h z[v] (dL hv);have e:z.getD v 0#64=z[v]:=by simp[hv]
 unfold Rl at hw;rw[e]at hw;have h2:=jg.1 h1 w hw;rw[kP p (oJ hw)]at h2;simpa using h2;intro h s hs;obtain⟨v,hv,rfl⟩:=cN.1 hs;refine jg.2 λi hi=>?_;have e:z.getD v 0#64=z[v]:=by simp[hv]
 have:=h v i (by unfold Rl;rw[e];exact hi);rw[kP p (oJ hi)];simpa using this
end Go.Proofs.Wit
namespace Go.Proofs.Wit
open Go Go.RowKit
section
variable{P:av}{t:ax}
end
section
variable{κ:Type}[DecidableEq κ]
structure Down (key:Nat->κ) (i:Nat) (j:Int) (low:Nat):Prop where
  lo:j<low
  hi:low<=i
  eq:key low=key i
  min:∀m:Nat,j<m->m<=i->key m=key i->low<=m
omit [DecidableEq κ] in
end
structure Xq (va vb:List fi) (ra rb:List (List fi)) (na nb:Nat) (z0:List fi) (k j:Nat) (z:List fi) (ch:Bool):Prop where
  xw:QC va vb ra rb na nb z0 z ch k
  done:ch=false->∀w,w<j->Rl z k w->OF va vb ra rb z k w=true
section
variable{va vb:List fi}{ra rb:List (List fi)}{na nb k j:Nat}{z0 z:List fi}{ch:Bool}
end
section
variable{P:av}{t:ax}
theorem En{x j:Nat}{b:Int}{k:aw}(h:b=j)(_hx:x<9223372036854775808)(hj:j<=64):oO P .shr t (aS x) (.int k b) (aS ((x / 2^j:Nat):Int)):=by
 subst h;refine qW (λp q=>Ce _ _ _ _ _ _ _ _) ?_;show Op.shift .shr .i64 (x:Int) k (j:Int)=_;unfold Op.shift;rw[if_neg aH,dy];show pure (Value.int .i64 ((x:Int).fdiv (2^(min j 64))))=_;rw[Nat.min_eq_left hj];have e1:((2:Int)^j)=((2^j:Nat):Int):=by norm_cast
 rw[e1,<-Int.ofNat_fdiv]
theorem CB{x:Nat}(hx:x<9223372036854775808):oO P .and t (aS x) (aS 1) (aS ((x%2:Nat):Int)):=bI _ (by
 show Op.intBits .and .i64 (x:Int) 1=_;unfold Op.intBits;have e1:(BitVec.ofInt 64 (x:Int) &&& BitVec.ofInt 64 1).toNat=x%2:=by
  rw[IM,show BitVec.ofInt 64 1=BitVec.ofNat 64 1 from rfl,BitVec.toNat_and,df,df,dT aH,dT aH,Nat.and_one_is_mod]
 show pure (Value.int .i64 (IntKind.i64.wrap ((BitVec.ofInt 64 (x:Int) &&& BitVec.ofInt 64 1).toNat:Int)))=_;rw[e1,IntWalk.i64_in _ aH])
end
def gb(g k:Nat):Nat:=g / 2^k%2
theorem DU(g k:Nat):gb g k=0\/gb g k=1:=by unfold gb;omega
def ua(n:Nat)(rel:List (List fi))(g w:Nat)(k:Nat):fi:=kC (λa (o:fi)=>if gb g a=1 then o &&& (rel.getD a []).getD w 0#64 else o) (jZ n) k
def jV(n:Nat)(rel:List (List fi))(g k:Nat):List fi:=(List.range n).map (λw=>ua n rel g w k)
def sD(n:Nat)(rel:List (List fi))(g:Nat):List fi:=jV n rel g rel.length
section
variable{n:Nat}{rel:List (List fi)}{g k w:Nat}
theorem pq:ua n rel g w (k+1)=if gb g k=1 then ua n rel g w k &&& (rel.getD k []).getD w 0#64 else ua n rel g w k:=rfl
theorem Fm(h:∀a,a<k->gb g a=0):ua n rel g w k=jZ n:=by
 induction k with
 |zero=>rfl
 |succ k ih=>
  rw[pq,if_neg (by rw[h k (dS k)];decide)];exact ih (λa ha=>h a (Nat.lt_succ_of_lt ha))
theorem ze:(jV n rel g k).length=n:=by simp[jV]
theorem Fp(hw:w<n):(jV n rel g k).getD w 0#64=ua n rel g w k:=by simp[jV,hw]
theorem DC(h:gb g k=0):jV n rel g (k+1)=jV n rel g k:=by
 unfold jV
 congr 1
 funext w;rw[pq,if_neg (by rw[h];decide)]
theorem PO{s:fi}(hn:n<=64)(h:∀i,s.getLsbD i=true->i<n):jZ n &&& s=s:=by
 apply px;intro i hi;rw[dc,kP hn hi];cases hb:s.getLsbD i with
 |false=>simp
 |true=>simp[h i hb]
theorem BZ(hn:n<=64)(h0:∀a,a<k->gb g a=0)(h1:gb g k=1){r:List fi}(hr:rel.getD k []=r)(hl:r.length=n)(hv:uk r):jV n rel g (k+1)=r:=by
 apply dK (by simp[jV,hl]);intro i e1 e2;have hi:i<n:=aH;have e3:(jV n rel g (k+1))[i]=ua n rel g i (k+1):=by simp[jV]
 rw[e3,pq,if_pos h1,Fm h0,hr];have e4:r.getD i 0#64=r[i]:=by simp[e2]
 rw[PO hn (λj hj=>by have:=hv.lt i j hj;omega),e4]
theorem DB(h1:gb g k=1){r:List fi}(hr:rel.getD k []=r):xi (λw x=>x &&& r.getD w 0#64) (jV n rel g k) n=jV n rel g (k+1):=by
 apply dK (by simp[jV,xi]);intro i e1 e2;have hi:i<n:=by simpa[jV]using e2
 have e3:(jV n rel g (k+1))[i]=ua n rel g i (k+1):=by simp[jV]
 rw[e3,pq,if_pos h1,hr];simp[xi,jV,hi]
theorem D2{f:Nat->fi->fi}{xs:List fi}{j:Nat}(hj:j<xs.length):(xi f xs j).set j (f j ((xi f xs j).getD j 0#64))=xi f xs (j+1):=by
 rw[O8 hj,if_neg (Nat.lt_irrefl j)];exact LH hj
theorem zd(hn:n<=64):∀k i,(ua n rel g w k).getLsbD i=true->i<n
 |0,i,h=>by
  rw[show ua n rel g w 0=jZ n from rfl,kP hn (oJ h)]at h;simpa using h
 |k+1,i,h=>by
  rw[pq]at h;split at h;rw[dc,dG]at h;exact zd hn k i h.1;exact zd hn k i h
end
theorem Hh{g:Nat}:∀k,(∀a,a<k->gb g a=0)->g%2^k=0
 |0,_=>by simp[Nat.mod_one]
 |k+1,h=>by
  have h1:=Hh k (λa ha=>h a (Nat.lt_succ_of_lt ha));have h2:=h k (dS k);unfold gb at h2;rw[Nat.mod_pow_succ,h1,h2,Nat.mul_zero]
theorem Hf{g k:Nat}(h1:1<=g)(h2:g<2^k):¬∀a,a<k->gb g a=0:=λh=>by
 have:=Hh k h;rw[dT h2]at this;omega
section
variable{P:av}{r:ah}{f:ay}{R:aC->aB->Prop}{w0:aB}{S:aq}{Y:List (Nat×Obj)}{n:Nat}{k:al}{l:Fl}{h:Hl}
variable{ops:aj}{i d:Nat}{rest:aq}{ty:ax}{pos:aA}{aft:ak}{g:Option (Nat×Bool)}
end
end Go.Proofs.Wit
namespace Go.Proofs.Wit
open Go
section
variable{r:List fi}{n u w:Nat}{c s:fi}
theorem BP{i:Nat}(hw:w<64):(1#64<<<w).getLsbD i=true↔i=w:=by rw[Oi hw];simp
def EY(q:Nat->Bool)(n:Nat):fi:=kC (λw (o:fi)=>if q w=true then o|||1#64<<<w else o) 0#64 n
theorem Iy{q:Nat->Bool} :EY q (n+1)=if q n=true then EY q n|||1#64<<<n else EY q n:=rfl
theorem yL{q:Nat->Bool}:∀{n i:Nat},n<=64->((EY q n).getLsbD i=true↔i<n/\q i=true)
 |0,i,_=>by simp[EY,kC]
 |n+1,i,w=>by
  rw[Iy];have p:=yL (q:=q) (n:=n) (i:=i) aH;by_cases hq:q n=true;rw[if_pos hq,du,dV,p,BP aH];constructor;rintro (⟨h1,h2⟩|rfl);exact⟨aH,h2⟩;exact⟨aH,hq⟩;rintro ⟨h1,h2⟩;rcases bR.1 h1 with h|h;exact .inl ⟨h,h2⟩;exact .inr h;rw[if_neg hq,p];constructor;rintro ⟨h1,h2⟩;exact⟨aH,h2⟩;rintro ⟨h1,h2⟩;rcases bR.1 h1 with h|rfl;exact⟨h,h2⟩;exact absurd h2 hq
def wO(r:List fi)(n:Nat)(s:fi):fi:=EY (λw=>r.getD w 0#64 &&& ~~~s==0#64) n
theorem kB    (h:n<=64):(wO r n s).getLsbD w=true↔w<n/\∀u,Rl r w u->s.getLsbD u=true:=by
 rw[wO,yL h,eU,jg];rfl
def Km(r:List fi)(c:fi)(n:Nat)(s:fi):fi:=kC (λw (o:fi)=>if o.getLsbD w=true then o|||(r.getD w 0#64 &&& c)else o) s n
def wk(r:List fi)(n v:Nat)(c:fi)(k:Nat):fi:=kC (λ_ (o:fi)=>Km r c n o) (r.getD v 0#64 &&& c) k
def GQ(r:List fi)(n v:Nat)(c:fi):fi:=wk r n v c n
def FX(r:List fi)(n:Nat)(c s:fi):fi:=EY (λw=>GQ r n w c &&& ~~~s==0#64) n
def E6(r:List fi)(c:fi)(w:Nat)(o:fi):fi:=if o.getLsbD w=true then o|||(r.getD w 0#64 &&& c)else o
theorem GL  {i:Nat}{o:fi}(h:o.getLsbD i=true):(E6 r c w o).getLsbD i=true:=by
 unfold E6;split;rw[du,h,eJ];exact h
theorem BL{r:List fi}{c:fi}{s:fi}{i:Nat}(h:s.getLsbD i=true):∀k,(kC (E6 r c) s k).getLsbD i=true
 |0=>h
 |k+1=>GL (BL h k)
inductive Ad (r:List fi) (c:fi) (v:Nat):Nat->Prop where
  |one {u:Nat} (h:Rl r v u) (hc:c.getLsbD u=true):Ad r c v u
  |step {u x:Nat} (h:Ad r c v u) (h2:Rl r u x) (hc:c.getLsbD x=true):Ad r c v x
theorem tC{r:List fi}{c:fi}{v:Nat}{s:fi}(h:∀i,s.getLsbD i=true->Ad r c v i):∀k i,(kC (E6 r c) s k).getLsbD i=true->Ad r c v i
 |0,i,hi=>h i hi
 |k+1,i,hi=>by
  rw[kC,E6]at hi;split at hi;rename_i hk;rw[du,dV]at hi;rcases hi with hi|hi;exact tC h k i hi;rw[dc,dG]at hi;exact .step (tC h k k hk) hi.1 hi.2;exact tC h k i hi
theorem ru{r:List fi}{n v:Nat}{c:fi}:∀k i,(wk r n v c k).getLsbD i=true->Ad r c v i
 |0,i,hi=>by
  rw[wk,kC,dc,dG]at hi;exact .one hi.1 hi.2
 |k+1,i,hi=>tC (λi h=>ru k i h) n i hi
theorem BK    (h:Km r c n s=s) (hw:w<n)(hs:s.getLsbD w=true)(D:Rl r w u)(hc:c.getLsbD u=true):s.getLsbD u=true:=by
 have p:∀k,w<k->(kC (E6 r c) s k).getLsbD u=true:=by
  intro k
  induction k with
  |zero=>intro h;omega
  |succ k C=>
   intro hk;rcases bR.1 hk with h1|rfl;exact GL (C h1);rw[kC,E6,if_pos (BL hs w),du,dc,show(r.getD w 0#64).getLsbD u=true from D,hc];simp
 have:=p n hw;rw[<-h];exact this
def Eb(n:Nat)(s:fi):Nat:=(List.range n).countP (λi=>s.getLsbD i)
theorem Po  :Eb n s<=n:=by
 have:=cy (p:=λi=>s.getLsbD i) (l:=List.range n);simpa[Eb]using this
theorem zV {t:fi}(hs:∀i,s.getLsbD i=true->i<n)(p:∀i,t.getLsbD i=true->i<n)(h:∀i,i<n->(s.getLsbD i=true↔t.getLsbD i=true)):s=t:=by
 apply bS;intro i _;rw[dU];exact⟨λh1=>(h i (hs i h1)).1 h1,λh1=>(h i (p i h1)).2 h1⟩
theorem Cl {t:fi}(hs:∀i,s.getLsbD i=true->i<n)(C:∀i,t.getLsbD i=true->i<n)(h:∀i,s.getLsbD i=true->t.getLsbD i=true)(w:s≠t):Eb n s<Eb n t:=by
 obtain⟨j,hj,h1,h2⟩:∃j,j<n/\s.getLsbD j=false/\t.getLsbD j=true:=bj (λp=>w (zV hs C (λi hi=>⟨h i,λh2=>by
  cases e:s.getLsbD i with
  |true=>rfl
  |false=>exact absurd ⟨i,hi,e,h2⟩ p⟩)));exact Pn (λi _ hi=>h i hi) hj h1 h2
theorem R6 {f:fi->fi} (p:∀t i,t.getLsbD i=true->(f t).getLsbD i=true)(hb:∀k i,(kC (λ_ o=>f o) s k).getLsbD i=true->i<n):f (kC (λ_ o=>f o) s n)=kC (λ_ o=>f o) s n:=by
 have C:∀k,f (kC (λ_ o=>f o) s k)=kC (λ_ o=>f o) s k\/k<=Eb n (kC (λ_ o=>f o) s k):=by
  intro k
  induction k with
  |zero=>exact .inr aG
  |succ k w=>
   by_cases he:f (kC (λ_ o=>f o) s k)=kC (λ_ o=>f o) s k;left;show f (f (kC (λ_ o=>f o) s k))=f (kC (λ_ o=>f o) s k);rw[he];exact he;rcases w with w|w;exact absurd w he;right;have:=Cl (n:=n) (hb k) (hb (k+1)) (λi hi=>p _ i hi) (λe=>he e.symm);omega
 rcases C n with h|h;exact h;refine bj (λD=>?_);have:=Cl (n:=n) (hb n) (hb (n+1)) (λi hi=>p _ i hi) (λe=>D e.symm);have:=Po (n:=n) (s:=kC (λ_ o=>f o) s (n+1));omega
theorem Ad.lt  {v:Nat}(p:∀a b,Rl r a b->b<n)(h:Ad r c v u):u<n:=by
 cases h with
 |one h _=>exact p _ _ h
 |step _ h _=>exact p _ _ h
theorem IG {v:Nat} (D:∀a b,Rl r a b->b<n) :(GQ r n v c).getLsbD u=true↔Ad r c v u:=by
 have p:Km r c n (GQ r n v c)=GQ r n v c:=R6 (λt i hi=>BL hi n) (λk i hi=>(ru k i hi).lt D);constructor;exact ru n u;intro h
 induction h with
 |@one u h hc=>
  have h0:(wk r n v c 0).getLsbD u=true:=by rw[wk,kC,dc,show(r.getD v 0#64).getLsbD u=true from h,hc];rfl
  have w:∀k,(wk r n v c k).getLsbD u=true:=by
   intro k
   induction k with
   |zero=>exact h0
   |succ k C=>exact BL C n
  exact w n
 |step h h2 hc C=>exact BK p (h.lt D) C h2 hc
theorem py    (p:n<=64)(h:∀a b,Rl r a b->b<n):(FX r n c s).getLsbD w=true↔w<n/\∀u,Ad r c w u->s.getLsbD u=true:=by
 rw[FX,yL p,eU,jg];exact and_congr_right (λ_=>forall_congr' (λu=>by rw[IG h]))
def pX(rel:List (List fi))(g w:Nat)(k:Nat):fi:=kC (λa (o:fi)=>if gb g a=1 then o|||(rel.getD a []).getD w 0#64 else o) 0#64 k
def ke(n:Nat)(rel:List (List fi))(g k:Nat):List fi:=(List.range n).map (λw=>pX rel g w k)
def mZ(n:Nat)(rel:List (List fi))(g:Nat):List fi:=ke n rel g rel.length
theorem A6{rel:List (List fi)}{g w i:Nat}:∀{k:Nat},(pX rel g w k).getLsbD i=true↔∃a,a<k/\gb g a=1/\Rl (rel.getD a []) w i
 |0=>by simp[pX,kC]
 |k+1=>by
  have p:=A6 (rel:=rel) (g:=g) (w:=w) (i:=i) (k:=k);show(if gb g k=1 then pX rel g w k|||(rel.getD k []).getD w 0#64 else pX rel g w k).getLsbD i=true↔_;constructor;intro h;split at h;rename_i hg;rw[du,dV]at h;rcases h with h|h;obtain⟨a,h1,h2⟩:=p.1 h;exact⟨a,aH,h2⟩;exact⟨k,aH,hg,h⟩;obtain⟨a,h1,h2⟩:=p.1 h;exact⟨a,aH,h2⟩;rintro ⟨a,h1,h2,C⟩;rcases bR.1 h1 with D|rfl;have:=p.2 ⟨a,D,h2,C⟩;split;rw[du,this,eJ];exact this;rw[if_pos h2,du,show((rel.getD a []).getD w 0#64).getLsbD i=true from C,Bool.or_true]
theorem wC {rel:List (List fi)}{g:Nat}:Rl (mZ n rel g) w u↔w<n/\∃a,a<rel.length/\gb g a=1/\Rl (rel.getD a []) w u:=by
 unfold Rl mZ ke;by_cases hw:w<n;rw[show((List.range n).map (λw=>pX rel g w rel.length)).getD w 0#64=pX rel g w rel.length from by simp[hw],A6];exact⟨λh=>⟨hw,h⟩,λh=>h.2⟩;rw[show((List.range n).map (λw=>pX rel g w rel.length)).getD w 0#64=0#64 from by simp[hw]];constructor;intro h;simp at h;rintro ⟨h,_⟩;exact absurd h hw
def HP(op:Int)(x y all:fi):fi:=if op=1 then all else if op=4 then all &&& ~~~x else if op=5 then x &&& y else if op=6 then x|||y else if op=7 then(all &&& ~~~x)|||y else if op=8 then all &&& ~~~(x^^^y)else 0#64
def pf(n:Nat)(val:List fi)(rel:List (List fi))(op i g:Int)(x y:fi):fi:=
 if op=3 then val.getD i.toNat 0#64 else if op<=8 then HP op x y (jZ n)
 else if op=9 then wO (rel.getD i.toNat []) n x else if op=10 then jZ n &&& ~~~wO (rel.getD i.toNat []) n (jZ n &&& ~~~x)
 else if op=11 then wO (mZ n rel g.toNat) n x else if op=12 then wO (sD n rel g.toNat) n x else FX (mZ n rel g.toNat) n x y
def rk(n:Nat)(val:List fi)(rel:List (List fi)):Tr->fi
 |.leaf op i _ g=>pf n val rel op i g 0#64 0#64
 |.un op i _ g a=>pf n val rel op i g (rk n val rel a) 0#64
 |.bin op i _ g a b=>pf n val rel op i g (rk n val rel a) (rk n val rel b)
end
abbrev Wo(p:ar)(v w:Nat):Prop:=p.getD v 0=p.getD w 0
structure XZ (n:Nat) (p' p:ar) (R:List fi):Prop where
  fb:∀v w,v<n->w<n->Wo p' v w->∀u,Rl R v u->∃u',Rl R w u'/\Wo p u u'
def XA(n:Nat)(p:ar)(s:fi):Prop:=∀v w,v<n->w<n->Wo p v w->s.getLsbD v=true->s.getLsbD w=true
section
variable{n:Nat}{p p':ar}{s t c:fi}{R:List fi}
theorem Et(h:n<=64){v:Nat}(hv:v<n):(jZ n).getLsbD v=true:=by rw[kP h aH];simpa using hv
theorem On{v:Nat}(hv:v<64):(~~~s).getLsbD v=!s.getLsbD v:=by rw[de];simp[hv]
theorem vx{rel:List (List fi)}{g:Nat}(h:∀r∈rel,∀a b,Rl r a b->b<n){a b:Nat}(hu:Rl (mZ n rel g) a b):b<n:=by
 obtain⟨_,k,hk,_,w⟩:=wC.1 hu;exact h _ (by rw[aY,bJ hk];exact dL hk) _ _ w
end
section
variable{n:Nat}{val:List fi}{qM:List (List fi)}
end
def jE(q:Int->Int->Int->Prop):Tr->Prop
 |.leaf op i _ g=>q op i g
 |.un op i _ g a=>q op i g/\jE q a
 |.bin op i _ g a b=>q op i g/\jE q a/\jE q b
theorem jE.mono{q w:Int->Int->Int->Prop}(h:∀op i g,q op i g->w op i g):∀{t:Tr},jE q t->jE w t
 |.leaf _ _ _ _,h1=>h _ _ _ h1
 |.un _ _ _ _ _,h1=>⟨h _ _ _ h1.1,h1.2.mono h⟩
 |.bin _ _ _ _ _ _,h1=>⟨h _ _ _ h1.1,h1.2.1.mono h,h1.2.2.mono h⟩
def VG(op:Int):Nat:=if 9<=op/\op<=15\/18<=op then 1 else 0
def Pf:Tr->Nat
 |.leaf op _ _ _=>VG op
 |.un op _ _ _ a=>Pf a+VG op
 |.bin op _ _ _ a b=>max (Pf a) (Pf b)+VG op
section
variable{op:Int}{q:Int->Int->Int->Prop}{c f:List NV}{n:NV}{h:NV->Nat}{A a b k:Nat}{t:Tr}
def S5(q:Int->Int->Int->Prop):Tr->Prop
 |.leaf op i _ g=>q op i g
 |.un op i _ g _=>q op i g
 |.bin op i _ g _ _=>q op i g
theorem jE.S5{q:Int->Int->Int->Prop}:∀{t:Tr},jE q t->Wit.S5 q t
 |.leaf ..,h=>h
 |.un ..,h=>h.1
 |.bin ..,h=>h.1
theorem jE.Am :∀{t c:Tr},jE q t->c∈kids t->jE q c
 |.leaf ..,_,_,hc=>by cases hc
 |.un ..,_,h,hc=>by rw[dn.1 hc];exact h.2
 |.bin ..,_,h,hc=>by
  simp only[kids,eH,dO,eX]at hc;rcases hc with rfl|rfl;exact h.2.1;exact h.2.2
theorem oN.jE{q:Int->Int->Int->Prop}{ts:List Tr}(hc:oN ts)(h:∀u∈ts,Wit.S5 q u):∀t:Tr,t∈ts->Wit.jE q t
 |.leaf ..,p=>h _ p
 |.un _ _ _ _ a,p=>⟨h _ p,hc.jE h a (hc.mem p a (by simp[kids]))⟩
 |.bin _ _ _ _ a b,p=>⟨h _ p,hc.jE h a (hc.mem p a (by simp[kids])),hc.jE h b (hc.mem p b (by simp[kids]))⟩
theorem lx(t:Tr):t∈iu t:=(kp t).mem
theorem Jq  :jE q t↔∀u∈iu t,S5 q u:=
 ⟨λh u hu=>(th (λ_ p _ hc=>p.Am hc) t h (λu hu=>by cases hu) u hu).S5,λh=>(kp t).sR.jE h t (lx t)⟩
theorem zh {ts:List Tr}:∀{u:Tr},S5 q u↔q (gA ts u).op (gA ts u).i (gA ts u).g
 |.leaf ..=>Iff.rfl
 |.un ..=>Iff.rfl
 |.bin ..=>Iff.rfl
theorem z8  :jE q t↔∀n∈iA t,q n.op n.i n.g:=by
 rw[Jq];show _↔∀n∈fH (iu t),_;unfold fH;constructor;intro h n p;obtain⟨u,hu,rfl⟩:=eL.1 p;exact zh.1 (h u hu);intro h u hu;exact zh.2 (h _ (c7 hu))
def v3(h:NV->Nat)(c:List NV):Nat:=c.foldl (λa n=>a|||h n) 0
theorem yZ   :v3 h (c++[n])=v3 h c|||h n:=by simp[v3]
theorem Dl   (hk:k<c.length):v3 h (c.take (k+1))=v3 h (c.take k)|||h c[k]:=by rw[aU hk,yZ]
theorem BN   :(∀n∈c,h n<2^k)->v3 h c<2^k:=by
 induction c using mB with
 |h0=>intro _;exact Nat.two_pow_pos k
 |h1 c n p=>intro hb;rw[yZ];exact Nat.or_lt_two_pow (p (λm hm=>hb m (by simp[hm]))) (hb n aL)
theorem tF {j:Nat} :(v3 h c).testBit j=true↔∃n∈c,(h n).testBit j=true:=by
 induction c using mB with
 |h0=>simp[v3]
 |h1 c n p=>
  rw[yZ,Nat.testBit_or,dV,p];simp only[ed,dn];constructor;rintro (⟨m,h1,h2⟩|h1);exact⟨m,.inl h1,h2⟩;exact⟨n,.inr rfl,h1⟩;rintro ⟨m,h1|rfl,h2⟩;exact .inl ⟨m,h1,h2⟩;exact .inr h2
def DY(n:NV):Nat:=if n.op=3 then 2^n.i.toNat else 0
def Ev(n:NV):Nat:=(if ui n.op=true then 2^n.i.toNat else 0)|||n.g.toNat
structure td (op i e g:Int):Prop where
  i0:iO op=false->i=0
  e0:op≠17->e=0
  g0:rZ op=false->g=0
  fact:op=3->0<=i/\i<8
  ag:ui op=true->0<=i/\i<4
  act:op=17->(0<=i/\i<8)/\0<=e/\e<8
  gr:rZ op=true->1<=g/\g<16
theorem lW{i e g:Int}(h:kG op i e g=0):td op i e g:=by
 unfold kG at h;split at h;cases h;rename_i h1;split at h;cases h;rename_i h2;simp only[dV,dG,dw,bne_iff_ne,ne_eq,eU,not_or,not_and,ct,bV,dx]at h1 h2;obtain⟨⟨J,F⟩,E⟩:=h1;obtain⟨⟨⟨D,C⟩,w⟩,p⟩:=h2;refine⟨J,F,E,λe=>?_,λe=>?_,λe=>?_,λe=>?_⟩;have:=D e;omega;have:=C e;omega;have:=w e;omega;have:=p e;omega
def S3(m k A:Nat):Bool:=(List.range k).all (λi=>gb m i !=1||decide (i<A))
theorem FF{m i:Nat}:gb m i=1↔m.testBit i=true:=by
 unfold gb;rw[Nat.testBit_eq_decide_div_mod_eq];simp
theorem BR{m:Nat}:S3 m k A=true↔∀i,i<k->m.testBit i=true->i<A:=by
 unfold S3;simp only[dI,eD,dV,bne_iff_ne,ne_eq,dE,FF];constructor;intro h i hi hb;rcases h i hi with h1|h1;exact absurd hb h1;exact h1;intro h i hi;by_cases hb:m.testBit i=true;exact .inr (h i hi hb);exact .inl hb
def sN(f:List NV)(A B:Nat):Bool:=gp f==0 && (S3 (v3 Ev (fw f)) 4 A && S3 (v3 DY (fw f)) 8 B)
def EG(A B:Nat)(op i g:Int):Prop:=(ui op=true->i.toNat<A)/\(op=3->i.toNat<B)/\g.toNat<2^A
theorem Py{g:Nat}(hg:g<16):(∀i,i<4->g.testBit i=true->i<A)↔g<2^A:=by
 constructor;intro h;refine Nat.lt_pow_two_of_testBit g (λi hi=>?_);by_cases p:i<4;cases e:g.testBit i with
 |false=>rfl
 |true=>have:=h i p e;omega
 exact cm (dt hg (by show 2^4<=2^i;exact cS aI aH));intro h i _ hb;refine bj (λw=>?_);rw[cm (dt h (cS aI aH))]at hb;cases hb
theorem Ui{i e g:Int}(h:td op i e g):g.toNat<16:=by
 cases hg:rZ op with
 |false=>rw[h.g0 hg];decide
 |true=>have:=h.gr hg;omega
theorem Gi (h:td n.op n.i n.e n.g):Ev n<2^4:=by
 refine Nat.or_lt_two_pow ?_ (Ui h);split;rename_i ha;have:=h.ag ha;exact Nat.pow_lt_pow_right aI aH;decide
theorem FG (h:td n.op n.i n.e n.g):DY n<2^8:=by
 unfold DY;split;rename_i ha;have:=h.fact ha;exact Nat.pow_lt_pow_right aI aH;decide
theorem LN (h:td n.op n.i n.e n.g) :(∀i,i<4->(Ev n).testBit i=true->i<A)↔(ui n.op=true->n.i.toNat<A)/\n.g.toNat<2^A:=by
 rw[<-Py (Ui h)];unfold Ev;constructor;intro h1;refine⟨λha=>?_,λi hi hb=>h1 i hi (by rw[Nat.testBit_or,hb,Bool.or_true])⟩;have:=h.ag ha;exact h1 n.i.toNat aH (by rw[Nat.testBit_or,if_pos ha,Nat.testBit_two_pow_self,eJ]);rintro ⟨h1,h2⟩ i hi hb;rw[Nat.testBit_or,dV]at hb;rcases hb with hb|hb;split at hb;rename_i ha;rw[Nat.testBit_two_pow,dE]at hb;rw[<-hb];exact h1 ha;rw[Nat.zero_testBit]at hb;cases hb;exact h2 i hi hb
theorem LM (h:td n.op n.i n.e n.g){B:Nat}:(∀i,i<8->(DY n).testBit i=true->i<B)↔(n.op=3->n.i.toNat<B):=by
 unfold DY;constructor;intro h1 p;have:=h.fact p;exact h1 n.i.toNat aH (by rw[if_pos p,Nat.testBit_two_pow_self]);intro h1 i _ hb;split at hb;rename_i p;rw[Nat.testBit_two_pow,dE]at hb;rw[<-hb];exact h1 p;rw[Nat.zero_testBit]at hb;cases hb
theorem fT.rJ{f:List NV}(h:fT f):∀n∈f,td n.op n.i n.e n.g:=λn p=>by
 obtain⟨i,hi,rfl⟩:=cN.1 p;exact lW (h i hi).rJ
theorem fT.W2 (h:fT f):∀n∈f,1<=n.op/\n.op<=21:=λn p=>by
 obtain⟨i,hi,rfl⟩:=cN.1 p;exact(h i hi).op
theorem sK {B:Nat}:sN f A B=true↔gp f=0/\jE (EG A B) (fF f):=by
 unfold sN;rw[dG,eU];refine and_congr_right (λh0=>?_);have C:=(fA.1 h0).top;rw[jm h0,z8,dG,BR,BR];have w:=(rM C).rJ;constructor;rintro ⟨h1,h2⟩ n p;have D:=(LN (w n p) (A:=A)).1 (λi hi hb=>h1 i hi (tF.2 ⟨n,p,hb⟩));have E:=(LM (w n p) (B:=B)).1 (λi hi hb=>h2 i hi (tF.2 ⟨n,p,hb⟩));exact⟨D.1,E,D.2⟩;intro h;constructor;intro i hi hb;obtain⟨n,p,hb⟩:=tF.1 hb;exact(LN (w n p)).2 ⟨(h n p).1,(h n p).2.2⟩ i hi hb;intro i hi hb;obtain⟨n,p,hb⟩:=tF.1 hb;exact(LM (w n p)).2 (h n p).2.1 i hi hb
def mf(a b:Nat):Nat:=a &&& (511^^^b)
theorem wU (ha:a<512):mf a b=0↔∀i,a.testBit i=true->b.testBit i=true:=by
 have p:∀i,(511:Nat).testBit i=decide (i<9):=λi=>by
  rw[show(511:Nat)=2^9 - 1 from rfl,Nat.testBit_two_pow_sub_one]
 constructor;intro h i hi;have w:i<9:=by
  refine bj (λhc=>?_);rw[cm (dt ha (by show 2^9<=2^i;exact cS aI aH))]at hi;cases hi
 have:=eV (λx=>x.testBit i) h;simp only[mf,Nat.testBit_and,Nat.testBit_xor,hi,p,w,decide_true,Nat.zero_testBit,Bool.true_and,Bool.true_bne]at this;simpa using this;intro h;refine Nat.eq_of_testBit_eq (λi=>?_);rw[mf,Nat.testBit_and,Nat.testBit_xor,p,Nat.zero_testBit];cases e:a.testBit i with
 |false=>rfl
 |true=>
  rw[h i e];have w:i<9:=by
   refine bj (λhc=>?_);rw[cm (dt ha (by show 2^9<=2^i;exact cS aI aH))]at e;cases e
  simp[w]
theorem LB(n:NV):Nh n<512:=by
 have:=B9 n.op;have:=LC n;omega
theorem Ly  :mf (nJ c) b=0↔∀n∈c,mf (Nh n) b=0:=by
 rw[wU (tJ c)];constructor;intro h n p;rw[wU (LB n)];exact λi hi=>h i (tF.2 ⟨n,p,hi⟩);intro h i hi;obtain⟨n,p,hb⟩:=tF.1 (show(v3 Nh c).testBit i=true from hi);exact(wU (LB n)).1 (h n p) i hb
theorem y4{p:Int->Prop}(h:∀k:Nat,k<21->p ((k:Int)+1)) (ho:1<=op/\op<=21):p op:=by
 have:=h (op.toNat - 1) aH;rw[show(((op.toNat - 1:Nat):Int)+1)=op by omega]at this;exact this
theorem FH (ho:1<=op/\op<=21):mf (EM op).toNat 15=0↔op<=13:=
 y4 (p:=λop=>mf (EM op).toNat 15=0↔op<=13) aI ho
theorem Qj (ho:1<=op/\op<=21):mf (EM op).toNat 1=0↔op<=10:=
 y4 (p:=λop=>mf (EM op).toNat 1=0↔op<=10) aI ho
theorem tI  {r:Int->Prop}(C:t.ok)(w:∀{op:Int},(1<=op/\op<=21)->(mf (EM op).toNat b=0↔r op)):mf (nJ (iA t)) b=0↔jE (λop _ _=>r op) t:=by
 rw[Ly,z8];have ho:=(rM C).W2;exact⟨λh n p=>(w (ho n p)).1 (h n p),λh n p=>(w (ho n p)).2 (h n p)⟩
theorem vQ{P:av}{t:ax} (ha:a<512)(hb:b<512):oO P .andNot t (aS a) (aS b) (aS (mf a b)):=by
 refine bI _ ?_;have h1:(BitVec.ofInt 64 (a:Int)).toNat=a:=by
  rw[cJ,df];exact dT aH
 have h2:BitVec.ofInt 64 (b:Int)=BitVec.ofNat 64 b:=cJ ..;have h0:BitVec.ofInt 64 (a:Int)=BitVec.ofNat 64 a:=cJ ..;have hx:mf a b<2^9:=Nat.and_lt_two_pow _ (by show 511^^^b<2^9;exact Nat.xor_lt_two_pow aI aH);have h:(BitVec.ofInt 64 (a:Int) &&& ~~~ BitVec.ofInt 64 (b:Int))=BitVec.ofNat 64 (mf a b):=by
  rw[h0,h2];apply bS;intro i hi;rw[dc,de,BitVec.getLsbD_ofNat,BitVec.getLsbD_ofNat,BitVec.getLsbD_ofNat,mf,Nat.testBit_and,Nat.testBit_xor,show(511:Nat)=2^9 - 1 from rfl,Nat.testBit_two_pow_sub_one];have w:¬i<9->a.testBit i=false:=λhc=>cm (dt ha (by show 2^9<=2^i;exact cS aI aH));by_cases p:i<9;simp[hi,p];simp[hi,w p]
 show(binOp .andNot t (aS a) (aS b))=_;show(pure (Value.int .i64 (IntKind.i64.wrap ((BitVec.ofInt 64 (a:Int) &&& ~~~ BitVec.ofInt 64 (b:Int)).toNat:Int))):Sem aC)=_;rw[h,df,dT aH,IntWalk.i64_in _ aH]
theorem U3{P:av}{t:ax} (ha:a<512)(hb:b<512):oO P .and t (aS a) (aS b) (aS (a &&& b:Nat)):=by
 refine bI _ ?_;have hx:a &&& b<2^9:=Nat.and_lt_two_pow _ aH;have h1:(BitVec.ofInt 64 (a:Int)).toNat=a:=by
  rw[cJ,df];exact dT aH
 have h2:(BitVec.ofInt 64 (b:Int)).toNat=b:=by
  rw[cJ,df];exact dT aH
 show(pure (Value.int .i64 (IntKind.i64.wrap ((BitVec.ofInt 64 (a:Int) &&& BitVec.ofInt 64 (b:Int)).toNat:Int))):Sem aC)=_;rw[BitVec.toNat_and,h1,h2,IntWalk.i64_in _ aH]
def jN(n:Int)(val:List fi)(rel:List (List fi))(f:List NV):Int:=
 if iY n val rel≠0 then iY n val rel else if gp f≠0 then gp f else if mf (nJ (fw f)) 15≠0 then 10 else if sN f rel.length val.length=false then 2 else 0
def Ac(A B:Nat)(op i g:Int):Prop:=op<=13/\EG A B op i g
theorem qY{p q:Int->Int->Int->Prop}:∀{t:Tr},jE p t->jE q t->jE (λop i g=>p op i g/\q op i g) t
 |.leaf ..,h,k=>⟨h,k⟩
 |.un ..,h,k=>⟨⟨h.1,k.1⟩,qY h.2 k.2⟩
 |.bin ..,h,k=>⟨⟨h.1,k.1⟩,qY h.2.1 k.2.1,qY h.2.2 k.2.2⟩
theorem rF{n:Int}{val:List fi}{rel:List (List fi)} :jN n val rel f=0↔mK n val rel/\gp f=0/\jE (Ac rel.length val.length) (fF f):=by
 unfold jN;constructor;intro h;split at h;rename_i h1;exact absurd h h1;rename_i h1;split at h;rename_i h2;exact absurd h h2;rename_i h2;split at h;cases h;rename_i p;split at h;cases h;rename_i D;have h2:=dx.1 h2;have p:=dx.1 p;rw[jm h2]at p;exact⟨lY.1 (dx.1 h1),h2,qY ((tI (fA.1 h2).top FH).1 p) (sK.1 (by simpa using D)).2⟩;rintro ⟨h1,h2,p⟩;have C:mf (nJ (fw f)) 15=0:=by
  rw[jm h2];exact(tI (fA.1 h2).top FH).2 (p.mono (λ_ _ _ h=>h.1))
 have w:sN f rel.length val.length=true:=sK.2 ⟨h2,p.mono (λ_ _ _ h=>h.2)⟩;rw[if_neg (by simp[lY.2 h1]),if_neg (by simp[h2]),if_neg (by simp[C]),if_neg (by simp[w])]
theorem NU{n:Nat}{val:List fi}{rel:List (List fi)}{nd:NV}{a b:Tr}:rk n val rel (BY nd a b)=pf n val rel nd.op nd.i nd.g (if ji nd.op=true then rk n val rel a else 0#64) (if iM nd.op=true then rk n val rel b else 0#64):=by
 unfold BY;split;rename_i h;rw[if_pos (jL h)];rfl;split;rename_i h;rfl;rfl
end
end Go.Proofs.Wit
namespace Go.Proofs.Wit
structure WO (A B:Nat) (nd:NV):Prop where
  XM:1<=nd.op
  W3:nd.op<=13
  fact:nd.op=3->0<=nd.i/\nd.i.toNat<B
  ag:nd.op=9\/nd.op=10->0<=nd.i/\nd.i.toNat<A
  gr:11<=nd.op->1<=nd.g/\nd.g.toNat<2^A
theorem Ix{n:Nat}{val:List fi}{rel:List (List fi)}{g:List NV}(ho:fT g){k:Nat}(hk:k<g.length):
  rk n val rel (fe g k)=pf n val rel g[k].op g[k].i g[k].g (if ji g[k].op=true then rk n val rel (fe g g[k].x.toNat)else 0#64) (if iM g[k].op=true then rk n val rel (fe g g[k].y.toNat)else 0#64):=by
 have p:=ho.ord k hk;rw[pQ hk (λh=>by have:=p.1 h;omega) (λh=>by have:=p.2 h;omega),NU]
structure pP (g:List NV):Prop where
  qA:gp g=0
  can:g=iA (fF g)
theorem pP.ok{g:List NV}(h:pP g):(fF g).ok:=(fA.1 h.qA).top
theorem pP.of{t:Tr}(h:t.ok)(p:(iA t).length<=200):pP (iA t):=⟨(wP h p).2.1,by rw[(wP h p).2.2]⟩
theorem pP.fw{f:List NV}(h:gp f=0):pP (fw f):=by
 have w:=wH h;have p:=(fA.1 h).len;rw[jm h]at w⊢;exact .of (fA.1 h).top aH
theorem AK{f:List NV}(h:gp f=0):fF (fw f)=fF f:=by
 rw[jm h];exact oV (fA.1 h).top.wf
theorem pP.len{g:List NV}(h:pP g):g.length<=200:=(fA.1 h.qA).len
theorem pP.nodes{g:List NV}(h:pP g):fT g:=(fA.1 h.qA).nodes
theorem pP.trees{g:List NV}(h:pP g):Wit.trees g=iu (fF g):=by
 have:=h.can;rw[this]
 conv=>rhs;rw[<-this]
 exact o8 h.ok.wf
end Go.Proofs.Wit
namespace Go.Proofs.Wit
open Go Go.RowKit
section
variable{a t:Tr}
theorem uU{c:Tr}(h:c∈kids t):iu c⊆iu t:=
 mX c (ts:=[]) (kp t).sR ((kp t).sR.mem (lx t) c h) (List.nil_subset _)
theorem pA{c:Tr}(h:c∈kids t):(iA c).length<=(iA t).length:=by
 rw[ly,ly];exact(kp c).nd.length_le_of_subset (uU h)
theorem p8 (h:200<(iA t).length):bT t=[]:=if_pos h
theorem MD (h:¬200<(iA t).length):bT t=iA t:=if_neg h
theorem Qw(t:Tr):(bT t).length<=200:=by
 unfold bT;split;simp;omega
theorem Ge :bT t=[]↔200<(iA t).length:=by
 constructor;intro h;refine bj (λhn=>?_);rw[MD hn]at h;have:=pz t;rw[h]at this;exact absurd this aL;exact p8
theorem vP{n:NV}{gs:List (List NV)}(h:∃g∈gs,gp g≠0):gh n gs=[]:=if_pos h
theorem HQ(n:NV)(gs:List (List NV)):(gh n gs).length<=200:=by
 unfold gh
 repeat' split
 simp;simp;simp;omega
theorem qC{op i e g:Int} (ha:a.ok)(hop:1<=op/\op<=21)(hX:ji op=true)(hY:iM op=false)(hf:kG op i e g=0):gh ⟨op,i,e,g,0,0⟩ [bT a]=bT (.un op i e g a):=by
 by_cases hl:200<(iA a).length;rw[p8 hl,vP ⟨[],by simp,aI⟩,p8 (dt hl (pA (by simp[kids])))];obtain⟨h1,h2,h3⟩:=wP ha aH;rw[h1,MA h2 hop hX hY hf rfl,h3]
theorem jS{op i e g:Int}{b:Tr}(ha:a.ok)(hb:b.ok)(hop:1<=op/\op<=21)(hY:iM op=true)(hf:kG op i e g=0):gh ⟨op,i,e,g,0,0⟩ [bT a,bT b]=bT (.bin op i e g a b):=by
 by_cases hl:200<(iA a).length;rw[p8 hl,vP ⟨[],by simp,aI⟩,p8 (dt hl (pA (by simp[kids])))];by_cases hl2:200<(iA b).length;rw[p8 hl2,vP ⟨[],by simp,aI⟩,p8 (dt hl2 (pA (by simp[kids])))];obtain⟨h1,h2,h3⟩:=wP ha aH;obtain⟨k1,k2,k3⟩:=wP hb aH;rw[h1,k1,UZ h2 k2 hop hY hf,h3,k3]
theorem Mh (h:t.ok):fw (bT t)=bT t:=by
 by_cases hl:200<(iA t).length;rw[p8 hl];exact if_pos aI;obtain⟨h1,h2,h3⟩:=wP h aH;rw[h1,jm h2,h3]
def uI(a b:List NV):List NV:=gh ⟨5,0,0,0,0,0⟩ [a,b]
def qD:List (List NV)->List NV
 |[]=>gh ⟨1,0,0,0,0,0⟩ []
 |g::gs=>gs.foldl uI (fw g)
def p7:List Tr->Tr
 |[]=>.leaf 1 0 0 0
 |t::ts=>ts.foldl (λa b=>.bin 5 0 0 0 a b) t
theorem pE{b:Tr}(ha:a.ok)(hb:b.ok):(Tr.bin 5 0 0 0 a b).ok:=⟨aH,rfl,rfl,ha,hb⟩
theorem D0:∀{ts:List Tr} {t:Tr},t.ok->(∀u∈ts,u.ok)->(ts.map bT).foldl uI (bT t)=bT (ts.foldl (λa b=>.bin 5 0 0 0 a b) t)
 |[],_,_,_=>rfl
 |u::us,t,h,hs=>by
  rw[eG,dX,dX,uI,jS h (hs u aL) aH rfl rfl];exact D0 (pE h (hs u aL)) (λv hv=>hs v (by simp[hv]))
theorem Bo:∀{ts:List Tr},(∀u∈ts,u.ok)->qD (ts.map bT)=bT (p7 ts)
 |[],_=>Sp (n:=⟨1,0,0,0,0,0⟩) aI rfl rfl rfl rfl
 |t::ts,h=>by
  rw[eG,qD,Mh (h t aL)];exact D0 (h t aL) (λu hu=>h u (by simp[hu]))
def QB(a:ae)(cap lo sz:Nat):ae:=if cap=lo then a else a.map (·.add (lo*sz))
theorem Sl.drop{w:aB}{a:ae}{xs:ai}(h:Sl w a xs){cap lo:Nat}(hc:xs.length<=cap):Sl w (QB a cap lo 1) (xs.drop lo):=by
 by_cases hl:xs.length<=lo;rw[List.drop_eq_nil_of_le hl];exact Sl.nil _ _;obtain⟨b,o,rfl,hb⟩:=h.isSome aH;have e0:QB (some ⟨b,o,none⟩) cap lo 1=some ⟨b,o+lo,none⟩:=by
  rw[QB,if_neg aH,ez,Addr.add,eS];split;rename_i hz;subst hz;rfl;rfl
 rw[e0];refine⟨λ_=>⟨b,o+lo,rfl,hb⟩,λi hi=>?_⟩;rw[List.length_drop]at hi;have:=h.cell (lo+i) aH;have e1:tS (some ⟨b,o+lo,none⟩) i=tS (some ⟨b,o,none⟩) (lo+i):=by
  simp only[tS,Option.getD_some,Nat.add_assoc]
 rw[e1,this];simp[List.getElem?_drop]
section
variable{P:av}{w0:aB}{S:aq}{n:Nat}{l:Fl}{h:Hl}{ops:aj}{i d:Nat}{ty:ax}{pos:aA}{aft:ak}{g:Option (Nat×Bool)}
theorem Aa{t e:ax}{x y:au}{a:ae}{m cap lo:Nat}{kd:aw}{j:Int}{sz:Nat}(ho:ops[i]?=some ⟨some d,.slice t x (some y) none none,ty,pos,aft,g⟩)(hw:fE ops l g=true)
  (hx:fW l x=some (.slice a m cap))(hy:fW l y=some (.int kd j))(hd:Nat.blt d n=true)(hu:P.underlying t=some (.slice e))(he:∀w,(sizeOf e).run P w=.ok sz w)(hj:j=lo)(hc:lo<=m):
  fh P w0 S n h ops i l d (.slice (QB a cap lo sz) (m - lo) (cap - lo)):=
 .of ho hw rfl rfl hd (λt w Ds _ hF hS=>⟨.value (.slice (QB a cap lo sz) (m - lo) (cap - lo)),by
  subst hj;simp only[execOp,hF.fW hx,hF.fW hy,ez,Option.map_none,Instr.sliceAt,Sem.run_bind,run_underlying hu,Result.andThen_ok,Instr.slice,Instr.sliceBounds,Instr.sliceBound,asIntOf,Sem.run_pure];rw[if_pos ⟨aH,aH⟩];simp only[Sem.run_pure,Result.andThen_ok,he,dy];rfl,rfl⟩)
end
end
end Go.Proofs.Wit
