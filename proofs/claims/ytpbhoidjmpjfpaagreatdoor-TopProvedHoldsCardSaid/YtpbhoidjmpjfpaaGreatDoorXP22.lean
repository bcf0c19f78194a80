/- Laws of walks, each under its own conditions. -/
import Derived.Test.YtpbhoidjmpjfpaaGreatDoorXP18
import Derived.ChangeSame
import Derived.ChangeVars
import Derived.JoinedOf
import Derived.RowKit
import Derived.ProofKit
import Derived.OpenShut
import Derived.LaidMore
import Derived.Lay
import Derived.Carry
import Derived.SevenTiedAt
import Derived.Stop.Joined
import Derived.Deep.Matrix
import Derived.Lib.SmallJoins
import Derived.Deep.Slices
set_option maxRecDepth 100000
set_option maxHeartbeats 40000000
namespace Go.Proofs.Wit
open Go Go.RowKit
section
variable{i:Int}{x:LV}
def pC(p k n i:Int):Bool:=(decide (k>=p) && n !=0)||(decide (k<p) && (decide (n<0)||decide (n>=i)))
def oG(i:Int)(x:LV):Int:=if (pC (kI x.r) 0 x.a i||pC (kI x.r) 1 x.b i)=true then 3 else if x.r≠11 then(if x.g≠0 then 3 else 0)else if x.g<0\/x.g>=4 then 2 else 0
def B2(ls:List LV)(k:Int):Tr:=((ls.map (λx=>fF x.f.f)).getD k.toNat (.leaf 0 0 0 0))
def pK(ls:List LV)(x:LV):Prop:=if x.r=10 then B2 ls x.b=gv (B2 ls x.a) (fF x.f.f)else if x.r=11 then fF x.f.f=fN x.g (B2 ls x.a)else if x.r=12 then P4 (B2 ls x.a) (fF x.f.f)else uo x.r (fF x.f.f)
open Classical in
noncomputable def jM(l:Int)(ls:List LV)(i:Nat)(x:LV):Int:=
 if j7 x.f.f≠0 then j7 x.f.f else if x.r<1\/12<x.r then 1 else if oG i x≠0 then oG i x else if gJ l x.r=false then 12 else if pK ls x then 0 else 13
noncomputable def ju(l:Int)(ls:List LV):Nat->Int
 |0=>0
 |k+1=>if ju l ls k≠0 then ju l ls k else match ls[k]? with|some x=>jM l ls k x|none=>0
noncomputable def lG(l:Int)(ls:List LV):Int:=if ¬(0<=l/\l<=6)then 1 else if ls.length=0 then 3 else if 400<ls.length then 8 else ju l ls ls.length
theorem wu  (h:oG i x=0):pC (kI x.r) 0 x.a i=false/\pC (kI x.r) 1 x.b i=false/\(x.r≠11->x.g=0)/\(x.r=11->0<=x.g/\x.g<4):=by
 unfold oG at h;by_cases h1:(pC (kI x.r) 0 x.a i||pC (kI x.r) 1 x.b i)=true;rw[if_pos h1]at h;exact absurd h aI;rw[if_neg h1]at h;have h2:pC (kI x.r) 0 x.a i=false/\pC (kI x.r) 1 x.b i=false:=by simpa using h1
 refine⟨h2.1,h2.2,λh3=>?_,λh3=>?_⟩;rw[if_pos h3]at h;by_cases h4:x.g=0;exact h4;rw[if_pos h4]at h;exact absurd h aI;rw[if_neg (by simp[h3])]at h;by_cases h4:x.g<0\/x.g>=4;rw[if_pos h4]at h;exact absurd h aI;omega
theorem mQ{p k n:Int}(h:pC p k n i=false)(hk:k<p):0<=n/\n<i:=by
 unfold pC at h;simp only[Bool.or_eq_false_iff,ct,bV]at h;omega
theorem oR{ls:List LV}{k:Nat}(hk:k<ls.length){j:Int}(e:j=k):B2 ls j=fF ls[k].f.f:=by
 subst e;simp[B2,hk]
def y6(x:LV):Prop:=(x.r<10/\x.a≠0)\/(x.r≠10/\x.b≠0)\/(x.r≠11/\x.g≠0)
def y5(i:Int)(x:LV):Prop:=(10<=x.r/\(x.a<0\/i<=x.a))\/(x.r=10/\(x.b<0\/i<=x.b))
theorem pR{r:Int}(h1:1<=r)(h12:r<=12):(r=10/\kI r=2)\/(r=11/\kI r=1)\/(r=12/\kI r=1)\/(r<10/\kI r=0):=by
 unfold kI;by_cases a:r=10;rw[if_pos a];exact .inl ⟨a,rfl⟩;rw[if_neg a];by_cases b:r=11;rw[if_pos (.inl b)];exact .inr (.inl ⟨b,rfl⟩);by_cases c:r=12;rw[if_pos (.inr c)];exact .inr (.inr (.inl ⟨c,rfl⟩));rw[if_neg aH];exact .inr (.inr (.inr ⟨aH,rfl⟩))
theorem KB  (h1:1<=x.r)(h12:x.r<=12)(h:y6 x\/y5 i x):oG i x=3:=by
 have hp:=pR h1 h12;unfold oG pC;simp only[dV,dG,dE,bne_iff_ne];unfold y6 y5 at h;split;rfl;rename_i hn;split;rename_i h11;rw[if_pos aH];exfalso;omega
theorem KD  (h1:1<=x.r)(h12:x.r<=12)(h:¬y6 x)(h2:¬y5 i x):oG i x=if x.g<0\/x.g>=4 then 2 else 0:=by
 have hp:=pR h1 h12;unfold oG pC;simp only[dV,dG,dE,bne_iff_ne];unfold y6 at h;unfold y5 at h2;rw[if_neg aH];split;rename_i h11;rw[if_neg aH,if_neg aH];rfl
end
end Go.Proofs.Wit
namespace Go.Proofs.Wit
open Go Go.RowKit Go.ChangeShapes Go.WideShapes Go.ChangeAt
section
variable{H:Type}{enc:ax×aC->H}{P:av}
theorem tT(hl:laidOutB P=true){W W':aB}(hb:Below W.heap.size W W'):∀{ts:List ax} {vs:ai} {ds:List (DataW H)} {ps:List MemPlace},ts.all (λt=>P.readableRec t && decide (t<P.types.size))=true->
  DataW.TrodAll enc P W 0 (λ_=>true) true ts vs ds ps->(∀x∈ps,x.block<W.heap.size)->DataW.TrodAll enc P W' 0 (λb=>decide (b<W.heap.size)) true ts vs ds ps
 |[],_,_,_,_,h,_=>by
  obtain⟨rfl,rfl,rfl⟩:=trodAll_nil h;exact rfl
 |t::ts,_,_,_,hr,h,hlt=>by
  obtain⟨v,vs1,d,ds1,a,b,rfl,rfl,rfl,h1,h2⟩:=trodAll_cons h;rw[List.all_cons,dG,dG,dE]at hr;exact trodAll_cons_mk (Below.trod hl hr.1.1 hr.1.2 h1 hb (λx hx=>hlt x (by simp[hx]))) (tT hl hb hr.2 h2 (λx hx=>hlt x (by simp[hx])))
theorem wf_u64{n:Int}(h:(Lit.int .u64 n).wf=true):(Value.int .u64 n)=U (BitVec.ofInt 64 n):=by
 have:=bounds_u64 h;unfold U
 congr 1
 rw[BitVec.toNat_ofInt];omega
theorem PU(a:Addr)(i:Nat)(h:a.spot=none):a.add i=tS (some a) i:=by
 obtain⟨b,o,s⟩:=a;simp only at h;subst h;unfold Addr.add tS;split;rename_i h0;rw[h0];rfl;rfl
end
end Go.Proofs.Wit
namespace Go.Proofs.Wit
open Go Go.RowKit Go.ChangeShapes Go.WideShapes Go.ChangeAt Go.Deep Go.Joins
section
variable{a:Addr}{W w:aB}
theorem Ps  {v:aC}(h:w.cell? a=some v):a.block<w.heap.size:=by
 unfold World.cell? at h;split at h;rename_i hb;exact(aX.1 hb).1;cases h
theorem Gw  {v:aC}(h:w.cell? (a.add 0)=some v):a.spot=none:=by
 unfold World.cell? at h;split at h;split at h;cases h;rename_i hs;have e0:a.add 0=a:=by unfold Addr.add;simp
 rw[e0]at hs;simpa using hs;cases h
theorem Gz  {xs:ai}(h:∀i,i<xs.length->w.cell? (a.add i)=some (xs.getD i undef)):Sl w (some a) xs:=by
 refine⟨λh0=>?_,λi hi=>?_⟩;have hs:=Gw (h 0 h0);have hb:=Ps (h 0 h0);obtain⟨b,o,s⟩:=a;simp only at hs;subst hs;refine⟨b,o,rfl,?_⟩;rw[sW]at hb;exact hb;have hs:=Gw (h 0 aH);rw[<-PU a i hs];exact h i hi
section
variable{H:Type}{enc:ax×aC->H}{P:av}
theorem Dm {t e:ax}(ht:P.underlying t=some (.slice e))(he:P.underlying e=some (.int .u64))(hc:P.cellsOf e=1){v:aC}{n:Nat}{y:DataW H×List MemPlace}
  (h:DataW.trod enc P W 0 (λ_=>true) true n t [v]=some y):∃(a:ae) (xs:List fi) (cap:Nat),v=.slice a xs.length cap/\m6 W a xs/\xs.length<=maxLen/\xs.length<=cap:=by
 rcases open_ints ht he hc h with⟨hcs,_⟩|⟨a,len,cap,zs,hcs,hb,hlc,hcm,hzl,_,hcell,hw⟩;exact⟨none,[],0,by simpa using hcs,.nil _ _,aG,eR _⟩;rw[if_pos rfl]at hzl;have hxl:((zs.take len).map (BitVec.ofInt 64)).length=len:=by simp;omega
 refine⟨some a,(zs.take len).map (BitVec.ofInt 64),cap,by rw[hxl];simpa using hcs,Gz (λi hi=>?_),by rw[hxl];omega,by rw[hxl];exact hlc⟩;have hi2:i<len:=by simp at hi;omega
 have hil:i<zs.length:=aH;rw[hcell i hil,wf_u64 (hw _ (by rw[aY,bJ hil];exact dL hil))];simp[hi2,hil]
theorem Ff {t e q:ax}(ht:P.underlying t=some (.slice e))(he:P.underlying e=some (.slice q))(hq:P.underlying q=some (.int .u64))(ce:P.cellsOf e=1)(cq:P.cellsOf q=1){v:aC}{n:Nat}{y:DataW H×List MemPlace}
  (h:DataW.trod enc P W 0 (λ_=>true) true n t [v]=some y):∃(a:ae) (rows:List Row) (cap:Nat),v=.slice a rows.length cap/\CH W a rows/\(∀r∈rows,r.At W)/\rows.length<=maxLen/\rows.length<=cap:=by
 rcases open_int_rows ht he hq ce cq h with⟨hcs,_⟩|⟨a,len,cap,A,L,C,Z,hcs,hb,hlc,hcm,_,hx⟩;exact⟨none,[],0,by simpa using hcs,Sl.nil _ _,by simp,aG,eR _⟩;have hrow:∀r,r<cap->((((Z r).take (L r)).map (BitVec.ofInt 64)).length=L r):=λr hr=>by
  obtain⟨_,h1,_,h3,_⟩:=hx r hr;simp;omega
 let rows:List Row:=(List.range len).map λr=>⟨A r,C r,((Z r).take (L r)).map (BitVec.ofInt 64)⟩
 have hrl:rows.length=len:=by simp[rows]
 refine⟨some a,rows,cap,by rw[hrl];simpa using hcs,Gz (λi hi=>?_),λr hr=>?_,aH,aH⟩;have hi2:i<len:=by simpa[rows]using hi
 rw[(hx i aH).1];simp[rows,hi2,Row.v];have:=(hrow i aH);simp at this;omega;obtain⟨i,hi,rfl⟩:=eL.1 hr;have hi2:i<len:=by simpa using hi
 obtain⟨_,h1,h2,h3,h4,h5,h6⟩:=hx i aH;have hl:=hrow i aH;refine⟨?_,by show(List.map _ _).length<=_;rw[hl];omega,by show(List.map _ _).length<=_;rw[hl];exact h1⟩;show m6 W (A i) _;cases hA:A i with
 |none=>
  have:=h5 hA;have e:((Z i).take (L i)).map (BitVec.ofInt 64)=[]:=aV (by rw[hl];omega);rw[e];exact .nil _ _
 |some a'=>
  obtain⟨_,hcell⟩:=h6 a' hA;refine Gz (λc hc=>?_);have hcL:c<L i:=by rw[dY,hl]at hc;exact hc
  have hcZ:c<(Z i).length:=aH;rw[hcell c aH,wf_u64 (h4 _ (by rw[aY,bJ hcZ];exact dL hcZ))];simp[hcL,hcZ]
theorem Fh {r:Reach}{b0:Nat}{t:ax}{f0 f1 f2:Field}{e q:ax}{v:aC}{d:DataW H}{p:List MemPlace}(hs:P.underlying t=some (.struct #[f0,f1,f2]))(hone:oneCellFields P #[f0,f1,f2]=true)(hC:P.cellsOf t=3)
  (hi:P.underlying f0.type=some (.int .i64))(hv:P.underlying f1.type=some (.slice q))(hr:P.underlying f2.type=some (.slice e))(he:P.underlying e=some (.slice q))(hq:P.underlying q=some (.int .u64))(ce:P.cellsOf e=1)(cq:P.cellsOf q=1)
  (hok:Value.okWide P W r b0 t v)(h:DataW.Trod enc P W 0 (λ_=>true) true t v d p):∃m:MV,v=m.v/\m.At W:=by
 obtain⟨v0,v1,v2,y0,y1,y2,n,rfl,_,_,h0,h1,h2⟩:=open_agg3 hs hone hC hok h;obtain⟨z,hz,_⟩:=DataW.trod_int hi h0;obtain⟨va,val,vc,rfl,hva,hvl,hvc⟩:=Dm hv hq cq h1;obtain⟨ra,rows,rc,rfl,hra,hrow,hrl,hrc⟩:=Ff hr he hq ce cq h2;simp only[List.cons.injEq,and_true]at hz;subst hz;exact⟨⟨z,ra,rc,rows,va,vc,val⟩,rfl,hra,hrow,hva,hrl,hvl,hrc,hvc⟩
end
end
section
variable{H:Type}{enc:ax×aC->H}{P:av}
instance:Inhabited NV:=⟨VD⟩
theorem Dp{W:aB}{t e:ax}{f0 f1 f2 f3 f4 f5:Field}(ht:P.underlying t=some (.slice e))(he:P.underlying e=some (.struct #[f0,f1,f2,f3,f4,f5]))(hone:oneCellFields P #[f0,f1,f2,f3,f4,f5]=true)(ce:P.cellsOf e=6)
  (i0:P.underlying f0.type=some (.int .i64))(i1:P.underlying f1.type=some (.int .i64))(i2:P.underlying f2.type=some (.int .i64))(i3:P.underlying f3.type=some (.int .i64))(i4:P.underlying f4.type=some (.int .i64))(i5:P.underlying f5.type=some (.int .i64))
  {cs:ai}{fuel:Nat}{x:DataW H×List MemPlace}(h:DataW.trod enc P W 0 (λ_=>true) true fuel t cs=some x):∃(a:ae) (f:List NV) (cap:Nat),cs=[.slice a f.length cap]/\FA W a f/\f.length<=maxLen/\f.length<=cap:=by
 rcases open_slice ht h with⟨rfl,_⟩|⟨a,len,cap,m,n,D,Pl,rfl,hb,hl,hm,hmm,_,hx⟩;exact⟨none,[],0,rfl,⟨Sl.nil _ _⟩,aG,eR _⟩;have hm':m=cap:=by rw[hmm];rfl
 have each:∀i,i<m->∃v:NV,∀j,j<6->W.cell? (a.add (i*6+j))=some ((NV.cells v).getD j undef):=by
  intro i hi;obtain⟨cs',h1,h2⟩:=hx i hi;rw[ce]at h1;obtain⟨_,hlen,hcell⟩:=World.cells?_some h1;obtain⟨xs,k,_,_,_,hxl,hf⟩:=DataW.trod_struct he h2;have g:∀(j:Nat) (fj:Field) (c:aC),#[f0,f1,f2,f3,f4,f5][j]?=some fj->P.underlying fj.type=some (.int .i64)->cs'[j]?=some c->∃z:Int,c=aS z:=λj fj c hj hi hc=>by
   obtain⟨oj,kj⟩:=hone_of hone j fj hj;have hjl:=(aX.1 hj).1;have:=hf j fj hj;rw[oj,kj,take1_drop cs' j undef (by rw[hlen];exact hjl)]at this;rw[show cs'.getD j undef=c from by rw[aY,hc];rfl]at this;have hjx:j<xs.length:=by rw[hxl];exact hjl
   rw[bJ hjx]at this;obtain⟨z,hz,_⟩:=DataW.trod_int hi this;simp only[List.cons.injEq,and_true]at hz;exact⟨z,hz⟩
  match cs',hlen with
  |[c0,c1,c2,c3,c4,c5],_=>
   obtain⟨z0,rfl⟩:=g 0 f0 c0 rfl i0 rfl;obtain⟨z1,rfl⟩:=g 1 f1 c1 rfl i1 rfl;obtain⟨z2,rfl⟩:=g 2 f2 c2 rfl i2 rfl;obtain⟨z3,rfl⟩:=g 3 f3 c3 rfl i3 rfl;obtain⟨z4,rfl⟩:=g 4 f4 c4 rfl i4 rfl;obtain⟨z5,rfl⟩:=g 5 f5 c5 rfl i5 rfl;refine⟨⟨z0,z1,z2,z3,z4,z5⟩,λj hj=>?_⟩;have:=hcell j hj;rw[Go.Deep.add_add]at this;rw[this];have:j=0\/j=1\/j=2\/j=3\/j=4\/j=5:=aH;rcases this with rfl|rfl|rfl|rfl|rfl|rfl<;>rfl
 obtain⟨V,hV⟩:=choose_lt each;have hfl:((List.range len).map V).length=len:=by simp
 refine⟨some a,(List.range len).map V,cap,by rw[hfl],⟨Gz (λq hq=>?_)⟩,by rw[hfl];omega,by rw[hfl];exact hl⟩;rw[vC,hfl]at hq;have hi:q / 6<len:=aH;have:=hV (q / 6) aH (q%6) aH;rw[show q / 6*6+q%6=q from aH]at this;rw[this];have hg:=zv (enc:=NV.cells) (sz:=6) (λ_=>rfl) (xs:=(List.range len).map V) (j:=q / 6) (by rw[hfl];exact hi) (i:=q%6) aH;rw[show q / 6*6+q%6=q from aH]at hg;rw[aY,aY,hg];simp
theorem Fg{W:aB}{t e:ax}{f0 f1 f2 f3 f4 f5:Field}(ht:P.underlying t=some (.slice e))(he:P.underlying e=some (.struct #[f0,f1,f2,f3,f4,f5]))(hone:oneCellFields P #[f0,f1,f2,f3,f4,f5]=true)(ce:P.cellsOf e=6)
  (i0:P.underlying f0.type=some (.int .i64))(i1:P.underlying f1.type=some (.int .i64))(i2:P.underlying f2.type=some (.int .i64))(i3:P.underlying f3.type=some (.int .i64))(i4:P.underlying f4.type=some (.int .i64))(i5:P.underlying f5.type=some (.int .i64))
  {v:aC}{d:DataW H}{ps:List MemPlace}(h:DataW.Trod enc P W 0 (λ_=>true) true t v d ps){r:Reach}{b0:Nat}(hok:Value.okWide P W r b0 t v):∃(a:ae) (f:List NV) (cap:Nat),v=.slice a f.length cap/\FA W a f/\f.length<=maxLen/\f.length<=cap:=by
 obtain⟨fuel,hf⟩:=h;obtain⟨a',n',c',rfl⟩:=okWide_slice ht hok;obtain⟨a,f,cap,e1,h1,h2,h3⟩:=Dp ht he hone ce i0 i1 i2 i3 i4 i5 hf;refine⟨a,f,cap,?_,h1,h2,h3⟩;simpa[Value.cells]using e1
end
section
variable{H:Type}{enc:ax×aC->H}{P:av}
end
section
variable{P:av}{w0:aB}{S:aq}{n:Nat}{l:Fl}{h:Hl}{ops:aj}{i d:Nat}{ty:ax}{pos:aA}{aft:ak}{g:Option (Nat×Bool)}
theorem PV{t e:ax}{x y:au}{cs:af}{len:Nat}{kd:aw}{j:Int}{v:aC}(ho:ops[i]?=some ⟨some d,.index t x y,ty,pos,aft,g⟩)(hw:fE ops l g=true)
  (hx:fW l x=some (.agg cs))(hy:fW l y=some (.int kd j))(hd:Nat.blt d n=true)(hu:P.underlying t=some (.array len e))(hs:∀w,(sizeOf e).run P w=.ok 1 w)(ha:∀w,(isAgg e).run P w=.ok false w)(k:Nat)(hj:j=k/\k<len)(hv:cs[k]?=some v):
  fh P w0 S n h ops i l d v:=
 .of ho hw rfl rfl hd (λt' w Ds _ hF hS=>⟨.value v,by
  obtain⟨rfl,hk⟩:=hj;simp only[execOp,hF.fW hx,hF.fW hy,Instr.index,asIntOf,Sem.run_bind,Sem.run_pure,Result.andThen_ok,run_underlying hu];rw[if_pos ⟨aH,aH⟩];simp only[Sem.run_bind,hs,Result.andThen_ok,dy,eS,qO ha hv],rfl⟩)
end
abbrev i3(y z x:Int):af:=#[aS y,aS z,aS x]
end Go.Proofs.Wit
