/- Laws of walks, for any program, under the conditions that each theorem states. -/
import Derived.Test.YtaamcaiglooemaaGreatDoorXF20
import Derived.ChangeSame
import Derived.ChangeVars
import Derived.JoinedOf
import Derived.RowKit
import Derived.ProofKit
import Derived.OpenShut
import Derived.LaidMore
import Derived.Lay
import Derived.Carry
import Derived.SevenTiedAt
import Derived.Stop.Joined
import Derived.Deep.Matrix
import Derived.Lib.SmallJoins
import Derived.Deep.Slices
set_option maxRecDepth 100000
set_option maxHeartbeats 4000000
namespace Go.Proofs.Wit
open Go Go.RowKit
def jT (p k n i:Int):Bool:=(decide (k≥p) && n !=0)||(decide (k<p) && (decide (n<0)||decide (n≥i)))
def jv (i:Int) (x:LV):Int:=if (jT (eC x.r) 0 x.a i||jT (eC x.r) 1 x.b i)=true then 3 else if x.r≠11 then (if x.g≠0 then 3 else 0) else if x.g<0∨x.g≥4 then 2 else 0
def uk (ls:List LV) (k:Int):Tr:=((ls.map (fun x=>aS x.f.f)).getD k.toNat (.leaf 0 0 0 0))
def kB (ls:List LV) (x:LV):Prop:=if x.r=10 then uk ls x.b=aL (uk ls x.a) (aS x.f.f) else if x.r=11 then aS x.f.f=ar x.g (uk ls x.a) else if x.r=12 then FB (uk ls x.a) (aS x.f.f) else pY x.r (aS x.f.f)
open Classical in
noncomputable def dX (l:Int) (ls:List LV) (i:Nat) (x:LV):Int:=
 if gN x.f.f≠0 then gN x.f.f else if x.r<1∨12<x.r then 1 else if jv i x≠0 then jv i x else if cJ l x.r=false then 12 else if kB ls x then 0 else 13
noncomputable def dw (l:Int) (ls:List LV):Nat→Int
 |0=>0
 |k+1=>if dw l ls k≠0 then dw l ls k else match ls[k]? with|some x=>dX l ls k x|none=>0
noncomputable def ij (l:Int) (ls:List LV):Int:=if ¬(0≤l∧l≤6) then 1 else if ls.length=0 then 3 else if 400<ls.length then 8 else dw l ls ls.length
theorem sT {i:Int} {x:LV} (h:jv i x=0):jT (eC x.r) 0 x.a i=false∧jT (eC x.r) 1 x.b i=false∧(x.r≠11→x.g=0)∧(x.r=11→0≤x.g∧x.g<4):=by
 unfold jv at h;by_cases h1:(jT (eC x.r) 0 x.a i||jT (eC x.r) 1 x.b i)=true;rw [if_pos h1] at h;exact absurd h (by decide);rw [if_neg h1] at h;have h2:jT (eC x.r) 0 x.a i=false∧jT (eC x.r) 1 x.b i=false:=by simpa using h1
 refine ⟨h2.1,h2.2,fun h3=>?_,fun h3=>?_⟩;rw [if_pos h3] at h;by_cases h4:x.g=0;exact h4;rw [if_pos h4] at h;exact absurd h (by decide);rw [if_neg (by simp [h3])] at h;by_cases h4:x.g<0∨x.g≥4;rw [if_pos h4] at h;exact absurd h (by decide);omega
theorem kk {p k n i:Int} (h:jT p k n i=false) (hk:k<p):0≤n∧n<i:=by
 unfold jT at h;simp only [Bool.or_eq_false_iff,Bool.and_eq_false_iff,decide_eq_false_iff_not] at h;omega
theorem oz {ls:List LV} {k:Nat} (hk:k<ls.length) {j:Int} (e:j=k):uk ls j=aS ls[k].f.f:=by
 subst e;simp [uk,List.getD_eq_getElem?_getD,hk]
def rm (x:LV):Prop:=(x.r<10∧x.a≠0)∨(x.r≠10∧x.b≠0)∨(x.r≠11∧x.g≠0)
def rk (i:Int) (x:LV):Prop:=(10≤x.r∧(x.a<0∨i≤x.a))∨(x.r=10∧(x.b<0∨i≤x.b))
theorem me {r:Int} (h1:1≤r) (h12:r≤12):(r=10∧eC r=2)∨(r=11∧eC r=1)∨(r=12∧eC r=1)∨(r<10∧eC r=0):=by
 unfold eC;by_cases a:r=10;rw [if_pos a];exact .inl ⟨a,rfl⟩;rw [if_neg a];by_cases b:r=11;rw [if_pos (.inl b)];exact .inr (.inl ⟨b,rfl⟩);by_cases c:r=12;rw [if_pos (.inr c)];exact .inr (.inr (.inl ⟨c,rfl⟩));rw [if_neg (by omega)];exact .inr (.inr (.inr ⟨by omega,rfl⟩))
theorem AR {i:Int} {x:LV} (h1:1≤x.r) (h12:x.r≤12) (h:rm x∨rk i x):jv i x=3:=by
 have hp:=me h1 h12;unfold jv jT;simp only [Bool.or_eq_true,Bool.and_eq_true,decide_eq_true_eq,bne_iff_ne];unfold rm rk at h;split;rfl;rename_i hn;split;rename_i h11;rw [if_pos (by omega)];exfalso;omega
theorem AS {i:Int} {x:LV} (h1:1≤x.r) (h12:x.r≤12) (h:¬rm x) (h2:¬rk i x):jv i x=if x.g<0∨x.g≥4 then 2 else 0:=by
 have hp:=me h1 h12;unfold jv jT;simp only [Bool.or_eq_true,Bool.and_eq_true,decide_eq_true_eq,bne_iff_ne];unfold rm at h;unfold rk at h2;rw [if_neg (by omega)];split;rename_i h11;rw [if_neg (by omega),if_neg (by omega)];rfl
end Go.Proofs.Wit
namespace Go.Proofs.Wit
open Go Go.RowKit Go.ChangeShapes Go.WideShapes Go.ChangeAt
section
variable {H:Type} {enc:TypeId×Value→H} {P:Program}
theorem ng (hl:laidOutB P=true) {W W':World} (hb:Below W.heap.size W W'):∀{ts:List TypeId} {vs:List Value} {ds:List (DataW H)} {ps:List MemPlace},ts.all (fun t=>P.readableRec t && decide (t<P.types.size))=true→
  DataW.TrodAll enc P W 0 (fun _=>true) true ts vs ds ps→(∀x∈ps,x.block<W.heap.size)→DataW.TrodAll enc P W' 0 (fun b=>decide (b<W.heap.size)) true ts vs ds ps
 |[],_,_,_,_,h,_=>by
  obtain ⟨rfl,rfl,rfl⟩:=trodAll_nil h;exact rfl
 |t::ts,_,_,_,hr,h,hlt=>by
  obtain ⟨v,vs1,d,ds1,a,b,rfl,rfl,rfl,h1,h2⟩:=trodAll_cons h;rw [List.all_cons,Bool.and_eq_true,Bool.and_eq_true,decide_eq_true_eq] at hr;exact trodAll_cons_mk (Below.trod hl hr.1.1 hr.1.2 h1 hb (fun x hx=>hlt x (by simp [hx]))) (ng hl hb hr.2 h2 (fun x hx=>hlt x (by simp [hx])))
theorem EP (a:Addr) (i:Nat) (h:a.spot=none):a.add i=ny (some a) i:=by
 obtain ⟨b,o,s⟩:=a;simp only at h;subst h;unfold Addr.add ny;split;rename_i h0;rw [h0];rfl;rfl
end
end Go.Proofs.Wit
namespace Go.Proofs.Wit
open Go Go.RowKit Go.ChangeShapes Go.WideShapes Go.ChangeAt Go.Deep Go.Joins
theorem Et {w:World} {a:Addr} {v:Value} (h:w.cell? a=some v):a.block<w.heap.size:=by
 unfold World.cell? at h;split at h;rename_i hb;exact (Array.getElem?_eq_some_iff.1 hb).1;cases h
theorem xK {w:World} {a:Addr} {v:Value} (h:w.cell? (a.add 0)=some v):a.spot=none:=by
 unfold World.cell? at h;split at h;split at h;cases h;rename_i hs;have e0:a.add 0=a:=by unfold Addr.add;simp
 rw [e0] at hs;simpa using hs;cases h
theorem Iq {w:World} {a:Addr} {xs:List Value} (h:∀i,i<xs.length→w.cell? (a.add i)=some (xs.getD i undef)):Sl w (some a) xs:=by
 refine ⟨fun h0=>?_,fun i hi=>?_⟩;have hs:=xK (h 0 h0);have hb:=Et (h 0 h0);obtain ⟨b,o,s⟩:=a;simp only at hs;subst hs;refine ⟨b,o,rfl,?_⟩;rw [mF] at hb;exact hb;have hs:=xK (h 0 (by omega));rw [←EP a i hs];exact h i hi
section
variable {H:Type} {enc:TypeId×Value→H} {P:Program}
end
section
variable {H:Type} {enc:TypeId×Value→H} {P:Program}
instance:Inhabited NV:=⟨Ke⟩
theorem vt {W:World} {t e:TypeId} {f0 f1 f2 f3 f4 f5:Field} (ht:P.underlying t=some (.slice e)) (he:P.underlying e=some (.struct #[f0,f1,f2,f3,f4,f5])) (hone:oneCellFields P #[f0,f1,f2,f3,f4,f5]=true) (ce:P.cellsOf e=6)
  (i0:P.underlying f0.type=some (.int .i64)) (i1:P.underlying f1.type=some (.int .i64)) (i2:P.underlying f2.type=some (.int .i64)) (i3:P.underlying f3.type=some (.int .i64)) (i4:P.underlying f4.type=some (.int .i64)) (i5:P.underlying f5.type=some (.int .i64))
  {cs:List Value} {fuel:Nat} {x:DataW H×List MemPlace} (h:DataW.trod enc P W 0 (fun _=>true) true fuel t cs=some x):∃(a:Option Addr) (f:List NV) (cap:Nat),cs=[.slice a f.length cap]∧FA W a f∧f.length≤maxLen∧f.length≤cap:=by
 rcases open_slice ht h with ⟨rfl,_⟩|⟨a,len,cap,m,n,D,Pl,rfl,hb,hl,hm,hmm,_,hx⟩;exact ⟨none,[],0,rfl,⟨Sl.nil _ _⟩,Nat.zero_le _,Nat.le_refl _⟩;have hm':m=cap:=by rw [hmm];rfl
 have each:∀i,i<m→∃v:NV,∀j,j<6→W.cell? (a.add (i*6+j))=some ((NV.cells v).getD j undef):=by
  intro i hi;obtain ⟨cs',h1,h2⟩:=hx i hi;rw [ce] at h1;obtain ⟨_,hlen,hcell⟩:=World.cells?_some h1;obtain ⟨xs,k,_,_,_,hxl,hf⟩:=DataW.trod_struct he h2;have g:∀(j:Nat) (fj:Field) (c:Value),#[f0,f1,f2,f3,f4,f5][j]?=some fj→P.underlying fj.type=some (.int .i64)→cs'[j]?=some c→∃z:Int,c=.int .i64 z:=fun j fj c hj hi hc=>by
   obtain ⟨oj,kj⟩:=hone_of hone j fj hj;have hjl:=(Array.getElem?_eq_some_iff.1 hj).1;have:=hf j fj hj;rw [oj,kj,take1_drop cs' j undef (by rw [hlen];exact hjl)] at this;rw [show cs'.getD j undef=c from by rw [List.getD_eq_getElem?_getD,hc];rfl] at this;have hjx:j<xs.length:=by rw [hxl];exact hjl
   rw [List.getElem?_eq_getElem hjx] at this;obtain ⟨z,hz,_⟩:=DataW.trod_int hi this;simp only [List.cons.injEq,and_true] at hz;exact ⟨z,hz⟩
  match cs',hlen with
  |[c0,c1,c2,c3,c4,c5],_=>
   obtain ⟨z0,rfl⟩:=g 0 f0 c0 rfl i0 rfl;obtain ⟨z1,rfl⟩:=g 1 f1 c1 rfl i1 rfl;obtain ⟨z2,rfl⟩:=g 2 f2 c2 rfl i2 rfl;obtain ⟨z3,rfl⟩:=g 3 f3 c3 rfl i3 rfl;obtain ⟨z4,rfl⟩:=g 4 f4 c4 rfl i4 rfl;obtain ⟨z5,rfl⟩:=g 5 f5 c5 rfl i5 rfl;refine ⟨⟨z0,z1,z2,z3,z4,z5⟩,fun j hj=>?_⟩;have:=hcell j hj;rw [Go.Deep.add_add] at this;rw [this];have:j=0∨j=1∨j=2∨j=3∨j=4∨j=5:=by omega
   rcases this with rfl|rfl|rfl|rfl|rfl|rfl<;>rfl
 obtain ⟨V,hV⟩:=choose_lt each;have hfl:((List.range len).map V).length=len:=by simp
 refine ⟨some a,(List.range len).map V,cap,by rw [hfl],⟨Iq (fun q hq=>?_)⟩,by rw [hfl];omega,by rw [hfl];exact hl⟩;rw [jr,hfl] at hq;have hi:q / 6<len:=by omega
 have:=hV (q / 6) (by omega) (q%6) (by omega);rw [show q / 6*6+q%6=q from by omega] at this;rw [this];have hg:=rL (enc:=NV.cells) (sz:=6) (fun _=>rfl) (xs:=(List.range len).map V) (j:=q / 6) (by rw [hfl];exact hi) (i:=q%6) (by omega);rw [show q / 6*6+q%6=q from by omega] at hg;rw [List.getD_eq_getElem?_getD,List.getD_eq_getElem?_getD,hg];simp
theorem wL {W:World} {t e:TypeId} {f0 f1 f2 f3 f4 f5:Field} (ht:P.underlying t=some (.slice e)) (he:P.underlying e=some (.struct #[f0,f1,f2,f3,f4,f5])) (hone:oneCellFields P #[f0,f1,f2,f3,f4,f5]=true) (ce:P.cellsOf e=6)
  (i0:P.underlying f0.type=some (.int .i64)) (i1:P.underlying f1.type=some (.int .i64)) (i2:P.underlying f2.type=some (.int .i64)) (i3:P.underlying f3.type=some (.int .i64)) (i4:P.underlying f4.type=some (.int .i64)) (i5:P.underlying f5.type=some (.int .i64))
  {v:Value} {d:DataW H} {ps:List MemPlace} (h:DataW.Trod enc P W 0 (fun _=>true) true t v d ps) {r:Reach} {b0:Nat} (hok:Value.okWide P W r b0 t v):∃(a:Option Addr) (f:List NV) (cap:Nat),v=.slice a f.length cap∧FA W a f∧f.length≤maxLen∧f.length≤cap:=by
 obtain ⟨fuel,hf⟩:=h;obtain ⟨a',n',c',rfl⟩:=okWide_slice ht hok;obtain ⟨a,f,cap,e1,h1,h2,h3⟩:=vt ht he hone ce i0 i1 i2 i3 i4 i5 hf;refine ⟨a,f,cap,?_,h1,h2,h3⟩;simpa [Value.cells] using e1
end
section
variable {H:Type} {enc:TypeId×Value→H} {P:Program}
end
section
variable {P:Program} {w0:World} {S:List Nat} {n:Nat} {l:Fl} {h:Hl} {ops:Array Oper} {i d:Nat} {ty:TypeId} {pos:String} {aft:Array Edge} {g:Option (Nat×Bool)}
theorem af.LJ {t e:TypeId} {x y:Operand} {cs:Array Value} {len:Nat} {kd:IntKind} {j:Int} {v:Value} (ho:ops[i]?=some ⟨some d,.index t x y,ty,pos,aft,g⟩) (hw:aq ops l g=true)
  (hx:aM l x=some (.agg cs)) (hy:aM l y=some (.int kd j)) (hd:Nat.blt d n=true) (hu:P.underlying t=some (.array len e)) (hs:∀w,(sizeOf e).run P w=.ok 1 w) (ha:∀w,(isAgg e).run P w=.ok false w) (k:Nat) (hj:j=k∧k<len) (hv:cs[k]?=some v):
  af P w0 S n h ops i l d v:=
 .of ho hw rfl rfl hd (fun t' w Ds _ hF hS=>⟨.value v,by
  obtain ⟨rfl,hk⟩:=hj;simp only [execOp,hF.aM hx,hF.aM hy,Instr.index,asIntOf,Sem.run_bind,Sem.run_pure,Result.andThen_ok,run_underlying hu];rw [if_pos ⟨by omega,by omega⟩];simp only [Sem.run_bind,hs,Result.andThen_ok,Int.toNat_natCast,Nat.mul_one,kO ha hv],rfl⟩)
end
abbrev i3 (y z x:Int):Array Value:=#[.int .i64 y,.int .i64 z,.int .i64 x]
end Go.Proofs.Wit
