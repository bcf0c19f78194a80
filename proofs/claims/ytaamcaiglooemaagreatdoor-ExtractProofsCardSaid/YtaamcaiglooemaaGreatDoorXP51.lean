/- Laws of walks, each under its own conditions. -/
import Derived.Test.YtaamcaiglooemaaGreatDoorXP30
set_option maxRecDepth 100000
set_option maxHeartbeats 40000000
namespace Go.Proofs.Wit
open Go Go.RowKit Go.ChangeShapes Go.WideShapes Go.ChangeAt Go.Deep Go.Joins
instance:Inhabited SV:=⟨⟨⟨0#64,0,0,0,[]⟩,none,0⟩⟩
section
variable{H:Type}{enc:ax×aC->H}{P:av}
theorem Bx{W:aB}{t e:ax}(ht:P.underlying t=some (.slice e))(he:P.underlying e=some (.int .i64))(hc:P.cellsOf e=1){v:aC}{n:Nat}{y:DataW H×List MemPlace}
  (h:DataW.trod enc P W 0 (λ_=>true) true n t [v]=some y):∃(a:ae) (xs:ar) (cap:Nat),v=.slice a xs.length cap/\oe W a xs/\xs.length<=maxLen/\xs.length<=cap:=by
 rcases open_ints ht he hc h with⟨hcs,_⟩|⟨a,len,cap,zs,hcs,hb,hlc,hcm,hzl,_,hcell,hw⟩;exact⟨none,[],0,by simpa using hcs,Sl.nil _ _,aG,eG _⟩;rw[if_pos rfl]at hzl;have hxl:(zs.take len).length=len:=by simp;omega
 refine⟨some a,zs.take len,cap,by rw[hxl];simpa using hcs,EZ (λi hi=>?_),by rw[hxl];omega,by rw[hxl];exact hlc⟩;have hi2:i<len:=by simp at hi;omega
 have hil:i<zs.length:=aH;rw[hcell i hil];simp[aX,hi2,hil]
theorem Bw{W:aB}{t e ie:ax}{g0 g1 g2 g3 g4:Field}(ht:P.underlying t=some (.slice e))(he:P.underlying e=some (.struct #[g0,g1,g2,g3,g4]))(hone:oneCellFields P #[g0,g1,g2,g3,g4]=true)(ce:P.cellsOf e=5)
  (j0:P.underlying g0.type=some (.int .u64))(j1:P.underlying g1.type=some (.int .i64))(j2:P.underlying g2.type=some (.int .i64))(j3:P.underlying g3.type=some (.int .i64))(j4:P.underlying g4.type=some (.slice ie))
  (hie:P.underlying ie=some (.int .i64))(cie:P.cellsOf ie=1){v:aC}{n:Nat}{y:DataW H×List MemPlace}
  (h:DataW.trod enc P W 0 (λ_=>true) true n t [v]=some y):∃(a:ae) (ss:List SV) (cap:Nat),v=.slice a ss.length cap/\vz W a ss/\ss.length<=maxLen/\ss.length<=cap:=by
 rcases open_slice ht h with⟨e1,_⟩|⟨a,len,cap,m,n,D,Pl,e1,hb,hl,hm,hmm,_,hx⟩;simp only[List.cons.injEq,and_true]at e1;rw[e1];exact⟨none,[],0,rfl,⟨Sl.nil _ _,λ_ h=>by cases h⟩,aG,eG _⟩;have hm':m=cap:=by rw[hmm];rfl
 simp only[List.cons.injEq,and_true]at e1;rw[e1];have each:∀i,i<m->∃x:SV,(∀j,j<5->W.cell? (a.add (i*5+j))=some ((SV.cells x).getD j undef))/\oe W x.fa x.d.fr/\x.d.fr.length<=maxLen:=by
  intro i hi;obtain⟨cs',h1,h2⟩:=hx i hi;rw[ce]at h1;obtain⟨_,hlen,hcell⟩:=World.cells?_some h1;obtain⟨xs,k,_,_,_,hxl,hf⟩:=DataW.trod_struct he h2;have gg:∀(j:Nat) (fj:Field) (c:aC),#[g0,g1,g2,g3,g4][j]?=some fj->cs'[j]?=some c->∃y,DataW.trod enc P W 0 (λ_=>true) true k fj.type [c]=some y:=λj fj c hj hc=>by
   obtain⟨oj,kj⟩:=hone_of hone j fj hj;have hjl:=(aW.1 hj).1;have:=hf j fj hj;rw[oj,kj,take1_drop cs' j undef (by rw[hlen];exact hjl)]at this;rw[show cs'.getD j undef=c from by rw[aX,hc];rfl]at this;have hjx:j<xs.length:=by rw[hxl];exact hjl
   rw[bG hjx]at this;exact⟨_,this⟩
  have g:∀(j:Nat) (fj:Field) (c:aC),#[g0,g1,g2,g3,g4][j]?=some fj->P.underlying fj.type=some (.int .i64)->cs'[j]?=some c->∃z:Int,c=aS z:=λj fj c hj hi hc=>by
   obtain⟨y,this⟩:=gg j fj c hj hc;obtain⟨z,hz,_⟩:=DataW.trod_int hi this;simp only[List.cons.injEq,and_true]at hz;exact⟨z,hz⟩
  match cs',hlen with
  |[c0,c1,c2,c3,c4],_=>
   obtain⟨y0,hy0⟩:=gg 0 _ c0 rfl rfl;obtain⟨z0,ez0,hz0⟩:=DataW.trod_int j0 hy0;simp only[List.cons.injEq,and_true]at ez0;obtain⟨z1,rfl⟩:=g 1 _ c1 rfl j1 rfl;obtain⟨z2,rfl⟩:=g 2 _ c2 rfl j2 rfl;obtain⟨z3,rfl⟩:=g 3 _ c3 rfl j3 rfl;obtain⟨y4,hy4⟩:=gg 4 _ c4 rfl rfl;obtain⟨fa,fl,fc,ef,hfa,hfm,_⟩:=Bx j4 hie cie hy4;refine⟨⟨⟨BitVec.ofInt 64 z0,z1,z2,z3,fl⟩,fa,fc⟩,λj hj=>?_,hfa,hfm⟩;have:=hcell j hj;rw[Go.Deep.add_add]at this;rw[this,ef,ez0];have:j=0\/j=1\/j=2\/j=3\/j=4:=aH;rcases this with rfl|rfl|rfl|rfl|rfl;show some (Value.int .u64 z0)=some (U (BitVec.ofInt 64 z0));rw[wf_u64 hz0.2]
   all_goals rfl
 obtain⟨V,hV⟩:=choose_lt each;have hfl:((List.range len).map V).length=len:=by simp
 refine⟨some a,(List.range len).map V,cap,by rw[hfl],⟨EZ (λq hq=>?_),λx hx=>?_⟩,by rw[hfl];omega,by rw[hfl];exact hl⟩;rw[oX (enc:=SV.cells) (sz:=5) (λ_=>rfl),hfl]at hq;have hi:q / 5<len:=aH;have:=(hV (q / 5) aH).1 (q%5) aH;rw[show q / 5*5+q%5=q from aH]at this;rw[this];have hg:=ub (enc:=SV.cells) (sz:=5) (λ_=>rfl) (xs:=(List.range len).map V) (j:=q / 5) (by rw[hfl];exact hi) (i:=q%5) aH;rw[show q / 5*5+q%5=q from aH]at hg;rw[aX,aX,hg];simp;obtain⟨i,hi,rfl⟩:=eA.1 hx;rw[ec]at hi;exact(hV i aH).2
theorem FC{W:aB}{r:Reach}{b0:Nat}{t ne e ie:ax}{k0 k1 k2 g0 g1 g2 g3 g4 f0 f1 f2 f3 f4 f5:Field}{v:aC}{d:DataW H}{p:List MemPlace}(hs:P.underlying t=some (.struct #[k0,k1,k2]))(hones:oneCellFields P #[k0,k1,k2]=true)(hC:P.cellsOf t=3)
  (hi:P.underlying k0.type=some (.int .i64))(hn:P.underlying k1.type=some (.slice ne))(pS:P.underlying k2.type=some (.slice e))
  (hne:P.underlying ne=some (.struct #[f0,f1,f2,f3,f4,f5]))(honen:oneCellFields P #[f0,f1,f2,f3,f4,f5]=true)(csn:P.cellsOf ne=6)
  (i0:P.underlying f0.type=some (.int .i64))(i1:P.underlying f1.type=some (.int .i64))(i2:P.underlying f2.type=some (.int .i64))(i3:P.underlying f3.type=some (.int .i64))(i4:P.underlying f4.type=some (.int .i64))(i5:P.underlying f5.type=some (.int .i64))
  (he:P.underlying e=some (.struct #[g0,g1,g2,g3,g4]))(hone:oneCellFields P #[g0,g1,g2,g3,g4]=true)(ce:P.cellsOf e=5)
  (j0:P.underlying g0.type=some (.int .u64))(j1:P.underlying g1.type=some (.int .i64))(j2:P.underlying g2.type=some (.int .i64))(j3:P.underlying g3.type=some (.int .i64))(j4:P.underlying g4.type=some (.slice ie))
  (hie:P.underlying ie=some (.int .i64))(cie:P.cellsOf ie=1)
  (hok:Value.okWide P W r b0 t v)(h:DataW.Trod enc P W 0 (λ_=>true) true t v d p):∃(l:Int) (A:ae) (cA:Nat) (b:List NV) (B:ae) (cB:Nat) (ss:List SV),v=.agg (fE l A b.length cA B ss.length cB)/\FA W A b/\vz W B ss/\b.length<=maxLen/\ss.length<=maxLen:=by
 obtain⟨v0,v1,v2,y0,y1,y2,n,rfl,_,_,h0,h1,h2⟩:=open_agg3 hs hones hC hok h;obtain⟨z,hz,_⟩:=DataW.trod_int hi h0;obtain⟨A,b,cA,eb,hA,hbl,_⟩:=Ad hn hne honen csn i0 i1 i2 i3 i4 i5 h1;obtain⟨B,ss,cB,rfl,hB,hsl,_⟩:=Bw pS he hone ce j0 j1 j2 j3 j4 hie cie h2;simp only[List.cons.injEq,and_true]at hz eb;subst hz;subst eb;exact⟨z,A,cA,b,B,cB,ss,rfl,hA,hB,hbl,hsl⟩
end
end Go.Proofs.Wit
namespace Go.Proofs.Wit
open Go Go.RowKit
abbrev B8:=BitVec 8
def B(x:B8):aC:=.int .u8 (x.toNat:Int)
section
variable(t:ax)(x y:B8)
end
section
variable{P:av}{t:ax}{x y:B8}{b:Int}
end
section
variable{P:av}{r:ah}{f:ay}{R:aC->aB->Prop}{w0:aB}{S:aq}{Y:List (Nat×Obj)}{n:Nat}{k:al}{l:Fl}{h:Hl}
variable{ops:aj}{i d:Nat}{rest:aq}{ty:ax}{pos:aA}{aft:ak}{g:Option (Nat×Bool)}
end
def nt(x:B8):B8:=15#8 &&& ~~~x
def f4(a b c d:Bool):B8:=((((if a then 1#8 else 0#8)|||(if b then 2#8 else 0#8))|||(if c then 4#8 else 0#8))|||(if d then 8#8 else 0#8))
section
variable{x y:B8}
end
end Go.Proofs.Wit
