/- Laws of walks, each under its own conditions. -/
import Derived.Test.YtpbhoidjmpjfpaaGreatDoorXP28
set_option maxRecDepth 100000
set_option maxHeartbeats 40000000
namespace Go.Proofs.Wit
open Go Go.RowKit
theorem Qx{P:av}{t:ax}{i:Int}(h:0<=i/\i<4):oO P .shl t (aS 1) (aS i) (aS ((bW i).toNat:Int)):=by
 have:i=0\/i=1\/i=2\/i=3:=aH;rcases this with rfl|rfl|rfl|rfl<;>exact bI _ rfl
theorem U1{P:av}{t:ax}{ag:fi}(h:ag.toNat<16){a:Nat}(ha:a<4):oO P .shr t (aS (ag.toNat:Int)) (aS (a:Int)) (aS ((ag.toNat>>>a:Nat):Int)):=by
 obtain⟨k,hk⟩:∃k,k=ag.toNat:=⟨_,rfl⟩;rw[<-hk]at h⊢;refine bI _ ?_;have h4:a=0\/a=1\/a=2\/a=3:=aH;have h16:k=0\/k=1\/k=2\/k=3\/k=4\/k=5\/k=6\/k=7\/k=8\/k=9\/k=10\/k=11\/k=12\/k=13\/k=14\/k=15:=aH;rcases h4 with rfl|rfl|rfl|rfl<;>rcases h16 with rfl|rfl|rfl|rfl|rfl|rfl|rfl|rfl|rfl|rfl|rfl|rfl|rfl|rfl|rfl|rfl<;>rfl
theorem QA{ag:fi}{a:Nat}:ag.toNat>>>a &&& 1=1↔ag.getLsbD a=true:=by
 rw[BitVec.getLsbD,Nat.testBit,Nat.and_comm];simp
section
variable{P:av}{w0:aB}{S:aq}{n:Nat}{l:Fl}{h:Hl}{ops:aj}{i d:Nat}{ty:ax}{pos:aA}{aft:ak}{g:Option (Nat×Bool)}{κ ν:Type}{ek:κ->aC}{ev:ν->aC}{q:κ->κ->Bool}
theorem Js{t kt el:ax}(hK:nG P kt ek q){z:aC}{x ix:au}{b:Nat}{a:κ}{L:List (κ×ν)}(ho:ops[i]?=some ⟨some d,.lookup t x ix false,ty,pos,aft,g⟩)(hw:fE ops l g=true)
  (hx:fW l x=some (.map (some b)))(hy:fW l ix=some (ek a))(hd:Nat.blt d n=true)(hu:P.underlying t=some (.map kt el))(hz:∀w,(zeroValue el).run P w=.ok z w)(j:Nat)(hj:h[j]?=some (some b,nZ ek ev L)){v:aC}(hv:((iJ q L a).map ev).getD z=v):
  fh P w0 S n h ops i l d v:=
 .of ho hw rfl rfl hd (λt' w Ds Y' hF hS=>⟨.value v,by
  have hg:(getObj b).run P w=.ok (nZ ek ev L) w:=by simp[getObj,Sem.run,hS.get hj]
  have hf:=hK.find ev L a w;have e1:(found q ev L a 0).map (·.2)=(iJ q L a).map ev:=uD;rw[<-hv];simp only[execOp,hF.fW hx,hF.fW hy,Sem.run_bind,Instr.lookup,run_underlying hu,Result.andThen_ok,hg,hK.qA,Sem.run_pure,hf];cases hfo:found q ev L a 0 with
  |none=>
   rw[hfo]at e1;cases ha:iJ q L a with
   |none=>simp[hz]
   |some v=>rw[ha]at e1;cases e1
  |some y=>
   rw[hfo]at e1;cases ha:iJ q L a with
   |none=>rw[ha]at e1;cases e1
   |some v=>rw[ha]at e1;simp at e1⊢;exact e1,rfl⟩)
end
def Wx(x:Tx)(c:TC)(m:Nat)(path:List fi)(s:Tm):Hl:=
 (some x.bs,.cells (xz c.l (gx x.qb c.b.length x.cb) (gx x.qn c.ng.length x.cn) c.ag x.mr x.mo (gx s.qp m s.cp) (gx s.qs s.ss.length s.cs)) x.tt (0,0))::
 (x.qb,jR x.tn c.b x.sb)::(x.qn,ob gu x.ti c.ng x.sn)::(some x.mr,nZ U eI s.L1)::(some x.mo,nZ U Value.bool s.L2)::(s.qp,ob U x.tu path s.sp)::(s.qs,oY x.ts s.ss s.sq)::s.H
theorem Nw{x:Tx}{c:TC}{path:List fi}{u:fi}{s:Tm}:uO x c (path++[u]) s=Wx x c (path.length+1) path {s with sp:=U u::s.sp}:=by
 have e:ob U x.tu (path++[u]) s.sp=ob U x.tu path (U u::s.sp):=by unfold ob;simp
 unfold uO Wx;dsimp only;rw[e,di,cC]
theorem Bk{y:SV}{sp:ai}:∀{ss:List SV} {j:Nat} (hj:j<ss.length),y.d.set=ss[j].d.set->y.d.fK=ss[j].d.fK->y.d.on=ss[j].d.on->y.d.e=ss[j].d.e->(ss.flatMap SV.cells++sp).set (j*5+4) (.slice y.fa y.d.fr.length y.fc)=(ss.set j y).flatMap SV.cells++sp
 |[],j,hj,_,_,_,_=>by simp at hj
 |x::ss,0,_,h1,h2,h3,h4=>by
  simp only[List.getElem_cons_zero]at h1 h2 h3 h4;simp[SV.cells,h1,h2,h3,h4]
 |x::ss,j+1,hj,h1,h2,h3,h4=>by
  have ih:=@Bk y sp ss j (by simpa using hj) h1 h2 h3 h4;rw[List.flatMap_cons,dA,List.set_append_right _ _ (by simp[SV.cells];omega),List.set_cons_succ,List.flatMap_cons,dA,<-ih]
  congr 2
  simp[SV.cells];omega
theorem MH{y:SV}{sp:ai}{ss:List SV}{j:Nat}(hj:j<ss.length)(h1:y.d.set=ss[j].d.set)(h2:y.d.fK=ss[j].d.fK)(h3:y.d.on=ss[j].d.on)(h4:y.d.e=ss[j].d.e):(ss.flatMap SV.cells++sp).toArray.setIfInBounds (j*5+4) (.slice y.fa y.d.fr.length y.fc)=((ss.set j y).flatMap SV.cells++sp).toArray:=by
 rw[<-Bk hj h1 h2 h3 h4];simp
def mw(b:List NV):Nat->fi
 |0=>0#64
 |k+1=>if (nd b k).op=9\/(nd b k).op=10 then mw b k|||bW (nd b k).i else mw b k
theorem CF{b:List NV}(hi:∀k,k<b.length->(nd b k).op=9\/(nd b k).op=10->0<=(nd b k).i/\(nd b k).i<4):∀{k:Nat},k<=b.length->(mw b k).toNat<16
 |0,_=>by rw[mw];decide
 |k+1,hk=>by
  have ih:=CF hi (k:=k) aH;rw[mw];split;rename_i h;obtain⟨h1,h2⟩:=hi k aH h;rw[BitVec.toNat_or];refine Nat.or_lt_two_pow (n:=4) ih ?_;have:(nd b k).i=0\/(nd b k).i=1\/(nd b k).i=2\/(nd b k).i=3:=aH;rcases this with e|e|e|e<;>rw[e]<;>decide
  exact ih
theorem WH{i:Int}(h:0<=i/\i<4):(bW i).toNat<16:=by
 have:i=0\/i=1\/i=2\/i=3:=aH;rcases this with e|e|e|e<;>rw[e]<;>decide
def vY(f:List NV):Prop:=gp f=0/\jE (λop _ _=>op<=10) (fF f)/\bT (fC (fF f)).1≠[]/\bT (fU (fF f))≠[]/\bT (fC (fF f)).2≠[]/\(iG (fF f)).length<=64
theorem US{n:List NV}{P:Tr}(h:Cf n P):gU [] (trees n)=iu P/\(iu P).idxOf (fe n (n.length - 1))=(iu P).length - 1/\fT n/\0<n.length/\n.length<=200/\n=fH (iu P):=by
 have hc:=h.can.1;have htr:trees n=iu P:=by rw[hc];exact o8 h.ok.wf
 have htop:fe n (n.length - 1)=P:=by rw[<-je];exact h.top
 refine⟨?_,?_,h.okF.nodes,h.pos,h.le,hc⟩;rw[htr,z9 oN.nil eE];rfl;rw[htop];obtain⟨q,hq⟩:=qJ P;have hn:=(kp P).nd;rw[hq]at hn⊢;have:P∉q:=λhm=>by
  rw[dC]at hn;exact hn.2.2 P hm P aL rfl
 rw[List.idxOf_append,if_neg this];simp
theorem UT{m:List NV}{P N:Tr}(h:Cf m N):gU (iu P) (trees m)=Jl P N:=by
 have hc:=h.can.1;rw[show trees m=iu N from by rw[hc];exact o8 h.ok.wf];exact z9 (kp P).sR (kp P).nd N
theorem um.K5:∀{t:Tr},um t->jE (λop _ _=>op<=10) t
 |.leaf op _ _ _,h=>by have h1:op<=3:=h;show op<=10;omega
 |.un op _ _ _ a,h=>by
  rcases h with⟨h1,i,e,g,rfl⟩|⟨h1,h2⟩;exact⟨by show op<=10;omega,by show(3:Int)<=10;decide⟩;exact⟨by show op<=10;omega,h2.K5⟩
 |.bin op _ _ _ a b,h=>⟨by have:=h.1;show op<=10;omega,h.2.1.K5,h.2.2.K5⟩
theorem Mr{n:List NV}{P:Tr}(h:Cf n P)(hn:um P):∀x∈n,x.op<=10:=λx hx=>by
 rw[h.can.1]at hx;exact z8.1 hn.K5 x hx
theorem mg.Ni{w:aB}{h0 hR:Hl}(g:mg w (h0++hR))(j:Nat){q:ah}{f:List NV}{e:ax}{sp:ai}(hj:hR[j]?=some (q,jR e f sp))(hq:q=none->f.length=0):M7 (iR h0) w (q.map aP) f:=by
 have hm:=cP hj;cases q with
 |none=>rw[aV (hq rfl)];exact⟨Sl.nil _ _,λb o e=>by cases e⟩
 |some b=>exact⟨Sl.jd (g.read hm).1,λb' o e=>by cases e;exact(g.read hm).2⟩
end Go.Proofs.Wit
