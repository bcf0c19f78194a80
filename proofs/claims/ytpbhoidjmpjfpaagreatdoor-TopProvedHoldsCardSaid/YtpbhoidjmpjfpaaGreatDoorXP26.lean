/- Laws of walks, each under its own conditions. -/
import Derived.Test.YtpbhoidjmpjfpaaGreatDoorXP24
set_option maxRecDepth 100000
set_option maxHeartbeats 40000000
namespace Go.Proofs.Wit
open Go
section
variable{g u w:Nat}{c:Nat->Bool}{a b:Tr}
structure KM where
  n:Nat
  R:Nat->Nat->Nat->Prop
  V:Nat->Nat->Prop
  lt:∀k w u,w<n->R k w u->u<n
def KM.Gr(M:KM)(g:Nat)(w u:Nat):Prop:=∃k,k<4/\gb g k=1/\M.R k w u
inductive KM.H9 (M:KM) (g:Nat) (c:Nat->Bool):Nat->Nat->Prop
  |one {w u:Nat}:M.Gr g w u->c u=true->KM.H9 M g c w u
  |step {w u v:Nat}:KM.H9 M g c w u->M.Gr g u v->c v=true->KM.H9 M g c w v
open Classical in
noncomputable def tP(M:KM)(op i g:Int)(A B:Nat->Bool)(w:Nat):Bool:=
 if op=9 then decide (∀u,M.R i.toNat w u->A u=true)
 else if op=10 then decide (∃u,M.R i.toNat w u/\A u=true)
 else if op=11 then decide (∀u,M.Gr g.toNat w u->A u=true)
 else if op=13 then decide (∀u,M.H9 g.toNat A w u->B u=true)
 else false
open Classical in
noncomputable def sat(M:KM):Tr->Nat->Bool
 |.leaf op i _ _,w=>if pM op=true then(if op=3 then decide (M.V i.toNat w)else false)else tR op false false
 |.un op i _ g a,w=>if pM op=true then tP M op i g (sat M a) (λ_=>false) w else tR op (sat M a w) false
 |.bin op i _ g a b,w=>if pM op=true then tP M op i g (sat M a) (sat M b) w else tR op (sat M a w) (sat M b w)
section
variable{M:KM}
theorem EE (hw:w<M.n)(h:M.Gr g w u):u<M.n:=by
 obtain⟨k,_,_,h⟩:=h;exact M.lt k w u hw h
theorem KM.H9.lt  (hw:w<M.n)(h:M.H9 g c w u):u<M.n:=by
 induction h with
 |one h _=>exact EE hw h
 |step _ h _ p=>exact EE p h
theorem Cc{w:Nat}:∀{t:Tr},iC (λu=>sat M u w) t=sat M t w
 |.leaf op i e g=>by
  unfold iC;split;rfl;rename_i h;unfold sat;rw[if_neg h]
 |.un op i e g a=>by
  unfold iC;split;rfl;rename_i h;conv=>rhs;unfold sat
  rw[if_neg h,Cc (t:=a)]
 |.bin op i e g a b=>by
  unfold iC;split;rfl;rename_i h;conv=>rhs;unfold sat
  rw[if_neg h,Cc (t:=a),Cc (t:=b)]
theorem mS  :sat M (gv a b) w=true↔(sat M a w=true->sat M b w=true):=by
 show tR 7 (sat M a w) (sat M b w)=true↔_;cases sat M a w<;>cases sat M b w<;>decide
theorem wi  :sat M (uj a b) w=true↔(sat M a w=true/\sat M b w=true):=by
 show tR 5 (sat M a w) (sat M b w)=true↔_;cases sat M a w<;>cases sat M b w<;>decide
theorem E0  :sat M (xH a b) w=true↔(sat M a w=true↔sat M b w=true):=by
 show tR 8 (sat M a w) (sat M b w)=true↔_;cases sat M a w<;>cases sat M b w<;>decide
theorem sx  :sat M (fU a) w=true↔¬sat M a w=true:=by
 show tR 4 (sat M a w) false=true↔_;cases sat M a w<;>decide
open Classical in
theorem lQ{i:Int}  :sat M (fN i a) w=true↔∀u,M.R i.toNat w u->sat M a u=true:=by
 show tP M 9 i 0 (sat M a) (λ_=>false) w=true↔_;unfold tP;rw[if_pos rfl,dE]
open Classical in
theorem Ka{i:Int}  :sat M (pU i a) w=true↔∃u,M.R i.toNat w u/\sat M a u=true:=by
 show tP M 10 i 0 (sat M a) (λ_=>false) w=true↔_;unfold tP;rw[if_neg aI,if_pos rfl,dE]
open Classical in
theorem yN{g:Int}  :sat M (Ay g a) w=true↔∀u,M.Gr g.toNat w u->sat M a u=true:=by
 show tP M 11 0 g (sat M a) (λ_=>false) w=true↔_;unfold tP;rw[if_neg aI,if_neg aI,if_pos rfl,dE]
open Classical in
theorem wh{g:Int}  :sat M (uM g a b) w=true↔∀u,M.H9 g.toNat (sat M a) w u->sat M b u=true:=by
 show tP M 13 0 g (sat M a) (sat M b) w=true↔_;unfold tP;rw[if_neg aI,if_neg aI,if_neg aI,if_pos rfl,dE]
theorem Kb :∀{ts:List Tr},sat M (p7 ts) w=true↔∀u∈ts,sat M u w=true
 |[]=>⟨λ_ u hu=>(by cases hu),λ_=>rfl⟩
 |t::ts=>by
  have p:∀(l:List Tr) (a:Tr),sat M (l.foldl (λa b=>.bin 5 0 0 0 a b) a) w=true↔sat M a w=true/\∀u∈l,sat M u w=true:=λl=>by
   induction l with
   |nil=>exact λa=>⟨λh=>⟨h,λu hu=>(by cases hu)⟩,λh=>h.1⟩
   |cons b l E=>
    intro a;rw[dX,E,List.forall_mem_cons];constructor;rintro ⟨h1,h2⟩;obtain⟨D,C⟩:=wi.1 h1;exact⟨D,C,h2⟩;rintro ⟨D,C,h2⟩;exact⟨wi.2 ⟨D,C⟩,h2⟩
  show sat M (ts.foldl (λa b=>.bin 5 0 0 0 a b) t) w=true↔_;rw[p,List.forall_mem_cons]
theorem NX {x:Tr} :sat M (Eu g x) w=true↔∀u,M.Gr g w u->sat M x u=true:=by
 unfold Eu;rw[Kb];constructor;rintro h u ⟨k,hk,hg,p⟩;have hm:fN (k:Int) x∈OL g 4 x:=eL.2 ⟨k,eg.2 ⟨eD.2 hk,by simpa using hg⟩,rfl⟩;exact lQ.1 (h _ hm) u (by rw[dy];exact p);intro h u hu;obtain⟨k,hk,rfl⟩:=eL.1 hu;obtain⟨h1,h2⟩:=eg.1 hk;rw[eD]at h1;exact lQ.2 (λv hv=>h v ⟨k,h1,by simpa using h2,by rw[dy]at hv;exact hv⟩)
structure P2 (M:KM) (l:Int):Prop where
  t:gJ l 3=true->∀k w,w<M.n->M.R k w w
  f:gJ l 4=true->∀k w u v,w<M.n->M.R k w u->M.R k u v->M.R k w v
  v:gJ l 5=true->∀k w u v,w<M.n->M.R k w u->M.R k w v->M.R k u v
  d:gJ l 6=true->∀k w,w<M.n->∃u,M.R k w u
def AE(M:KM)(t:Tr):Prop:=∀w,w<M.n->sat M t w=true
theorem MS{v:Nat} (h1:M.Gr g w u)(hc:c u=true)(h2:M.H9 g c u v):M.H9 g c w v:=by
 induction h2 with
 |one p h=>exact .step (.one h1 hc) p h
 |step _ p h C=>exact .step C p h
theorem MR{v:Nat} (h:M.H9 g c w v):∃u,M.Gr g w u/\c u=true/\(u=v\/M.H9 g c u v):=by
 induction h with
 |one h1 h2=>exact⟨_,h1,h2,.inl rfl⟩
 |step _ D C J=>
  obtain⟨u,F,E,p⟩:=J;refine⟨u,F,E,.inr ?_⟩;rcases p with rfl|p;exact .one D C;exact .step p D C
theorem Lh{l r:Int}{t:Tr}(hF:P2 M l)(h1:gJ l r=true)(h2:uo r t):AE M t:=by
 intro w hw;unfold uo at h2;by_cases e1:r=1;rw[if_pos e1]at h2;rw[<-Cc];exact h2.2 _;rw[if_neg e1]at h2;by_cases Q:r=2;rw[if_pos Q]at h2;obtain⟨i,x,y,rfl⟩:=h2;exact mS.2 (λh=>mS.2 (λp=>lQ.2 (λu hu=>mS.1 (lQ.1 h u hu) (lQ.1 p u hu))));rw[if_neg Q]at h2;by_cases K:r=3;rw[if_pos K]at h2;subst K;obtain⟨i,x,rfl⟩:=h2;exact mS.2 (λh=>lQ.1 h w (hF.t h1 _ w hw));rw[if_neg K]at h2;by_cases J:r=4;rw[if_pos J]at h2;subst J;obtain⟨i,x,rfl⟩:=h2;exact mS.2 (λh=>lQ.2 (λu hu=>lQ.2 (λv hv=>lQ.1 h v (hF.f h1 _ w u v hw hu hv))));rw[if_neg J]at h2;by_cases F:r=5;rw[if_pos F]at h2;subst F;obtain⟨i,x,rfl⟩:=h2;exact mS.2 (λh=>lQ.2 (λu hu=>sx.2 (λp=>sx.1 h (lQ.2 (λv hv=>lQ.1 p v (hF.v h1 _ w u v hw hu hv))))));rw[if_neg F]at h2;by_cases E:r=6;rw[if_pos E]at h2;subst E;obtain⟨i,x,rfl⟩:=h2;refine mS.2 (λh=>sx.2 (λp=>?_));obtain⟨u,hu⟩:=hF.d h1 i.toNat w hw;exact sx.1 (lQ.1 p u hu) (lQ.1 h u hu);rw[if_neg E]at h2;by_cases P:r=7;rw[if_pos P]at h2;obtain⟨i,x,rfl⟩:=h2;refine E0.2 ⟨λh=>sx.2 (λp=>?_),λh=>Ka.2 (bj (λp=>sx.1 h (lQ.2 (λu hu=>sx.2 (λC=>p ⟨u,hu,C⟩)))))⟩;obtain⟨u,hu,C⟩:=Ka.1 h;exact sx.1 (lQ.1 p u hu) C;rw[if_neg P]at h2;by_cases O:r=8;rw[if_pos O]at h2;obtain⟨g,x,rfl⟩:=h2;exact E0.2 (yN.trans NX.symm);rw[if_neg O]at h2;by_cases N:r=9;rw[if_pos N]at h2;obtain⟨g,x,y,rfl⟩:=h2
 refine E0.2 ⟨λh=>yN.2 (λu hu=>mS.2 (λp=>wi.2 ⟨wh.1 h u (.one hu p),wh.2 (λv hv=>wh.1 h v (MS hu p hv))⟩)),λh=>wh.2 (λv hv=>?_)⟩;obtain⟨u,T,S,D⟩:=MR hv;obtain⟨p,C⟩:=wi.1 (mS.1 (yN.1 h u T) S);rcases D with rfl|D;exact p;exact wh.1 C v D;rw[if_neg N]at h2;exact h2.elim
theorem OS{u t:Tr}(h:P4 u t)(hu:AE M u):AE M t:=by
 obtain⟨z,g,x,y,rfl,rfl⟩:=h;intro w hw;refine mS.2 (λC=>wh.2 (λv hv=>?_));have p:sat M y v=true/\sat M z v=true:=by
  induction hv with
  |one h1 h2=>
   exact wi.1 (mS.1 (yN.1 (mS.1 (hu _ hw) C) _ h1) h2)
  |step h0 h1 h2 D=>
   exact wi.1 (mS.1 (yN.1 (mS.1 (hu _ (h0.lt hw)) D.2) _ h1) h2)
 exact p.1
theorem KZ{l:Int}{ls:List LV}{i:Nat}{x:LV}(hF:P2 M l)(hi:i<ls.length)(_hx:x=ls[i])(h:jM l ls i x=0)(hb:∀(j:Nat) (hj:j<ls.length),j<i->AE M (fF ls[j].f.f)):AE M (fF x.f.f):=by
 unfold jM at h;by_cases h1:j7 x.f.f=0
 rotate_left
 rw[if_pos h1]at h;exact absurd h h1;rw[if_neg (by simp[h1])]at h;by_cases h2:x.r<1\/12<x.r;rw[if_pos h2]at h;exact absurd h aI;rw[if_neg h2]at h;by_cases K:oG i x=0
 rotate_left
 rw[if_pos K]at h;exact absurd h K;rw[if_neg (by simp[K])]at h;by_cases P:gJ l x.r=false;rw[if_pos P]at h;exact absurd h aI;rw[if_neg P]at h;by_cases p:pK ls x
 rotate_left
 rw[if_neg p]at h;exact absurd h aI;obtain⟨N,W,_,Y⟩:=wu K;have hp:=pR (r:=x.r) aH aH;unfold pK at p;by_cases J:x.r=10;rw[if_pos J]at p;obtain⟨T,S⟩:=mQ N aH;obtain⟨b0,b1⟩:=mQ W aH;obtain⟨D,C⟩:∃j:Nat,x.a=(j:Int):=⟨x.a.toNat,aH⟩;obtain⟨X,O⟩:∃j:Nat,x.b=(j:Int):=⟨x.b.toNat,aH⟩;rw[oR aH C,oR aH O]at p;intro w hw;have Q:=hb X aH aH w hw;rw[p]at Q;exact mS.1 Q (hb D aH aH w hw);rw[if_neg J]at p;by_cases F:x.r=11;rw[if_pos F]at p;obtain⟨T,S⟩:=mQ N aH;obtain⟨D,C⟩:∃j:Nat,x.a=(j:Int):=⟨x.a.toNat,aH⟩;rw[oR aH C]at p;intro w hw;rw[p];exact lQ.2 (λu hu=>hb D aH aH u (M.lt _ w u hw hu));rw[if_neg F]at p;by_cases E:x.r=12;rw[if_pos E]at p;obtain⟨T,S⟩:=mQ N aH;obtain⟨D,C⟩:∃j:Nat,x.a=(j:Int):=⟨x.a.toNat,aH⟩;rw[oR aH C]at p;exact OS p (hb D aH aH);rw[if_neg E]at p;exact Lh hF (by simpa using P) p
end
end
end Go.Proofs.Wit
namespace Go.Proofs.Wit
open Go Go.RowKit
section
variable{n:Nat}{val:List fi}{rel:List (List fi)}
theorem vR(hn:n<=64){i:Nat}(h:(jZ n).getLsbD i=true):i<n:=by
 by_cases hi:i<64;rw[kP hn hi]at h;simpa using h;rw[BitVec.getLsbD_of_ge _ _ aH]at h;cases h
theorem Ns(hv:mK (n:Int) val rel){i j:Nat}(h:(val.getD i 0#64).getLsbD j=true):j<n:=by
 have h64:=hv.IU;have:=hv.out;rw[dy]at this;exact(Ky aH).1 this i j h
theorem Pu(hn:n<=64){op:Int}{x y:fi}(hx:∀j,x.getLsbD j=true->j<n)(hy:∀j,y.getLsbD j=true->j<n):∀j,(HP op x y (jZ n)).getLsbD j=true->j<n:=by
 intro j h;unfold HP at h;split at h;exact vR hn h;split at h;rw[dc,dG]at h;exact vR hn h.1;split at h;rw[dc,dG]at h;exact hx j h.1;split at h;rw[du,dV]at h;exact h.elim (hx j) (hy j);split at h;rw[du,dV,dc,dG]at h;exact h.elim (λh=>vR hn h.1) (hy j);split at h;rw[dc,dG]at h;exact vR hn h.1;simp at h
theorem Fi(hv:mK (n:Int) val rel){op i g:Int}{x y:fi}(hx:∀j,x.getLsbD j=true->j<n)(hy:∀j,y.getLsbD j=true->j<n):∀j,(pf n val rel op i g x y).getLsbD j=true->j<n:=by
 intro j h;have h64:=hv.IU;have hn:n<=64:=aH;unfold pf at h;split at h;exact Ns hv h;split at h;exact Pu hn hx hy j h;split at h;exact((kB hn).1 h).1;split at h;rw[dc,dG]at h;exact vR hn h.1;split at h;exact((kB hn).1 h).1;split at h;exact((kB hn).1 h).1;exact((py hn (λa b hr=>vx (BA hv rfl) hr)).1 h).1
theorem Bv:∀j,(0#64:fi).getLsbD j=true->j<n:=λj h=>by simp at h
theorem BG(hv:mK (n:Int) val rel):∀(t:Tr) (j:Nat),(rk n val rel t).getLsbD j=true->j<n
 |.leaf _op _i _e _g=>Fi hv Bv Bv
 |.un _op _i _e _g a=>Fi hv (BG hv a) Bv
 |.bin _op _i _e _g a b=>Fi hv (BG hv a) (BG hv b)
structure Xs (n:Nat) (val:List fi) (rel:List (List fi)) (f:List NV) (t:Tr):Prop where
  qA:gp f=0
  fit:sN f rel.length val.length=true
  XS:mf (nJ (fw f)) 1=0
  can:fw f=iA t
  top:fF f=t
  hold:jN (n:Int) val rel f=0
  ok:t.ok
end
end Go.Proofs.Wit
namespace Go.Proofs.Wit
open Go
structure X2 (n1:Nat) (v1:List fi) (r1:List (List fi)) (n:Nat) (v:List fi) (r:List (List fi)) (e:Nat->Nat):Prop where
  IU:n<=64
  W5:n1<=64
  lt:∀x,x<n1->e x<n
  val:∀i x,x<n1->((v.getD i 0#64).getLsbD (e x)=true↔(v1.getD i 0#64).getLsbD x=true)
  fwd:∀i x y,x<n1->Rl (r1.getD i []) x y->Rl (r.getD i []) (e x) (e y)
  bwd:∀i x z,x<n1->Rl (r.getD i []) (e x) z->∃y,y<n1/\z=e y/\Rl (r1.getD i []) x y
  XN:∀i x y,Rl (r1.getD i []) x y->y<n1
section
variable{n1 n:Nat}{v1 v:List fi}{r1 r:List (List fi)}{e:Nat->Nat}
end
section
variable{na nb:Nat}{va vb:List fi}{ra rb:List (List fi)}
theorem mK.rl{n:Nat}{val:List fi}{rel:List (List fi)}(h:mK (n:Int) val rel){i x y:Nat}(p:Rl (rel.getD i []) x y):i<rel.length/\x<n/\y<n:=by
 have hi:i<rel.length:=by
  rcases eN i rel.length with h1|h1;exact h1;have:rel.getD i []=[]:=by simp[cz h1]
  rw[this]at p;have:=p.HC;simp at this
 have hm:rel.getD i []∈rel:=by simp[hi]
 have h1:=h.len _ hm;have h2:=(h.qM _ hm).lt _ _ p;have w:=p.HC;exact⟨hi,aH,aH⟩
structure XY (na nb:Nat) (va vb:List fi) (ra rb:List (List fi)):Prop where
  a:mK (na:Int) va ra
  b:mK (nb:Int) vb rb
  rl:ra.length=rb.length
  vl:va.length=vb.length
  le:na+nb<=64
end
end Go.Proofs.Wit
namespace Go.Proofs.Wit
open Go Go.RowKit
section
variable{l:Int}
section
variable{n:Nat}{val:List fi}{rel:List (List fi)}
def tQ(hv:mK (n:Int) val rel):KM where
 n:=n
 R:=λk w u=>if k<rel.length then Rl (rel.getD k []) w u else w=u
 V:=λi w=>(val.getD i 0#64).getLsbD w=true
 lt:=λk w u hw h=>by
  split at h;exact(hv.rl h).2.2;exact h ▸ hw
theorem nq(hv:mK (n:Int) val rel){k w u:Nat}(hk:k<rel.length):(tQ hv).R k w u↔Rl (rel.getD k []) w u:=by
 show(if k<rel.length then _ else _)↔_;rw[if_pos hk]
theorem yb(hv:mK (n:Int) val rel){k w u:Nat}(hk:¬k<rel.length):(tQ hv).R k w u↔w=u:=by
 show(if k<rel.length then _ else _)↔_;rw[if_neg hk]
theorem rn{p:Int}(h:OT (n:Int) val rel l=true)(hp:p∈mT l){k:Nat}(hk:k<rel.length):nF p (rel.getD k []):=by
 obtain⟨_,_,h3⟩:=zl.1 h;have hm:rel.getD k []∈rel:=by rw[aY,bJ hk];exact dL hk
 exact(I5.1 (h3 _ hm)).2.2 p hp
theorem R1 (hv:mK (n:Int) val rel)(h:OT (n:Int) val rel l=true):P2 (tQ hv) l:=by
 have hlen:∀k,k<rel.length->(rel.getD k []).length=n:=λk hk=>by
  have hm:rel.getD k []∈rel:=by rw[aY,bJ hk];exact dL hk
  have:=hv.len _ hm;omega
 refine⟨λh3 k w hw=>?_,λh4 k w u v hw h1 h2=>?_,λh5 k w u v hw h1 h2=>?_,λh6 k w hw=>?_⟩;by_cases hk:k<rel.length;have hl:l=2\/l=4\/l=6:=by simpa[gJ]using h3
 have:nF 2 (rel.getD k []):=rn h (by rcases hl with e|e|e<;>subst e<;>decide) hk;exact(nq hv hk).2 ((show GH _ from this) w (by rw[hlen k hk];exact hw));exact(yb hv hk).2 rfl;by_cases hk:k<rel.length;have hl:3<=l:=by simpa[gJ]using h4
 have hp0:=(zl.1 h).1;have hl6:l<=6:=by unfold m9 at hp0;split at hp0<;>first|omega|(exact absurd hp0 aI)
 have:nF 4 (rel.getD k []):=rn h (by rcases(by omega:l=3\/l=4\/l=5\/l=6)with e|e|e|e<;>subst e<;>decide) hk;exact(nq hv hk).2 ((show CY _ from this) w u v ((nq hv hk).1 h1) ((nq hv hk).1 h2));rw[yb hv hk]at h1 h2⊢;exact h1.trans h2;by_cases hk:k<rel.length;have hl:5<=l:=by simpa[gJ]using h5
 have hp0:=(zl.1 h).1;have hl6:l<=6:=by unfold m9 at hp0;split at hp0<;>first|omega|(exact absurd hp0 aI)
 have:nF 5 (rel.getD k []):=rn h (by rcases(by omega:l=5\/l=6)with e|e<;>subst e<;>decide) hk;exact(nq hv hk).2 ((show D9 _ from this) w u v ((nq hv hk).1 h1) ((nq hv hk).1 h2));rw[yb hv hk]at h1 h2⊢;exact h1.symm.trans h2;by_cases hk:k<rel.length;have hl:l=1\/l=5:=by simpa[gJ]using h6
 have:nF 1 (rel.getD k []):=rn h (by rcases hl with e|e<;>subst e<;>decide) hk;have hs:NT (rel.getD k []):=this;have hwl:w<(rel.getD k []).length:=by rw[hlen k hk];exact hw
 refine bj (λhno=>hs ?_);have hz:(rel.getD k []).getD w 0#64=0#64:=by
  refine bS (λi hi=>?_);rw[cU];cases e:((rel.getD k []).getD w 0#64).getLsbD i with
  |false=>rfl
  |true=>exact absurd ⟨i,(nq hv hk).2 e⟩ hno
 rw[aY (l:=rel.getD k []),bJ hwl,Option.getD_some]at hz;rw[<-hz];exact dL hwl;exact⟨w,(yb hv hk).2 rfl⟩
def Wm(A B:Nat)(op i g:Int):Prop:=Ac A B op i g/\op≠12
theorem wE(hv:mK (n:Int) val rel){g:Nat}(hg:g<2^rel.length){w u:Nat}(hw:w<n):(tQ hv).Gr g w u↔Rl (mZ n rel g) w u:=by
 rw[wC];constructor;rintro ⟨k,hk,hgk,hr⟩;have hkl:k<rel.length:=by
  refine bj (λhno=>?_);have h1:g<2^k:=dt hg (cS aI aH);have h2:g / 2^k=0:=Nat.div_eq_of_lt h1;have h3:gb g k=1:=hgk;unfold gb at h3;rw[h2]at h3;exact absurd h3 aI
 exact⟨hw,k,hkl,hgk,(nq hv hkl).1 hr⟩;rintro ⟨_,k,hk,hgk,hr⟩;have:=hv.qE;exact⟨k,aH,hgk,(nq hv hk).2 hr⟩
theorem GI(hv:mK (n:Int) val rel){g:Nat}(hg:g<2^rel.length){c:fi}{C:Nat->Bool}(hc:∀u,u<n->(c.getLsbD u=true↔C u=true)){w u:Nat}(hw:w<n):(tQ hv).H9 g C w u↔Ad (mZ n rel g) c w u:=by
 have hlt:∀a b,Rl (mZ n rel g) a b->b<n:=λa b=>vx (λr hr=>BA hv rfl r hr);constructor;intro h
 induction h with
 |one h1 h2=>exact .one ((wE hv hg hw).1 h1) ((hc _ (EE (M:=tQ hv) hw h1)).2 h2)
 |step h0 h1 h2 ih=>
  have h3:=KM.H9.lt (M:=tQ hv) hw h0;exact .step ih ((wE hv hg h3).1 h1) ((hc _ (EE (M:=tQ hv) h3 h1)).2 h2)
 intro h
 induction h with
 |one h1 h2=>exact .one ((wE hv hg hw).2 h1) ((hc _ (hlt _ _ h1)).1 h2)
 |step h0 h1 h2 ih=>exact .step ih ((wE hv hg (h0.lt hlt)).2 h1) ((hc _ (hlt _ _ h1)).1 h2)
open Classical in
theorem BO(hv:mK (n:Int) val rel){op i g:Int}{x y:fi}{A B:Nat->Bool}(ho:1<=op)(h:Wm rel.length val.length op i g)(hA:∀w,w<n->(x.getLsbD w=true↔A w=true))(hB:∀w,w<n->(y.getLsbD w=true↔B w=true)){w:Nat}(hw:w<n)(h3:op≠3):
  (pf n val rel op i g x y).getLsbD w=true↔(if pM op=true then tP (tQ hv) op i g A B w else tR op (A w) (B w))=true:=by
 have hn64:n<=64:=by have:=hv.IU;omega
 obtain⟨⟨h13,hfi,hff,hfg⟩,h12⟩:=h;have hAe:x.getLsbD w=A w:=by have:=hA w hw;revert this;cases x.getLsbD w<;>cases A w<;>simp
 have hBe:y.getLsbD w=B w:=by have:=hB w hw;revert this;cases y.getLsbD w<;>cases B w<;>simp
 have hall:=Et hn64 hw;have hw64:w<64:=aH;by_cases h8:op<=8
 ·have hlf:¬pM op=true:=by unfold pM;simp;omega
  rw[if_neg hlf];unfold pf;rw[if_neg h3,if_pos h8];unfold HP tR;rcases(by omega:op=1\/op=2\/op=4\/op=5\/op=6\/op=7\/op=8)with e|e|e|e|e|e|e<;>subst e<;>simp only[Int.reduceEq,reduceIte,dc,du,BitVec.getLsbD_xor,de,cU,hAe,hBe,hall,hw64,decide_true]
  all_goals cases A w<;>cases B w<;>decide
 have hlf:pM op=true:=by unfold pM;simp;omega
 rw[if_pos hlf];unfold pf tP;rw[if_neg h3,if_neg h8];rcases(by omega:op=9\/op=10\/op=11\/op=13)with e|e|e|e;subst e;have hi:=hfi rfl;rw[if_pos rfl,if_pos rfl,kB hn64,dE];exact⟨λh u hu=>(hA u ((tQ hv).lt _ _ _ hw hu)).1 (h.2 u ((nq hv hi).1 hu)),λh=>⟨hw,λu hu=>(hA u (hv.rl hu).2.2).2 (h u ((nq hv hi).2 hu))⟩⟩;subst e;have hi:=hfi rfl;rw[if_neg aI,if_pos rfl,if_neg aI,if_pos rfl,Cw hn64 hw,dE,dw,<-dH,kB hn64];constructor;intro h;refine bj (λhno=>h ⟨hw,λu hu=>?_⟩);have hun:=(hv.rl hu).2.2;rw[Cw hn64 hun];cases e:x.getLsbD u with
 |false=>rfl
 |true=>exact absurd ⟨u,(nq hv hi).2 hu,(hA u hun).1 e⟩ hno
 rintro ⟨u,hu,hau⟩ ⟨_,hall2⟩;have hu':=(nq hv hi).1 hu;have hun:=(hv.rl hu').2.2;have:=hall2 u hu';rw[Cw hn64 hun,(hA u hun).2 hau]at this;exact absurd this aI;subst e;rw[if_neg aI,if_neg aI,if_pos rfl,if_neg aI,if_neg aI,if_pos rfl,kB hn64,dE];exact⟨λh u hu=>(hA u (EE (M:=tQ hv) hw hu)).1 (h.2 u ((wE hv hfg hw).1 hu)),λh=>⟨hw,λu hu=>(hA u (vx (λr hr=>BA hv rfl r hr) hu)).2 (h u ((wE hv hfg hw).2 hu))⟩⟩;subst e;have hlt:∀a b,Rl (mZ n rel g.toNat) a b->b<n:=λa b=>vx (λr hr=>BA hv rfl r hr);rw[if_neg aI,if_neg aI,if_neg aI,if_neg aI,if_neg aI,if_neg aI,if_neg aI,if_pos rfl,py hn64 hlt,dE];exact⟨λh u hu=>(hB u (KM.H9.lt (M:=tQ hv) hw hu)).1 (h.2 u ((GI hv hfg hA hw).1 hu)),λh=>⟨hw,λu hu=>(hB u (hu.lt hlt)).2 (h u ((GI hv hfg hA hw).2 hu))⟩⟩
open Classical in
theorem xP(hv:mK (n:Int) val rel):∀{t:Tr},t.ok->jE (Wm rel.length val.length) t->∀{w:Nat},w<n->((rk n val rel t).getLsbD w=true↔sat (tQ hv) t w=true)
 |.leaf op i e g,hok,h,w,hw=>by
  have hX:=hok.2.1;rw[ri hok.1,bV]at hX;by_cases h3:op=3;subst h3;show(pf n val rel 3 i g _ _).getLsbD w=true↔(if pM 3=true then(if (3:Int)=3 then _ else _)else _)=true;rw[pf,if_pos rfl,if_pos aI,if_pos rfl,dE];exact Iff.rfl;have hz:∀u,u<n->((0#64:fi).getLsbD u=true↔(λ_:Nat=>false) u=true):=λu _=>by simp
  have:=BO hv hok.1.1 h hz hz hw h3;rw[show rk n val rel (.leaf op i e g)=pf n val rel op i g 0#64 0#64 from rfl,this];unfold sat;have hlf:¬pM op=true:=by unfold pM;simp;omega
  rw[if_neg hlf,if_neg hlf]
 |.un op i e g a,hok,h,w,hw=>by
  have hX:=hok.2.1;rw[ri hok.1,dE]at hX;have hz:∀u,u<n->((0#64:fi).getLsbD u=true↔(λ_:Nat=>false) u=true):=λu _=>by simp
  exact BO hv hok.1.1 h.1 (λu hu=>xP hv hok.2.2.2.2 h.2 hu) hz hw aH
 |.bin op i e g a b,hok,h,w,hw=>by
  have hX:=jL hok.2.1;rw[ri hok.1,dE]at hX;exact BO hv hok.1.1 h.1 (λu hu=>xP hv hok.2.2.2.1 h.2.1 hu) (λu hu=>xP hv hok.2.2.2.2 h.2.2 hu) hw aH
theorem O5{op:Int}(ho:1<=op/\op<=21):mf (EM op).toNat 11=0↔op<=11\/op=13:=
 y4 (p:=λop=>mf (EM op).toNat 11=0↔op<=11\/op=13) aI ho
theorem lV{f:List NV}:j7 f=0↔gp f=0/\jE (λop _ _=>op<=11\/op=13) (fF f):=by
 unfold j7;by_cases h1:gp f=0;rw[if_neg (by simp[h1]),jm h1,<-tI (fA.1 h1).top O5];constructor;intro h;refine⟨h1,bj (λh2=>?_)⟩;rw[if_pos h2]at h;exact absurd h aI;intro h;rw[if_neg (by simp[h.2])];rw[if_pos h1];exact⟨λh=>absurd h h1,λh=>absurd h.1 h1⟩
theorem A9{m:Int}{f:List NV}(hv:mK m val rel)(h1:j7 f=0)(h2:sN f rel.length val.length=true):jN m val rel f=0:=by
 obtain⟨h3,h4⟩:=lV.1 h1;exact rF.2 ⟨hv,h3,qY (h4.mono (λop _ _ h=>aH)) (sK.1 h2).2⟩
theorem GF(hv:mK (n:Int) val rel){f:List NV}(h1:j7 f=0)(h2:jN (n:Int) val rel f=0)(h:AE (tQ hv) (fF f)):rk n val rel (fF f)=jZ n:=by
 have hn64:n<=64:=by have:=hv.IU;omega
 obtain⟨h3,h4⟩:=lV.1 h1;obtain⟨_,_,h5⟩:=rF.1 h2;have hok:=(fA.1 h3).top;have hL:jE (Wm rel.length val.length) (fF f):=(qY h5 h4).mono (λop i g h=>⟨h.1,by have:=h.2;omega⟩);refine zV (λi hi=>BG hv _ _ hi) (λi hi=>(pF hn64).1 hi) (λi hi=>⟨λ_=>(pF hn64).2 hi,λ_=>(xP hv hok hL hi).2 (h i hi)⟩)
end
theorem lZ {ls:List LV}:lG l ls=0↔(0<=l/\l<=6)/\0<ls.length/\ls.length<=400/\∀(k:Nat) (hk:k<ls.length),jM l ls k ls[k]=0:=by
 have hs:∀{k:Nat},ju l ls k=0->∀hk:k<ls.length,ju l ls (k+1)=jM l ls k ls[k]:=λ{k} h hk=>by
  show(if ju l ls k≠0 then ju l ls k else match ls[k]? with|some x=>jM l ls k x|none=>0)=_;rw[if_neg (by simp[h]),bJ hk]
 have hb:∀{k:Nat},ju l ls k≠0->ju l ls (k+1)=ju l ls k:=λ{k} h=>by
  show(if ju l ls k≠0 then ju l ls k else _)=_;rw[if_pos h]
 have key:∀k,k<=ls.length->(ju l ls k=0↔∀(j:Nat) (hj:j<ls.length),j<k->jM l ls j ls[j]=0):=by
  intro k
  induction k with
  |zero=>exact λ_=>⟨λ_ j _ h=>absurd h (ew _),λ_=>rfl⟩
  |succ k ih=>
   intro hk;have ih:=ih aH;constructor;intro h;have h0:ju l ls k=0:=bj (λhne=>hne (by rw[<-hb hne];exact h));intro j hj hjk;by_cases e:j=k;subst e;rw[<-hs h0 hj];exact h;exact ih.1 h0 j hj aH;intro h;have h0:=ih.2 (λj hj hjk=>h j hj aH);rw[hs h0 aH];exact h k aH aH
 unfold lG;by_cases h1:¬(0<=l/\l<=6);rw[if_pos h1];exact⟨λh=>absurd h aI,λh=>absurd h.1 h1⟩;rw[if_neg h1];by_cases h2:ls.length=0;rw[if_pos h2];exact⟨λh=>absurd h aI,λh=>absurd h.2.1 aH⟩;rw[if_neg h2];by_cases h3:400<ls.length;rw[if_pos h3];exact⟨λh=>absurd h aI,λh=>absurd h.2.2.1 aH⟩;rw[if_neg h3,key _ (eR _)];exact⟨λh=>⟨dx.1 h1,aH,aH,λk hk=>h k hk hk⟩,λh j hj _=>h.2.2.2 j hj⟩
theorem sound {ls:List LV}{M:KM}(hF:P2 M l)(h:lG l ls=0):∀(k:Nat) (hk:k<ls.length),AE M (fF ls[k].f.f):=by
 obtain⟨_,_,_,h4⟩:=lZ.1 h;intro k
 induction k using Nat.strongRecOn with
 |_ k ih=>exact λhk=>KZ hF hk rfl (h4 k hk) (λj hj hjk=>ih j hjk hj)
theorem wA {ls:List LV}(h:lG l ls=0)(k:Nat)(hk:k<ls.length):j7 ls[k].f.f=0:=by
 have h4:=(lZ.1 h).2.2.2 k hk;unfold jM at h4;by_cases h1:j7 ls[k].f.f=0;exact h1;rw[if_pos h1]at h4;exact h4
end
section
variable{k:Nat}{p:Nat->Bool}
structure LD where
  f:List NV
  r:Int
  a:Int
  b:Int
  g:Int
def LV.d(x:LV):LD:=⟨x.f.f,x.r,x.a,x.b,x.g⟩
def LD.v(x:LD):LV:=⟨⟨none,0,x.f⟩,x.r,x.a,x.b,x.g⟩
section
variable{l:Int}{ls ls':List LV}
theorem Pg(h:ls.map LV.d=ls'.map LV.d):ls.length=ls'.length:=by have:=eV List.length h;simpa using this
theorem Sf(h:ls.map LV.d=ls'.map LV.d) (hk:k<ls.length)(hk':k<ls'.length):ls[k].d=ls'[k].d:=by
 have h1:(ls.map LV.d)[k]'(by simpa using hk)=(ls'.map LV.d)[k]'(by simpa using hk'):=by simp only[h]
 simpa using h1
theorem OH(h:ls.map LV.d=ls'.map LV.d)(k:Int):B2 ls k=B2 ls' k:=by
 have e:ls.map (λx=>fF x.f.f)=ls'.map (λx=>fF x.f.f):=by
  have h1:∀l:List LV,l.map (λx=>fF x.f.f)=(l.map LV.d).map (λx=>fF x.f):=λl=>by rw[eK];rfl
  rw[h1,h1,h]
 unfold B2;rw[e]
theorem M6(h:ls.map LV.d=ls'.map LV.d){x y:LV}(e:x.d=y.d):pK ls x↔pK ls' y:=by
 obtain⟨⟨xa,xc,xf⟩,xr,x1,x2,x3⟩:=x;obtain⟨⟨ya,yc,yf⟩,yr,y1,y2,y3⟩:=y;simp only[LV.d,LD.mk.injEq]at e;obtain⟨rfl,rfl,rfl,rfl,rfl⟩:=e;unfold pK;simp only[OH h]
theorem I0(h:ls.map LV.d=ls'.map LV.d){i:Nat}{x y:LV}(e:x.d=y.d):jM l ls i x=jM l ls' i y:=by
 have h2:=M6 h e;have en:oG i x=oG i y:=by
  obtain⟨⟨xa,xc,xf⟩,xr,x1,x2,x3⟩:=x;obtain⟨⟨ya,yc,yf⟩,yr,y1,y2,y3⟩:=y;simp only[LV.d,LD.mk.injEq]at e;obtain⟨rfl,rfl,rfl,rfl,rfl⟩:=e;rfl
 have ef:x.f.f=y.f.f:=eV LD.f e;have er:x.r=y.r:=eV LD.r e;unfold jM;rw[en,ef,er];by_cases k:pK ls x;rw[if_pos k,if_pos (h2.1 k)];rw[if_neg k,if_neg (λk'=>k (h2.2 k'))]
theorem Ga(h:ls.map LV.d=ls'.map LV.d)(h0:lG l ls=0):lG l ls'=0:=by
 obtain⟨h1,h2,h3,h4⟩:=lZ.1 h0;have hl:=Pg h;exact lZ.2 ⟨h1,aH,aH,λk hk=>by
  have:=h4 k aH;rw[<-I0 h (Sf h aH hk)];exact this⟩
end
theorem rC{l:Int}{ls:List LV}{i:Nat}{x:LV}:jM l ls i x=0↔j7 x.f.f=0/\(1<=x.r/\x.r<=12)/\oG i x=0/\gJ l x.r=true/\pK ls x:=by
 constructor
 ·intro h
  unfold jM at h;by_cases h1:j7 x.f.f=0
  rotate_left
  rw[if_pos h1]at h;exact absurd h h1;rw[if_neg (by simp[h1])]at h;by_cases h2:x.r<1\/12<x.r;rw[if_pos h2]at h;exact absurd h aI;rw[if_neg h2]at h;by_cases h3:oG i x=0
  rotate_left
  rw[if_pos h3]at h;exact absurd h h3;rw[if_neg (by simp[h3])]at h;by_cases h4:gJ l x.r=false;rw[if_pos h4]at h;exact absurd h aI;rw[if_neg h4]at h;by_cases h5:pK ls x
  rotate_left
  rw[if_neg h5]at h;exact absurd h aI;exact⟨h1,aH,h3,by simpa using h4,h5⟩
 rintro ⟨h1,h2,h3,h4,h5⟩;exact K1 h1 h2 h3 h4 h5
theorem As{i:Int}{x:LV}(h1:1<=x.r)(h12:x.r<=12):oG i x=0↔¬y6 x/\¬y5 i x/\0<=x.g/\x.g<4:=by
 constructor;intro h;have k1:¬y6 x:=λk=>by rw[KB h1 h12 (.inl k)]at h;exact absurd h aI
 have k2:¬y5 i x:=λk=>by rw[KB h1 h12 (.inr k)]at h;exact absurd h aI
 rw[KD h1 h12 k1 k2]at h;refine⟨k1,k2,?_⟩;by_cases h3:x.g<0\/x.g>=4;rw[if_pos h3]at h;exact absurd h aI;omega;rintro ⟨k1,k2,k3⟩;rw[KD h1 h12 k1 k2,if_neg aH]
inductive Tc (ls:List LV):Nat->Prop
  |last {k:Nat}:k+1=ls.length->Tc ls k
  |a {k:Nat} (hk:k<ls.length):Tc ls k->10<=ls[k].r->Tc ls ls[k].a.toNat
  |b {k:Nat} (hk:k<ls.length):Tc ls k->ls[k].r=10->Tc ls ls[k].b.toNat
def gq(p:Nat->Bool)(k:Nat):Nat:=((List.range k).filter p).length
theorem lB  :gq p (k+1)=gq p k+(if p k=true then 1 else 0):=by
 unfold gq;rw[ep,List.filter_append,di];cases h:p k<;>simp[h]
theorem yn{p:Nat->Bool}:∀{k:Nat},gq p k<=k
 |0=>eR _
 |k+1=>by have:=yn (p:=p) (k:=k);rw[lB];split<;>omega
theorem Jj {j:Nat}(h:j<=k):gq p j<=gq p k:=by
 induction h with
 |refl=>exact eR _
 |step _ ih=>rw[lB];omega
theorem HF {j:Nat}(h:j<k)(hp:p j=true):gq p j<gq p k:=by
 have:=Jj (p:=p) (show j+1<=k from h);rw[lB,if_pos hp]at this;omega
theorem Mj {n q:Nat}(h:q<gq p n):∃j,j<n/\p j=true/\gq p j=q:=by
 induction n with
 |zero=>exact absurd h (ew _)
 |succ n ih=>
  rw[lB]at h;by_cases h1:q<gq p n;obtain⟨j,h2,h3⟩:=ih h1;exact⟨j,aH,h3⟩;by_cases h2:p n=true;rw[if_pos h2]at h;exact⟨n,aH,h2,aH⟩;rw[if_neg h2]at h;omega
section
variable{l:Int}{ls:List LV}
end
end
section
variable{ei:Bool}{from_:aq}
theorem ue{t:Tr}:Fit t↔bT t≠[]:=by unfold Fit;exact Qv.symm
open Classical in
noncomputable def jT(t:Tr):Tr:=if Fit (fU t)then(fC t).2 else fU t
theorem wm{t:Tr}(h:t.ok):(jT t).ok:=by
 unfold jT;split;exact(nj h).2;exact jF h
structure TL where
  t:Tr
  r:Int
  a:Nat
  b:Nat
  g:Int
def TL.v(x:TL):LV:=⟨⟨none,0,bT x.t⟩,x.r,x.a,x.b,x.g⟩
structure Sg where
  ls:List TL
  bad:Bool
def l8(σ:Sg)(n:Nat):Tr:=(σ.ls.map TL.t).getD n (.leaf 0 0 0 0)
def iK(ts:List Tr)(g:Tr):Tr:=ts.foldr gv g
theorem sS:∀{ts:List Tr} {g:Tr},(∀u∈ts,u.ok)->g.ok->(iK ts g).ok
 |[],_,_,h=>h
 |t::ts,_,h,hg=>jG (h t aF) (sS (ts:=ts) (λu hu=>h u (cM _ hu)) hg)
section
variable(T:Tr->Prop)
open Classical in
noncomputable def iy(t:Tr)(r:Int)(a b:Nat)(g:Int)(σ:Sg):Nat×Sg:=
 if σ.bad=true\/¬Fit t\/400<=σ.ls.length\/(r=1/\¬T t)then(0,⟨σ.ls,true⟩)else(σ.ls.length,⟨σ.ls++[⟨t,r,a,b,g⟩],false⟩)
noncomputable def qP(g:Tr):List (Nat×Tr)->Nat->Sg->Nat×Sg
 |[],n,σ=>(n,σ)
 |p::ps,n,σ=>qP g ps (iy T (iK (ps.map (·.2)) g) 10 p.1 n 0 σ).1 (iy T (iK (ps.map (·.2)) g) 10 p.1 n 0 σ).2
noncomputable def gw(g:Tr)(from_:aq)(σ:Sg):Nat×Sg:=
 if σ.bad=true then(0,σ)else
  qP T g (from_.map (λn=>(n,l8 σ n))) (iy T (iK (from_.map (l8 σ)) g) 1 0 0 0 σ).1 (iy T (iK (from_.map (l8 σ)) g) 1 0 0 0 σ).2
noncomputable def kW(i:Int)(p q:Tr)(σ:Sg):Nat×Sg:=iy T (gv (fN i (gv p q)) (gv (fN i p) (fN i q))) 2 0 0 0 σ
noncomputable def nM(i:Int)(p q:Tr)(line:Nat)(σ:Sg):Nat×Sg:=
 let n:=iy T (fN i (gv p q)) 11 line 0 i σ
 let k:=kW T i p q n.2
 iy T (gv (fN i p) (fN i q)) 10 n.1 k.1 0 k.2
noncomputable def kF(i:Int)(v:Tr)(σ:Sg):Nat×Sg:=iy T (xH (pU i v) (fU (fN i (fU v)))) 7 0 0 0 σ
noncomputable def uh(ei:Bool)(t:Tr):Tr:=if ei=true then .bin 6 0 0 0 t (jT t)else fU (uj t (jT t))
noncomputable def uT(op:Int)(a:Tr):Tr:=if op=9 then a else jT a
noncomputable def vT(op:Int)(a:Tr):Tr:=if op=9 then jT a else a
noncomputable def xD(ei:Bool)(op:Int)(a:Tr):Tr:=if ei=true then fU (vT op a)else uT op a
noncomputable def xC(ei:Bool)(op:Int)(a:Tr):Tr:=if ei=true then uT op a else fU (vT op a)
noncomputable def xF(ei:Bool)(op i:Int)(a t:Tr)(x:Nat)(σ:Sg):Nat×Sg:=
 let l:=gw T (gv (xD ei op a) (xC ei op a)) [x] σ
 let d:=nM T i (xD ei op a) (xC ei op a) l.1 l.2
 let s:=kF T i (vT op a) d.2
 gw T (uh ei t) [d.1,s.1] s.2
noncomputable def fX(ei:Bool):Tr->Sg->Nat×Sg
 |.leaf op i e g,σ=>gw T (uh ei (.leaf op i e g)) [] σ
 |.un op i e g a,σ=>if op=9\/op=10 then xF T ei op i a (.un op i e g a) (fX ei a σ).1 (fX ei a σ).2 else gw T (uh ei (.un op i e g a)) [] σ
 |.bin op i e g a b,σ=>gw T (uh ei (.bin op i e g a b)) [(fX ei a σ).1,(fX ei b (fX ei a σ).2).1] (fX ei b (fX ei a σ).2).2
noncomputable def qV(i:Int)(f:Tr)(σ:Sg):Nat×Sg:=
 match f with
 |.un 10 _ _ _ z=>
  let nz:=fU (fN i (fU z))
  let s:=kF T i z σ
  let f5:=iy T (gv nz (fN i nz)) 5 0 0 0 s.2
  let bk:=gw T (gv nz f) [s.1] f5.2
  let kn:=nM T i nz f bk.1 bk.2
  gw T (gv f (fN i f)) [s.1,f5.1,kn.1] kn.2
 |_=>iy T (gv f (fN i f)) 4 0 0 0 σ
end
structure Sg.Le (σ σ':Sg):Prop where
  pre:σ.ls<+:σ'.ls
  ok:σ'.bad=false->σ.bad=false
theorem Sg.Le.refl(σ:Sg):σ.Le σ:=⟨dQ _,id⟩
theorem Sg.Le.trans{σ σ' σ'':Sg}(h:σ.Le σ')(g:σ'.Le σ''):σ.Le σ'':=⟨h.pre.trans g.pre,λe=>h.ok (g.ok e)⟩
def jK(σ:Sg)(n:Nat)(t:Tr):Prop:=σ.bad=false->n<σ.ls.length/\l8 σ n=t
theorem Ny{σ σ':Sg}(h:σ.Le σ'){n:Nat}(hn:n<σ.ls.length):l8 σ' n=l8 σ n:=by
 obtain⟨u,hu⟩:=h.pre;unfold l8;rw[<-hu,ec];simp[bu (show n<(σ.ls.map TL.t).length by simpa using hn)]
theorem jK.le{σ σ':Sg}{n:Nat}{t:Tr}(h:jK σ n t)(g:σ.Le σ'):jK σ' n t:=λe=>by
 obtain⟨h1,h2⟩:=h (g.ok e);exact⟨dt h1 g.pre.length_le,by rw[Ny g h1];exact h2⟩
section
variable{T:Tr->Prop}{t g:Tr}{r i:Int}{a b n:Nat}{σ:Sg}
theorem pG(h:σ.bad=true){gg:Int}:iy T t r a b gg σ=(0,σ):=by
 rw[iy,if_pos (.inl h),<-h]
theorem jB{gg:Int}:σ.Le (iy T t r a b gg σ).2:=by
 unfold iy;split;exact⟨dQ _,λe=>by cases e⟩;rename_i h;exact⟨dq _ _,λ_=>by
  cases hb:σ.bad with
  |false=>rfl
  |true=>exact absurd (.inl hb) h⟩
theorem iw{gg:Int}:jK (iy T t r a b gg σ).2 (iy T t r a b gg σ).1 t:=by
 unfold iy;split;intro e;cases e;intro _;exact⟨by simp,by simp[l8]⟩
theorem Oz{ps:List (Nat×Tr)}:∀{n:Nat} {σ:Sg},σ.Le (qP T g ps n σ).2:=by
 induction ps with
 |nil=>intro n σ;exact Sg.Le.refl _
 |cons p ps ih=>intro n σ;exact jB.trans ih
theorem jz :σ.Le (gw T g from_ σ).2:=by
 unfold gw;split;exact Sg.Le.refl _;exact jB.trans Oz
theorem KL{ps:List (Nat×Tr)}:∀{n:Nat} {σ:Sg},jK σ n (iK (ps.map (·.2)) g)->jK (qP T g ps n σ).2 (qP T g ps n σ).1 g:=by
 induction ps with
 |nil=>intro n σ h;exact h
 |cons p ps ih=>intro n σ _;exact ih iw
theorem kO :jK (gw T g from_ σ).2 (gw T g from_ σ).1 g:=by
 unfold gw;split;rename_i h;intro e;rw[h]at e;cases e;refine KL ?_;rw[eK];exact iw
theorem nD (h:σ.bad=true):gw T g from_ σ=(0,σ):=by rw[gw,if_pos h]
theorem DJ{p q:Tr}:σ.Le (kW T i p q σ).2:=jB
theorem vI{p q:Tr}{l:Nat}:σ.Le (nM T i p q l σ).2:=jB.trans (jB.trans jB)
theorem sO{p q:Tr}{l:Nat}:jK (nM T i p q l σ).2 (nM T i p q l σ).1 (gv (fN i p) (fN i q)):=iw
theorem L8{p q:Tr}{l:Nat}(h:σ.bad=true):nM T i p q l σ=(0,σ):=by simp only[nM,kW];rw[pG h];dsimp only;rw[pG h];dsimp only;rw[pG h]
theorem pS{v:Tr}:σ.Le (kF T i v σ).2:=jB
theorem OB {op:Int}{a t:Tr}{x:Nat}:σ.Le (xF T ei op i a t x σ).2:=jz.trans (vI.trans (pS.trans jz))
theorem KO {op:Int}{a t:Tr}{x:Nat}(h:σ.bad=true):xF T ei op i a t x σ=(0,σ):=by
 simp only[xF];rw[nD h];dsimp only;rw[L8 h];dsimp only;rw[kF,pG h];dsimp only;rw[nD h]
theorem KN {op:Int}{a t:Tr}{x:Nat}:jK (xF T ei op i a t x σ).2 (xF T ei op i a t x σ).1 (uh ei t):=kO
theorem sG{ei:Bool}:∀{t:Tr} {σ:Sg},σ.bad=true->fX T ei t σ=(0,σ)
 |.leaf op i e g,σ,h=>by rw[fX,nD h]
 |.un op i e g a,σ,h=>by
  rw[fX];split;rw[sG (t:=a) h,KO h];rw[nD h]
 |.bin op i e g a b,σ,h=>by rw[fX,sG (t:=a) h];dsimp only;rw[sG (t:=b) h];dsimp only;rw[nD h]
theorem ot{ei:Bool}:∀{t:Tr} {σ:Sg},σ.Le (fX T ei t σ).2
 |.leaf op i e g,σ=>by rw[fX];exact jz
 |.un op i e g a,σ=>by
  rw[fX];split;exact(ot (t:=a)).trans OB;exact jz
 |.bin op i e g a b,σ=>by rw[fX];exact(ot (t:=a)).trans ((ot (t:=b)).trans jz)
theorem kL :∀{t:Tr} {σ:Sg},jK (fX T ei t σ).2 (fX T ei t σ).1 (uh ei t)
 |.leaf op i e g,σ=>by rw[fX];exact kO
 |.un op i e g a,σ=>by
  rw[fX];split;exact KN;exact kO
 |.bin op i e g a b,σ=>by rw[fX];exact kO
theorem Cp{f:Tr}:σ.Le (qV T i f σ).2:=by
 unfold qV;split;exact pS.trans (jB.trans (jz.trans (vI.trans jz)));exact jB
theorem zO{f:Tr}:jK (qV T i f σ).2 (qV T i f σ).1 (gv f (fN i f)):=by
 unfold qV;split;exact kO;exact iw
end
end
section
variable{k:Nat}{a b t:Tr}{r:Tr->Bool}
def fg(t:Tr):Prop:=∃l:List Tr,l.Nodup/\(∀u,u∈l↔u∈rS t)/\l.length<=10
def lA(t:Tr):Prop:=t.ok/\jE (λop _ _=>op<=11\/op=13) t
theorem lA.im (h:lA a)(g:lA b):lA (gv a b):=⟨jG h.1 g.1,.inl aI,h.2,g.2⟩
theorem lA.ad (h:lA a)(g:lA b):lA (uj a b):=⟨sX h.1 g.1,.inl aI,h.2,g.2⟩
theorem lA.or (h:lA a)(g:lA b):lA (.bin 6 0 0 0 a b):=⟨rQ h.1 g.1,.inl aI,h.2,g.2⟩
theorem lA.if (h:lA a)(g:lA b):lA (xH a b):=⟨DO h.1 g.1,.inl aI,h.2,g.2⟩
theorem lA.nt (h:lA a):lA (fU a):=⟨jF h.1,.inl aI,h.2⟩
theorem lA.kw {i:Int}(hi:0<=i/\i<4)(h:lA a):lA (fN i a):=⟨gI hi h.1,.inl aI,h.2⟩
theorem lA.po {i:Int}(hi:0<=i/\i<4)(h:lA a):lA (pU i a):=⟨wB (.inr rfl) hi h.1,.inl aI,h.2⟩
theorem lA.ch:∀{ts:List Tr} {g:Tr},(∀u∈ts,lA u)->lA g->lA (iK ts g)
 |[],_,_,h=>h
 |t::ts,_,h,hg=>(h t aF).im (lA.ch (ts:=ts) (λu hu=>h u (cM _ hu)) hg)
def um:Tr->Prop
 |.leaf op _ _ _=>op<=3
 |.un op _ _ _ a=>(op=4/\∃i e g,a=.leaf 3 i e g)\/((op=9\/op=10)/\um a)
 |.bin op _ _ _ a b=>(op=5\/op=6)/\um a/\um b
theorem um.Ax:∀{t:Tr},um t->jE (λop _ _=>op<=11\/op=13) t
 |.leaf op _ _ _,h=>.inl (by have:op<=3:=h;omega)
 |.un op _ _ _ a,h=>by
  rcases h with⟨h1,i,e,g,rfl⟩|⟨h1,h2⟩;exact⟨.inl aH,.inl aI⟩;exact⟨.inl aH,h2.Ax⟩
 |.bin op _ _ _ a b,h=>⟨.inl (by have:=h.1;omega),h.2.1.Ax,h.2.2.Ax⟩
theorem GV:∀{t:Tr},um t->t.ok->lA (fC t).2
 |.leaf op i e g,h,hok=>by
  have ho:op<=3:=h;rw[fC];dsimp only;split;exact⟨⟨aI,rfl,aI⟩,.inl aI⟩;split;exact⟨⟨aI,rfl,aI⟩,.inl aI⟩;exact lA.nt ⟨hok,.inl aH⟩
 |.un op i e g a,h,hok=>by
  rcases h with⟨rfl,j,e',g',rfl⟩|⟨h1,h2⟩;rw[fC,if_pos rfl];exact⟨(nj hok.2.2.2.2).1,.inl aI⟩;have hf:=GV h2 hok.2.2.2.2;have hi:=(tY hok h1).1;rcases h1 with rfl|rfl;rw[fC,if_neg aI,if_pos rfl];exact hf.po hi;rw[fC,if_neg aI,if_neg aI,if_pos rfl];exact hf.kw hi
 |.bin op i e g a b,h,hok=>by
  have ha:=GV h.2.1 hok.2.2.2.1;have hb:=GV h.2.2 hok.2.2.2.2;rcases h.1 with rfl|rfl;rw[fC,if_pos rfl];exact ha.or hb;rw[fC,if_neg aI,if_pos rfl];exact ha.ad hb
theorem um.fr{t:Tr}(h:um t)(hok:t.ok):lA t:=⟨hok,h.Ax⟩
theorem um.op (h:um t)(hok:t.ok):lA (jT t):=by
 unfold jT;split;exact GV h hok;exact(h.fr hok).nt
theorem xJ  :iC r (gv a b)=(!iC r a||iC r b):=rfl
theorem VU  :iC r (uj a b)=(iC r a && iC r b):=rfl
theorem UM  {i e g:Int}:iC r (.bin 6 i e g a b)=(iC r a||iC r b):=rfl
theorem Pc  :iC r (xH a b)=(iC r a==iC r b):=rfl
theorem Az  :iC r (fU a)=!iC r a:=rfl
theorem FQ{r:Tr->Bool}:∀{ts:List Tr} {g:Tr},iC r (iK ts g)=true↔((∀u∈ts,iC r u=true)->iC r g=true)
 |[],g=>by simp[iK]
 |t::ts,g=>by
  show iC r (gv t (iK ts g))=true↔_;rw[xJ,dV,FQ];cases ht:iC r t with
  |false=>simp[ht]
  |true=>simp[ht]
def Ww(l:Int)(σ:Sg)(t:Tr)(r:Int)(a b:Nat)(g:Int):Prop:=
 lA t/\gJ l r=true/\((r=1/\a=0/\b=0/\g=0/\∀v,iC v t=true)\/(2<=r/\r<10/\a=0/\b=0/\g=0/\uo r t)\/(r=10/\g=0/\∃A,jK σ a A/\jK σ b (gv A t))\/(r=11/\b=0/\(0<=g/\g<4)/\∃A,jK σ a A/\t=fN g A))
structure Good (l:Int) (σ:Sg):Prop where
  len:σ.ls.length<=400
  tok:∀(k:Nat) (hk:k<σ.ls.length),σ.ls[k].t.ok
  ok:∀(k:Nat) (hk:k<(σ.ls.map TL.v).length),jM l (σ.ls.map TL.v) k (σ.ls.map TL.v)[k]=0
structure CK (l:Int) (P:(Tr->Prop)->Sg->Nat×Sg) (σ:Sg):Prop where
  same:P fg σ=P te σ
  jY:Good l (P fg σ).2
theorem IZ{l:Int}{ls:List LV}{i:Nat}{x:LV}(us:List LV)(hi:i<=ls.length)(h:jM l ls i x=0):jM l (ls++us) i x=0:=by
 rw[rC]at h⊢;obtain⟨h1,h2,h3,h4,h5⟩:=h;refine⟨h1,h2,h3,h4,?_⟩;have hp:=pR h2.1 h2.2;obtain⟨n1,n2,_⟩:=wu h3;have hget:∀k:Int,0<=k->k<i->B2 (ls++us) k=B2 ls k:=λk h0 hk=>by
  unfold B2;rw[ec];simp only[aY];rw[bu (by rw[dY];omega)]
 unfold pK at h5⊢;split at h5;rename_i e;rw[if_pos e];have ha:=mQ n1 aH;have hb:=mQ n2 aH;rw[hget _ hb.1 hb.2,hget _ ha.1 ha.2];exact h5;rename_i e;rw[if_neg e];split at h5;rename_i e1;rw[if_pos e1,hget _ (mQ n1 aH).1 (mQ n1 aH).2];exact h5;rename_i e1;rw[if_neg e1];split at h5;rename_i e2;rw[if_pos e2,hget _ (mQ n1 aH).1 (mQ n1 aH).2];exact h5;rename_i e2;rw[if_neg e2];exact h5
theorem xO (h:t.ok)(hf:Fit t):fF (bT t)=t:=(nH h (ue.1 hf)).top
theorem LG (h:lA t)(hf:Fit t):j7 (bT t)=0:=lV.2 ⟨(nH h.1 (ue.1 hf)).qA,by rw[xO h.1 hf];exact h.2⟩
section
variable{l:Int}{σ:Sg}
theorem Good.line(h:Good l σ) (hk:k<σ.ls.length):lA σ.ls[k].t/\Fit σ.ls[k].t:=by
 have h1:=h.ok k (by simpa using hk);have h2:j7 (bT σ.ls[k].t)=0:=by
  have:=(rC.1 h1).1;simpa[TL.v]using this
 have hc:=lV.1 h2;have hne:bT σ.ls[k].t≠[]:=λe=>by rw[e]at h2;exact absurd h2 aI
 have hfit:=ue.2 hne;refine⟨?_,hfit⟩;have htop:fF (bT σ.ls[k].t)=σ.ls[k].t:=xO (h.tok k hk) hfit;exact⟨h.tok k hk,by rw[<-htop];exact hc.2⟩
theorem Gs (hk:k<σ.ls.length):l8 σ k=σ.ls[k].t:=by simp[l8,hk]
theorem Good.has(h:Good l σ)(hb:σ.bad=false){n:Nat} (ht:jK σ n t):lA t/\Fit t:=by
 obtain⟨h1,h2⟩:=ht hb;rw[<-h2,Gs h1];exact h.line h1
theorem Fs(h:Good l σ) (hk:k<σ.ls.length){us:List LV}:B2 (σ.ls.map TL.v++us) (k:Int)=l8 σ k:=by
 rw[oR (k:=k) aN rfl,bK (by simpa using hk),Gs hk];simp only[List.getElem_map,TL.v];exact xO (h.line hk).1.1 (h.line hk).2
theorem O6{ls:List LV}{x:LV} (ht:fF x.f.f=t)(h:(x.r=10/\B2 ls x.b=gv (B2 ls x.a) t)\/(x.r=11/\t=fN x.g (B2 ls x.a))\/(x.r<10/\uo x.r t)):pK ls x:=by
 subst ht;unfold pK;rcases h with⟨h1,h2⟩|⟨h1,h2⟩|⟨h1,h2⟩;rw[if_pos h1];exact h2;rw[if_neg aH,if_pos h1];exact h2;rw[if_neg aH,if_neg aH,if_neg aH];exact h2
theorem nE {r g:Int}{a b:Nat}(h:Good l σ)(ha:σ.bad=false->Fit t->Ww l σ t r a b g):CK l (λT=>iy T t r a b g) σ:=by
 have hsame:iy fg t r a b g σ=iy te t r a b g σ:=by
  cases hb:σ.bad with
  |true=>rw[pG hb,pG hb]
  |false=>
   by_cases hf:Fit t
   ·obtain⟨_,_,hc⟩:=ha hb hf
    by_cases hr:r=1
    ·have:fg t=te t:=by
      rcases hc with⟨h1,_,_,_,h2⟩|⟨h1,_⟩|⟨h1,_⟩|⟨h1,_⟩;exact propext ⟨λh=>⟨h,h2⟩,λh=>h.1⟩
      all_goals omega
     unfold iy;rw[this]
    have e:∀T:Tr->Prop,(σ.bad=true\/¬Fit t\/400<=σ.ls.length\/(r=1/\¬T t))↔(400<=σ.ls.length):=λT=>
     ⟨λh=>by
      rcases h with h|h|h|h;rw[hb]at h;cases h;exact absurd hf h;exact h;exact absurd h.1 hr,λh=>.inr (.inr (.inl h))⟩;unfold iy;by_cases h4:400<=σ.ls.length;rw[if_pos ((e _).2 h4),if_pos ((e _).2 h4)];rw[if_neg (λh=>h4 ((e _).1 h)),if_neg (λh=>h4 ((e _).1 h))]
   unfold iy;rw[if_pos (.inr (.inl hf)),if_pos (.inr (.inl hf))]
 refine⟨hsame,?_⟩;unfold iy;split;exact⟨h.len,h.tok,h.ok⟩;rename_i hn;have hb:σ.bad=false:=by
  cases e:σ.bad with
  |false=>rfl
  |true=>exact absurd (.inl e) hn
 have hf:Fit t:=bj λe=>hn (.inr (.inl e));have hlen:σ.ls.length<400:=by
  have:¬400<=σ.ls.length:=λe=>hn (.inr (.inr (.inl e)));omega
 have hT:r=1->fg t:=λe=>bj λe'=>hn (.inr (.inr (.inr ⟨e,e'⟩)));obtain⟨hfr,hl,hc⟩:=ha hb hf;refine⟨by simp;omega,λk hk=>?_,λk hk=>?_⟩;by_cases hkl:k<σ.ls.length;rw[bK hkl];exact h.tok k hkl;rw[bC aH];simp only[di,dM,List.length_nil]at hk;have:k - σ.ls.length=0:=aH;simp only[this,List.getElem_cons_zero];exact hfr.1;simp only[ec,eG,List.map_nil]at hk⊢;simp only[di,dY,dM,List.length_nil]at hk;by_cases hkl:k<σ.ls.length;rw[bK (by simpa using hkl)];exact IZ _ aN (h.ok k (by simpa using hkl));have hke:k=σ.ls.length:=aH;subst hke;rw[bC aL];simp only[dY,eO,List.getElem_cons_zero];have htop:fF (TL.v ⟨t,r,a,b,g⟩).f.f=t:=xO hfr.1 hf;rw[rC];refine⟨LG hfr hf,?_,?_,hl,?_⟩;show 1<=r/\r<=12;rcases hc with⟨h1,_⟩|⟨h1,h2,_⟩|⟨h1,_⟩|⟨h1,_⟩<;>omega
 rw[As (by show 1<=r;rcases hc with⟨h1,_⟩|⟨h1,h2,_⟩|⟨h1,_⟩|⟨h1,_⟩<;>omega) (by show r<=12;rcases hc with⟨h1,_⟩|⟨h1,h2,_⟩|⟨h1,_⟩|⟨h1,_⟩<;>omega)];unfold y6 y5;simp only[TL.v];rcases hc with⟨h1,h2,h3,h4,_⟩|⟨h1,h2,h3,h4,h5,_⟩|⟨h1,h2,A,hA,hB⟩|⟨h1,h2,h3,A,hA,_⟩;subst h2 h3 h4 h1;omega;subst h3 h4 h5;omega;have:=(hA hb).1;have:=(hB hb).1;omega;have:=(hA hb).1;omega;refine O6 htop ?_;rcases hc with⟨h1,h2,h3,h4,h5⟩|⟨h1,h2,h3,h4,h5,h6⟩|⟨h1,h2,A,hA,hB⟩|⟨h1,h2,h3,A,hA,h4⟩;refine .inr (.inr ⟨show r<10 by omega,?_⟩);show uo r t;rw[h1];exact⟨hT h1,h5⟩;exact .inr (.inr ⟨h2,h6⟩);refine .inl ⟨h1,?_⟩;show B2 _ (b:Int)=gv (B2 _ (a:Int)) t;rw[Fs h (hA hb).1,Fs h (hB hb).1,(hA hb).2,(hB hb).2];refine .inr (.inl ⟨h1,?_⟩);show t=fN g (B2 _ (a:Int));rw[Fs h (hA hb).1,(hA hb).2];exact h4
theorem G0{g:Tr}(hg:lA g):∀{ps:List (Nat×Tr)} {n:Nat} {σ:Sg},Good l σ->gJ l 10=true->(∀p∈ps,jK σ p.1 p.2)->jK σ n (iK (ps.map (·.2)) g)->CK l (λT=>qP T g ps n) σ
 |[],n,σ,h,_,_,_=>⟨rfl,h⟩
 |p::ps,n,σ,h,h10,hps,hn=>by
  have hadm:σ.bad=false->Fit (iK (ps.map (·.2)) g)->Ww l σ (iK (ps.map (·.2)) g) 10 p.1 n 0:=λhb _=>
   ⟨lA.ch (λu hu=>by
    obtain⟨q,hq,rfl⟩:=eL.1 hu;exact(h.has hb (hps q (cM _ hq))).1) hg,h10,.inr (.inr (.inl ⟨rfl,rfl,p.2,hps p aF,hn⟩))⟩;have h1:=nE h hadm;have h2:=G0 hg (ps:=ps) (n:=(iy fg (iK (ps.map (·.2)) g) 10 p.1 n 0 σ).1) h1.jY h10 (λq hq=>(hps q (cM _ hq)).le jB) iw;refine⟨?_,h2.jY⟩;show qP fg g ps _ _=qP te g ps _ _;have e:=h1.same;rw[<-e];exact h2.same
theorem RW(l:Int){r:Int}(h:r=1\/r=2\/r=7\/r=10\/r=11):gJ l r=true:=by
 unfold gJ;rw[if_neg aH,if_neg aH,if_neg aH,if_neg aH]
theorem kA{g:Tr}{from_:aq}(h:Good l σ)(hg:lA g)(hf:σ.bad=false->∀n∈from_,n<σ.ls.length)(ht:σ.bad=false->Fit g->∀v,(∀n∈from_,iC v (l8 σ n)=true)->iC v g=true):CK l (λT=>gw T g from_) σ:=by
 cases hb:σ.bad with
 |true=>exact⟨by rw[nD hb,nD hb],by rw[nD hb];exact h⟩
 |false=>
  have hhas:∀n∈from_,jK σ n (l8 σ n):=λn hn=>λ_=>⟨hf hb n hn,rfl⟩;have hfit:∀ts:List Tr,Fit (iK ts g)->Fit g:=λts=>by
   induction ts with
   |nil=>exact id
   |cons t ts ih=>exact λh=>ih (Fit.r h)
  have hadm:σ.bad=false->Fit (iK (from_.map (l8 σ)) g)->Ww l σ (iK (from_.map (l8 σ)) g) 1 0 0 0:=λ_ hft=>
   ⟨lA.ch (λu hu=>by
    obtain⟨q,hq,rfl⟩:=eL.1 hu;exact(h.has hb (hhas q hq)).1) hg,RW l (.inl rfl),.inl ⟨rfl,rfl,rfl,rfl,λv=>FQ.2 λhall=>ht hb (hfit _ hft) v (λn hn=>hall _ (c7 hn))⟩⟩;have h1:=nE h hadm;have h2:=G0 hg (ps:=from_.map (λn=>(n,l8 σ n))) (n:=(iy fg (iK (from_.map (l8 σ)) g) 1 0 0 0 σ).1) h1.jY (RW l aH) (λq hq=>by
   obtain⟨n,hn,rfl⟩:=eL.1 hq;exact(hhas n hn).le jB) (by rw[eK];exact iw);have e:=h1.same;have e2:=h2.same;have g2:=h2.jY;constructor;unfold gw;rw[if_neg (by rw[hb];decide),if_neg (by rw[hb];decide),<-e];exact e2;unfold gw;rw[if_neg (by rw[hb];decide)];exact g2
theorem Qe{i:Int}{p q:Tr}(hi:0<=i/\i<4)(h:Good l σ)(hp:lA p)(hq:lA q):CK l (λT=>kW T i p q) σ:=
 nE h (λ_ _=>⟨(hp.im hq|>.kw hi).im ((hp.kw hi).im (hq.kw hi)),RW l aH,.inr (.inl ⟨aI,aI,rfl,rfl,rfl,⟨i,p,q,rfl⟩⟩)⟩)
theorem BM{i:Int}{v:Tr}(hi:0<=i/\i<4)(h:Good l σ)(hv:lA v):CK l (λT=>kF T i v) σ:=
 nE h (λ_ _=>⟨(hv.po hi).if (hv.nt.kw hi).nt,RW l aH,.inr (.inl ⟨aI,aI,rfl,rfl,rfl,⟨i,v,rfl⟩⟩)⟩)
theorem Hz{i:Int}{p q:Tr}{n:Nat}(hi:0<=i/\i<4)(h:Good l σ)(hp:lA p)(hq:lA q)(hn:jK σ n (gv p q)):CK l (λT=>nM T i p q n) σ:=by
 have h1:CK l (λT=>iy T (fN i (gv p q)) 11 n 0 i) σ:=nE h (λ_ _=>⟨(hp.im hq).kw hi,RW l aH,.inr (.inr (.inr ⟨rfl,rfl,hi,_,hn,rfl⟩))⟩);have h2:=Qe (i:=i) (p:=p) (q:=q) hi h1.jY hp hq;have a1:jK _ _ (fN i (gv p q)):=iw (T:=fg) (σ:=σ) (t:=fN i (gv p q)) (r:=11) (a:=n) (b:=0) (gg:=i);have a2:jK _ _ (gv (fN i (gv p q)) (gv (fN i p) (fN i q))):=iw (T:=fg) (σ:=(iy fg (fN i (gv p q)) 11 n 0 i σ).2) (t:=gv (fN i (gv p q)) (gv (fN i p) (fN i q))) (r:=2) (a:=0) (b:=0) (gg:=0);have h3:=nE (t:=gv (fN i p) (fN i q)) (r:=10) (a:=(iy fg (fN i (gv p q)) 11 n 0 i σ).1) (b:=(kW fg i p q (iy fg (fN i (gv p q)) 11 n 0 i σ).2).1) (g:=0) h2.jY (λ_ _=>⟨(hp.kw hi).im (hq.kw hi),RW l aH,.inr (.inr (.inl ⟨rfl,rfl,_,a1.le DJ,a2⟩))⟩);have e1:=h1.same;have e2:=h2.same;have e3:=h3.same;constructor;simp only[nM];rw[<-e1,<-e2];exact e3;exact h3.jY
end
end
section
variable{ei:Bool}{t:Tr}{v:Tr->Bool}
theorem xU (h:Fit (jT t)):Fit (fU t)/\jT t=(fC t).2:=by
 unfold jT at*;split at h;rename_i hf;rw[if_pos hf];exact⟨hf,rfl⟩;rename_i hf;exact absurd h hf
theorem FJ{c:Tr}(h:Fit (fU t))(hc:c∈kids t):Fit (fU c):=by
 have h1:=pA hc;have h2:(iA (fU t)).length=(iA t).length+1:=Cr;have h3:(iA (fU c)).length=(iA c).length+1:=Cr;unfold Fit at*;omega
theorem wq (h:Fit (fU t)):jT t=(fC t).2:=if_pos h
theorem Cm  (h:Fit (uh ei t)):Fit (jT t):=by
 unfold uh at h;split at h;exact Fit.r h;exact Fit.r (Fit.u h)
theorem xl   :iC v (uh ei t)=if ei=true then(iC v t||iC v (jT t))else !(iC v t && iC v (jT t)):=by
 unfold uh;split<;>rfl
theorem Mk   (h:iC v (jT t)=!iC v t):iC v (uh ei t)=true:=by
 rw[xl,h];cases iC v t<;>cases ei<;>rfl
theorem HG  (h:um t)(hok:t.ok):lA (uh ei t):=by
 unfold uh;split;exact(h.fr hok).or (h.op hok);exact((h.fr hok).ad (h.op hok)).nt
theorem KK{op i e g:Int} (h:op<=3)(h1:1<=op):iC v (fC (.leaf op i e g)).2=!iC v (.leaf op i e g):=by
 rw[fC];dsimp only;rcases(by omega:op=1\/op=2\/op=3)with rfl|rfl|rfl;rw[if_pos rfl];rfl;rw[if_neg aI,if_pos rfl];rfl;rw[if_neg aI,if_neg aI];rfl
section
variable{l:Int}{σ:Sg}
theorem OA {op i e g:Int}{a:Tr}{x:Nat}(ho:op=9\/op=10)(ha:um a)(hok:(Tr.un op i e g a).ok)(h:Good l σ)(hx:jK σ x (uh ei a)):CK l (λT=>xF T ei op i a (.un op i e g a) x) σ:=by
 obtain⟨hi,rfl,rfl⟩:=tY hok ho;have hao:a.ok:=hok.2.2.2.2;have fa:=ha.fr hao;have fo:=ha.op hao;have fu:lA (uT op a):=by unfold uT;split<;>assumption
 have fv:lA (vT op a):=by unfold vT;split<;>assumption
 have fp:lA (xD ei op a):=by
  unfold xD;split;exact fv.nt;exact fu
 have fq:lA (xC ei op a):=by
  unfold xC;split;exact fu;exact fv.nt
 have h1:CK l (λT=>gw T (gv (xD ei op a) (xC ei op a)) [x]) σ:=kA h (fp.im fq) (λhb n hn=>by rw[dn.1 hn];exact(hx hb).1) (λhb hf v hv=>by
  have h2:=hv x (dn.2 rfl);rw[(hx hb).2,xl]at h2;rw[xJ];unfold xD xC uT vT;rcases ho with rfl|rfl;simp only[eY];cases ei;simp only[Bool.false_eq_true,eW,Az]at h2⊢;cases e1:iC v a<;>cases e2:iC v (jT a)<;>simp_all
  simp only[eY,Az]at h2⊢;cases e1:iC v a<;>cases e2:iC v (jT a)<;>simp_all
  simp only[show ¬(10:Int)=9 from aI,eW];cases ei;simp only[Bool.false_eq_true,eW,Az]at h2⊢;cases e1:iC v a<;>cases e2:iC v (jT a)<;>simp_all
  simp only[eY,Az]at h2⊢;cases e1:iC v a<;>cases e2:iC v (jT a)<;>simp_all);have h2:=Hz (i:=i) (p:=xD ei op a) (q:=xC ei op a) (n:=(gw fg (gv (xD ei op a) (xC ei op a)) [x] σ).1) hi h1.jY fp fq kO;have h3:=BM (i:=i) (v:=vT op a) hi h2.jY fv;have k1:jK _ _ (gv (fN i (xD ei op a)) (fN i (xC ei op a))):=sO (T:=fg) (i:=i) (p:=xD ei op a) (q:=xC ei op a) (l:=(gw fg (gv (xD ei op a) (xC ei op a)) [x] σ).1) (σ:=(gw fg (gv (xD ei op a) (xC ei op a)) [x] σ).2);have k2:jK _ _ (xH (pU i (vT op a)) (fU (fN i (fU (vT op a))))):=iw (T:=fg) (t:=xH (pU i (vT op a)) (fU (fN i (fU (vT op a))))) (r:=7) (a:=0) (b:=0) (gg:=0) (σ:=(nM fg i (xD ei op a) (xC ei op a) (gw fg (gv (xD ei op a) (xC ei op a)) [x] σ).1 (gw fg (gv (xD ei op a) (xC ei op a)) [x] σ).2).2);have k1':=k1.le (pS (T:=fg) (i:=i) (v:=vT op a));have hnf:um (.un op i 0 0 a):=.inr ⟨ho,ha⟩;have h4:=kA (g:=uh ei (.un op i 0 0 a)) (from_:=[(nM fg i (xD ei op a) (xC ei op a) (gw fg (gv (xD ei op a) (xC ei op a)) [x] σ).1 (gw fg (gv (xD ei op a) (xC ei op a)) [x] σ).2).1,(kF fg i (vT op a) (nM fg i (xD ei op a) (xC ei op a) (gw fg (gv (xD ei op a) (xC ei op a)) [x] σ).1 (gw fg (gv (xD ei op a) (xC ei op a)) [x] σ).2).2).1]) h3.jY (HG hnf hok) (λhb n hn=>by
   simp only[eH,dO,eX]at hn;rcases hn with rfl|rfl;exact(k1' hb).1;exact(k2 hb).1) (λhb hf v hv=>by
  have e1:=hv _ aF;have e2:=hv _ (cM _ aF);have g1:=(k1' hb).2;have g2:=(k2 hb).2;rw[g1]at e1;have e2:iC v (xH (pU i (vT op a)) (fU (fN i (fU (vT op a)))))=true:=g2 ▸ e2;obtain⟨f1,f2⟩:=xU (Cm hf);have f3:jT a=(fC a).2:=wq (FJ f1 aF);rw[xl,f2];rw[xJ]at e1;rw[Pc,Az]at e2;rcases ho with rfl|rfl;have f4:(fC (.un 9 i 0 0 a)).2=pU i (jT a):=by rw[fC,if_neg aI,if_pos rfl,f3]
  rw[f4];have u1:uT 9 a=a:=if_pos rfl;have u2:vT 9 a=jT a:=if_pos rfl;unfold xD xC at e1;rw[u2]at e2;rw[u1,u2]at e1;cases ei;simp only[Bool.false_eq_true,eW]at e1⊢;cases x1:iC v (.un 9 i 0 0 a)<;>cases x2:iC v (pU i (jT a))<;>cases x3:iC v (fN i (fU (jT a)))<;>simp_all
  simp only[eY]at e1⊢;cases x1:iC v (.un 9 i 0 0 a)<;>cases x2:iC v (pU i (jT a))<;>cases x3:iC v (fN i (fU (jT a)))<;>simp_all
  have f4:(fC (.un 10 i 0 0 a)).2=fN i (jT a):=by rw[fC,if_neg aI,if_neg aI,if_pos rfl,f3]
  rw[f4];have u1:uT 10 a=jT a:=if_neg aI;have u2:vT 10 a=a:=if_neg aI;unfold xD xC at e1;rw[u2]at e2;rw[u1,u2]at e1;cases ei;simp only[Bool.false_eq_true,eW]at e1⊢;cases x1:iC v (.un 10 i 0 0 a)<;>cases x2:iC v (fN i (jT a))<;>cases x3:iC v (fN i (fU a))<;>simp_all
  simp only[eY]at e1⊢;cases x1:iC v (.un 10 i 0 0 a)<;>cases x2:iC v (fN i (jT a))<;>cases x3:iC v (fN i (fU a))<;>simp_all);have s1:=h1.same;have s2:=h2.same;have s3:=h3.same;have s4:=h4.same;constructor;simp only[xF];rw[<-s1,<-s2,<-s3];exact s4;exact h4.jY
theorem vv{ei:Bool}:∀{t:Tr},um t->t.ok->∀{σ:Sg},Good l σ->CK l (λT=>fX T ei t) σ
 |.leaf op i e g,hn,hok,σ,h=>by
  have h1:CK l (λT=>gw T (uh ei (.leaf op i e g)) []) σ:=kA h (HG hn hok) (λ_ n hn=>by cases hn) (λ_ hf v _=>Mk (by
   rw[(xU (Cm hf)).2];exact KK hn hok.1.1));exact⟨by simp only[fX];exact h1.same,by simp only[fX];exact h1.jY⟩
 |.un op i e g a,hn,hok,σ,h=>by
  by_cases ho:op=9\/op=10;have ha:um a:=by
   rcases hn with⟨h1,_⟩|⟨_,h1⟩;omega;exact h1
  have h1:=vv (ei:=ei) ha hok.2.2.2.2 h;have h2:=OA (ei:=ei) (i:=i) (e:=e) (g:=g) (x:=(fX fg ei a σ).1) ho ha hok h1.jY kL;have s1:=h1.same;have s2:=h2.same;constructor;simp only[fX];rw[if_pos ho,if_pos ho,<-s1];exact s2;simp only[fX];rw[if_pos ho];exact h2.jY;have h1:CK l (λT=>gw T (uh ei (.un op i e g a)) []) σ:=kA h (HG hn hok) (λ_ n hn=>by cases hn) (λ_ hf v _=>Mk (by
   rw[(xU (Cm hf)).2];rcases hn with⟨rfl,j,e',g',rfl⟩|⟨h1,_⟩;rw[fC,if_pos rfl,fC];show _=!(!_);rw[Bool.not_not];exact absurd h1 ho));exact⟨by simp only[fX];rw[if_neg ho,if_neg ho];exact h1.same,by simp only[fX];rw[if_neg ho];exact h1.jY⟩
 |.bin op i e g a b,hn,hok,σ,h=>by
  have h1:=vv (ei:=ei) hn.2.1 hok.2.2.2.1 h;have h2:=vv (ei:=ei) hn.2.2 hok.2.2.2.2 h1.jY;have k1:jK _ _ (uh ei a):=kL (T:=fg) (ei:=ei) (t:=a) (σ:=σ);have k2:jK _ _ (uh ei b):=kL (T:=fg) (ei:=ei) (t:=b) (σ:=(fX fg ei a σ).2);have k1':=k1.le (ot (T:=fg) (ei:=ei) (t:=b));have h3:=kA (g:=uh ei (.bin op i e g a b)) (from_:=[(fX fg ei a σ).1,(fX fg ei b (fX fg ei a σ).2).1]) h2.jY (HG hn hok) (λhb n hn=>by
   simp only[eH,dO,eX]at hn;rcases hn with rfl|rfl;exact(k1' hb).1;exact(k2 hb).1) (λhb hf v hv=>by
   have e1:=hv _ aF;have e2:=hv _ (cM _ aF);rw[(k1' hb).2,xl]at e1;rw[(k2 hb).2,xl]at e2;obtain⟨f1,f2⟩:=xU (Cm hf);have fa:jT a=(fC a).2:=wq (FJ f1 aF);have fb:jT b=(fC b).2:=wq (FJ f1 (cM _ aF));rw[xl,f2];rcases hn.1 with rfl|rfl;have f4:(fC (.bin 5 i e g a b)).2=.bin 6 0 0 0 (jT a) (jT b):=by rw[fC,if_pos rfl,fa,fb]
   have f5:iC v (.bin 5 i e g a b)=(iC v a && iC v b):=rfl;rw[f4,UM,f5];cases ei<;>cases x1:iC v a<;>cases x2:iC v b<;>cases x3:iC v (jT a)<;>cases x4:iC v (jT b)<;>simp_all
   have f4:(fC (.bin 6 i e g a b)).2=uj (jT a) (jT b):=by rw[fC,if_neg aI,if_pos rfl,fa,fb]
   rw[f4,UM,VU];cases ei<;>cases x1:iC v a<;>cases x2:iC v b<;>cases x3:iC v (jT a)<;>cases x4:iC v (jT b)<;>simp_all);have s1:=h1.same;have s2:=h2.same;have s3:=h3.same;constructor;simp only[fX];rw[<-s1,<-s2];exact s3;simp only[fX];exact h3.jY
theorem Pt{i:Int}{f z:Tr}(hi:0<=i/\i<4)(hz:lA z)(hf:(f=fN i z/\gJ l 4=true)\/(f=pU i z/\gJ l 5=true))(h:Good l σ):CK l (λT=>qV T i f) σ:=by
 rcases hf with⟨rfl,h4⟩|⟨rfl,h5⟩;exact nE h (λ_ _=>⟨(hz.kw hi).im ((hz.kw hi).kw hi),h4,.inr (.inl ⟨aI,aI,rfl,rfl,rfl,⟨i,z,rfl⟩⟩)⟩);have fnz:lA (fU (fN i (fU z))):=(hz.nt.kw hi).nt;have h1:=BM (i:=i) (v:=z) hi h hz;have k1:jK _ _ (xH (pU i z) (fU (fN i (fU z)))):=iw (T:=fg) (t:=xH (pU i z) (fU (fN i (fU z)))) (r:=7) (a:=0) (b:=0) (gg:=0) (σ:=σ);have h2:=nE (t:=gv (fU (fN i (fU z))) (fN i (fU (fN i (fU z))))) (r:=5) (a:=0) (b:=0) (g:=0) h1.jY (λ_ _=>⟨fnz.im (fnz.kw hi),h5,.inr (.inl ⟨aI,aI,rfl,rfl,rfl,⟨i,fU z,rfl⟩⟩)⟩);have k2:=iw (T:=fg) (t:=gv (fU (fN i (fU z))) (fN i (fU (fN i (fU z))))) (r:=5) (a:=0) (b:=0) (gg:=0) (σ:=(kF fg i z σ).2);obtain⟨σ1,e1⟩:∃s,s=kF fg i z σ:=⟨_,rfl⟩;obtain⟨σ2,e2⟩:∃s,s=iy fg (gv (fU (fN i (fU z))) (fN i (fU (fN i (fU z))))) 5 0 0 0 σ1.2:=⟨_,rfl⟩;have k1a:jK σ1.2 σ1.1 (xH (pU i z) (fU (fN i (fU z)))):=by rw[e1];exact k1
 have g1:Good l σ1.2:=by rw[e1];exact h1.jY
 have le2:σ1.2.Le σ2.2:=by rw[e2];exact jB
 have k2a:jK σ2.2 σ2.1 (gv (fU (fN i (fU z))) (fN i (fU (fN i (fU z))))):=by rw[e2,e1];exact k2
 have g2:Good l σ2.2:=by rw[e2,e1];exact h2.jY
 have h3:=kA (g:=gv (fU (fN i (fU z))) (pU i z)) (from_:=[σ1.1]) g2 (fnz.im (hz.po hi)) (λhb n hn=>by rw[dn.1 hn];exact((k1a.le le2) hb).1) (λhb _ v hv=>by
  have q:=hv _ (dn.2 rfl);rw[((k1a.le le2) hb).2,Pc]at q;rw[xJ];cases x1:iC v (pU i z)<;>cases x2:iC v (fU (fN i (fU z)))<;>simp_all);obtain⟨σ3,e3⟩:∃s,s=gw fg (gv (fU (fN i (fU z))) (pU i z)) [σ1.1] σ2.2:=⟨_,rfl⟩;have le3:σ2.2.Le σ3.2:=by rw[e3];exact jz
 have g3:Good l σ3.2:=by rw[e3];exact h3.jY
 have k3:jK σ3.2 σ3.1 (gv (fU (fN i (fU z))) (pU i z)):=by rw[e3];exact kO
 have h4:=Hz (i:=i) (p:=fU (fN i (fU z))) (q:=pU i z) (n:=σ3.1) hi g3 fnz (hz.po hi) k3;obtain⟨σ4,e4⟩:∃s,s=nM fg i (fU (fN i (fU z))) (pU i z) σ3.1 σ3.2:=⟨_,rfl⟩;have le4:σ3.2.Le σ4.2:=by rw[e4];exact vI
 have g4:Good l σ4.2:=by rw[e4];exact h4.jY
 have k4:jK σ4.2 σ4.1 (gv (fN i (fU (fN i (fU z)))) (fN i (pU i z))):=by rw[e4];exact sO
 have k1b:=k1a.le (le2.trans (le3.trans le4));have k2b:=k2a.le (le3.trans le4);have h5':=kA (g:=gv (pU i z) (fN i (pU i z))) (from_:=[σ1.1,σ2.1,σ4.1]) g4 ((hz.po hi).im ((hz.po hi).kw hi)) (λhb n hn=>by
  simp only[eH,dO,eX]at hn;rcases hn with rfl|rfl|rfl;exact(k1b hb).1;exact(k2b hb).1;exact(k4 hb).1) (λhb _ v hv=>by
  have q1:=hv _ aF;have q2:=hv _ (cM _ aF);have q3:=hv _ (cM _ (cM _ aF));rw[(k1b hb).2,Pc]at q1;rw[(k2b hb).2,xJ]at q2;rw[(k4 hb).2,xJ]at q3;rw[xJ];cases x1:iC v (pU i z)<;>cases x2:iC v (fU (fN i (fU z)))<;>cases x3:iC v (fN i (fU (fN i (fU z))))<;>cases x4:iC v (fN i (pU i z))<;>simp_all);have s1:=h1.same;have s2:=h2.same;have s3:=h3.same;have s4:=h4.same;have s5:=h5'.same;rw[<-e1]at s1 s2;rw[<-e2]at s2;rw[<-e3]at s3;rw[<-e4]at s4;constructor;simp only[qV];rw[<-s1,<-e1,<-s2,<-e2,<-s3,<-e3,<-s4,<-e4];exact s5;simp only[qV];rw[<-e1,<-e2,<-e3,<-e4];exact h5'.jY
end
end
section
variable{i:Int}{b:List NV}{k:Nat}
structure SD where
  set:fi
  fK:Int
  on:Int
  e:Int
  fr:ar
structure SV where
  d:SD
  fa:ae
  fc:Nat
def nd(b:List NV)(i:Int):NV:=b.getD i.toNat ⟨0,0,0,0,0,0⟩
def tA(b:List NV)(i:Int):Tr:=fe b i.toNat
def ga(s:fi)(i:Int):Bool:=decide (0<=i/\i<64) && s.getLsbD i.toNat
def bW(i:Int):fi:=1#64<<<i.toNat
theorem sH{s:fi}{i:Nat}:ga s i=true↔s.getLsbD i=true:=by
 unfold ga;simp only[dG,dE,dy];exact⟨λh=>h.2,λh=>⟨⟨aH,by have:=BitVec.lt_of_getLsbD h;omega⟩,h⟩⟩
theorem mF{s:fi} :ga s i=true↔∃k:Nat,i=k/\k<64/\s.getLsbD k=true:=by
 unfold ga;simp only[dG,dE];exact⟨λh=>⟨i.toNat,aH,aH,h.2⟩,λ⟨k,h1,h2,h3⟩=>⟨aH,by subst h1;exact h3⟩⟩
theorem rN  (h:0<=i/\i<64):(bW i).getLsbD k=true↔(k:Int)=i:=by
 unfold bW;rw[BP aH];omega
noncomputable def kU(b:List NV)(i:Int):Int:=match (List.range b.length).find? (λj=>decide (fe b j=jT (tA b i)))with
 |some j=>(j:Int)
 |none=>-1
theorem A0  {j:Nat}(hj:j<b.length)(h:fe b j=jT (tA b i))(hf:∀k,k<j->fe b k≠jT (tA b i)):kU b i=j:=by
 have:(List.range b.length).find? (λj=>decide (fe b j=jT (tA b i)))=some j:=by
  rw[List.find?_range_eq_some];exact⟨by simpa using h,by simpa using hj,λk hk=>by simpa using hf k hk⟩
 unfold kU;rw[this]
theorem IT  (hf:∀k,k<b.length->fe b k≠jT (tA b i)):kU b i=-1:=by
 have:(List.range b.length).find? (λj=>decide (fe b j=jT (tA b i)))=none:=by
  rw[List.find?_eq_none];intro k hk;simpa using hf k (eD.1 hk)
 unfold kU;rw[this]
theorem BW  (h:0<=kU b i):∃j:Nat,kU b i=j/\j<b.length/\fe b j=jT (tA b i):=by
 cases e:(List.range b.length).find? (λj=>decide (fe b j=jT (tA b i)))with
 |none=>unfold kU at h;rw[e]at h;exact absurd h aI
 |some j=>
  have h1:=List.mem_of_find?_eq_some e;have h2:=List.find?_some e;exact⟨j,by unfold kU;rw[e],eD.1 h1,by simpa using h2⟩
def v7(l:Int):Prop:=l=3\/l=4\/l=5\/l=6
def ym(l:Int):Prop:=l=5\/l=6
instance{l:Int}:Decidable (v7 l):=by unfold v7;infer_instance
instance{l:Int}:Decidable (ym l):=by unfold ym;infer_instance
def Cq(l:Int)(b:List NV)(i:Int):fi:=(if (nd b i).op=9 then bW (nd b i).x else 0#64)|||(if ((nd b i).op=9/\v7 l)\/((nd b i).op=10/\ym l)then bW i else 0#64)
def mH(l:Int)(b:List NV)(s:fi)(ag:Int):Nat->fi
 |0=>0#64
 |k+1=>if ga s k=true/\(nd b k).i=ag then mH l b s ag k|||Cq l b k else mH l b s ag k
def m4(l:Int)(b:List NV)(s:fi)(ag:Int):fi:=mH l b s ag b.length
def jw(b:List NV)(s:fi):Prop:=∀k,s.getLsbD k=true->k<b.length
def gN(ss:List SD)(k:Int):fi:=(ss.map SD.set).getD k.toNat 0#64
def kV(ss:List SD)(k:Nat):ar->List fi->Prop
 |[],[]=>True
 |f::fs,s::us=>((0<=f/\f<k)/\gN ss f &&& ~~~ s=0#64)/\kV ss k fs us
 |_,_=>False
def Nk(b:List NV)(x:SD)(op:Int):Prop:=x.on<b.length/\ga x.set x.on=true/\(nd b x.on).op=op
def jr(l:Int)(b:List NV)(ss:List SD)(k:Nat)(x:SD):Prop:=
 jw b x.set/\(
 (x.fK=1/\x.fr=[]/\((Nk b x 2/\x.e=0)\/(ga x.set x.on=true/\x.on<b.length/\ga x.set x.e=true/\kU b x.on=x.e)))\/
 (x.fK=2/\x.e=0/\Nk b x 5/\kV ss k x.fr [x.set|||bW (nd b x.on).x|||bW (nd b x.on).y])\/
 (x.fK=3/\x.e=0/\Nk b x 6/\kV ss k x.fr [x.set|||bW (nd b x.on).x,x.set|||bW (nd b x.on).y])\/
 (x.fK=4/\(0<=x.on/\x.on<b.length)/\0<=x.e/\kU b x.on=x.e/\kV ss k x.fr [x.set|||bW x.on,x.set|||bW x.e])\/
 (x.fK=5/\x.e=0/\(l=2\/l=4\/l=6)/\Nk b x 9/\kV ss k x.fr [x.set|||bW (nd b x.on).x])\/
 (x.fK=6/\x.e=0/\Nk b x 10/\kV ss k x.fr [bW (nd b x.on).x|||m4 l b x.set (nd b x.on).i])\/
 (x.fK=7/\x.e=0/\(l=1\/l=5)/\(0<=x.on/\x.on<4)/\kV ss k x.fr [m4 l b x.set x.on]))
def oH(b:List NV)(n:NV):Prop:=(n.op=1\/n.op=2\/n.op=3\/n.op=5\/n.op=6\/n.op=9\/n.op=10)\/(n.op=4/\(nd b n.x).op=3)
open Classical in
noncomputable def qX(b:List NV):Int:=if gp b≠0 then gp b else if 64<b.length then 8 else if ∀n∈b,oH b n then 0 else 10
noncomputable def kY(l:Int)(b:List NV)(m:Nat):Int:=if ¬(0<=l/\l<=6)then 2 else if qX b≠0 then qX b else if m=0\/4096<m then 3 else 0
open Classical in
noncomputable def Aj(l:Int)(b:List NV)(ss:List SD):Int:=if kY l b ss.length≠0 then kY l b ss.length else if ∀(k:Nat) (hk:k<ss.length),jr l b ss k ss[k]then 0 else 13
theorem uG :qX b=0↔gp b=0/\b.length<=64/\∀n∈b,oH b n:=by
 unfold qX;by_cases h2:gp b=0;rw[if_neg (by simp[h2])];by_cases h3:64<b.length;rw[if_pos h3];exact⟨λh=>absurd h aI,λh=>aH⟩;rw[if_neg h3];by_cases h4:∀n∈b,oH b n;rw[if_pos h4];exact⟨λ_=>⟨h2,aH,h4⟩,λ_=>rfl⟩;rw[if_neg h4];exact⟨λh=>absurd h aI,λh=>absurd h.2.2 h4⟩;rw[if_pos h2];exact⟨λh=>absurd h h2,λh=>absurd h.1 h2⟩
theorem uE{l:Int} {m:Nat}:kY l b m=0↔(0<=l/\l<=6)/\qX b=0/\0<m/\m<=4096:=by
 unfold kY;by_cases h1:0<=l/\l<=6;rw[if_neg (by simp[h1])];by_cases h2:qX b=0;rw[if_neg (by simp[h2])];by_cases h3:m=0\/4096<m;rw[if_pos h3];exact⟨λh=>absurd h aI,λh=>aH⟩;rw[if_neg h3];exact⟨λ_=>⟨h1,h2,aH⟩,λ_=>rfl⟩;rw[if_pos h2];exact⟨λh=>absurd h h2,λh=>absurd h.2.1 h2⟩;rw[if_pos h1];exact⟨λh=>absurd h aI,λh=>absurd h.1 h1⟩
theorem Kf{l:Int} {ss:List SD}:Aj l b ss=0↔(0<=l/\l<=6)/\(gp b=0/\b.length<=64/\∀n∈b,oH b n)/\(0<ss.length/\ss.length<=4096)/\∀(k:Nat) (hk:k<ss.length),jr l b ss k ss[k]:=by
 unfold Aj;by_cases h1:kY l b ss.length=0;rw[if_neg (by simp[h1])];have h2:=uE.1 h1;have h3:=uG.1 h2.2.1;by_cases h6:∀(k:Nat) (hk:k<ss.length),jr l b ss k ss[k];rw[if_pos h6];exact⟨λ_=>⟨h2.1,h3,h2.2.2,h6⟩,λ_=>rfl⟩;rw[if_neg h6];exact⟨λh=>absurd h aI,λh=>absurd h.2.2.2 h6⟩;rw[if_pos h1];exact⟨λh=>absurd h h1,λ⟨a,c,d,_⟩=>absurd (uE.2 ⟨a,uG.2 c,d⟩) h1⟩
def lP(b:List NV)(s:fi)(ag:Int)(n:Nat):Nat:=((List.range b.length).find? (λi=>s.getLsbD i && ((nd b i).op==9 && ((nd b i).i==ag && (nd b i).x==(n:Int))))).getD n
def J3(b:List NV)(s:fi)(ag:Int)(p:fi):fi:=(iQ p).foldl (λo n=>o|||1#64<<<lP b s ag n) 0#64
def qe(b:List NV)(x:SD)(bf:List fi):fi:=
 let p:=bf.getD (x.fr.getD 0 0).toNat 0#64
 let q:=bf.getD (x.fr.getD 1 0).toNat 0#64
 let n:=nd b x.on
 if x.fK=1 then(if n.op=2 then bW x.on else bW x.on|||bW x.e)
 else if x.fK=4 then p &&& ~~~ bW x.on|||q &&& ~~~ bW x.e
 else if x.fK=7 then J3 b x.set x.on p
 else if x.fK=2 then p &&& ~~~ (bW n.x|||bW n.y)|||bW x.on
 else if x.fK=3 then p &&& ~~~ bW n.x|||q &&& ~~~ bW n.y|||bW x.on
 else if x.fK=5 then p &&& ~~~ bW n.x|||bW x.on
 else J3 b x.set n.i (p &&& ~~~ bW n.x)|||bW x.on
def lh(b:List NV)(ss:List SD):Nat->List fi
 |0=>[]
 |k+1=>match ss[k]? with
  |some x=>lh b ss k++[qe b x (lh b ss k)]
  |none=>lh b ss k
theorem tj {ss:List SD} (hk:k<ss.length):lh b ss (k+1)=lh b ss k++[qe b ss[k] (lh b ss k)]:=by
 rw[lh,bJ hk]
theorem si{b:List NV}{ss:List SD}:∀{k:Nat},k<=ss.length->(lh b ss k).length=k
 |0,_=>rfl
 |k+1,h=>by rw[tj aH,di,si aH];rfl
theorem CT{b:List NV}{ss:List SD}{j:Nat}:∀{k:Nat},j<=k->k<=ss.length->lh b ss j<+:lh b ss k
 |0,h,_=>by rw[show j=0 by omega];exact dQ _
 |k+1,h,h2=>by
  by_cases e:j=k+1;rw[e];exact dQ _;rw[tj aH];exact(CT aH aH).trans (dq _ _)
def xv(b:List NV)(ss:List SD)(k:Nat):fi:=(lh b ss ss.length).getD k 0#64
theorem uN {ss:List SD}{j:Nat}(hj:j<k)(hk:k<=ss.length):(lh b ss k).getD j 0#64=xv b ss j:=by
 obtain⟨u,hu⟩:=CT (b:=b) (ss:=ss) hk (eR _);unfold xv;rw[<-hu,aY,aY,bu (by rw[si hk];exact hj)]
theorem QP {ss:List SD} (hk:k<ss.length):xv b ss k=qe b ss[k] (lh b ss k):=by
 rw[<-uN (dS k) aH,tj hk,aY,aZ (by rw[si aH];exact eR _)];simp[si (Nat.le_of_lt hk)]
inductive Ic (ss:List SD):Nat->Prop
  |last {k:Nat}:k+1=ss.length->Ic ss k
  |fr {k j:Nat} (hk:k<ss.length):Ic ss k->(j:Int)∈ss[k].fr->Ic ss j
open Classical in
noncomputable def iS(ss:List SD)(k:Nat):Bool:=decide (Ic ss k)
theorem me{ss:List SD} :iS ss k=true↔Ic ss k:=by unfold iS;exact @decide_eq_true_iff _ (Classical.propDecidable _)
noncomputable def m7(b:List NV)(ss:List SD)(k:Nat)(x:SD):SD:=
 ⟨xv b ss k,x.fK,x.on,if x.fK=1/\(nd b x.on).op=2 then 0 else x.e,x.fr.map (λj=>((gq (iS ss) j.toNat:Nat):Int))⟩
noncomputable def uQ(b:List NV)(ss:List SD):Nat->List SD
 |0=>[]
 |k+1=>match ss[k]? with
  |some x=>if iS ss k=true then uQ b ss k++[m7 b ss k x]else uQ b ss k
  |none=>uQ b ss k
noncomputable def jD(b:List NV)(ss:List SD):List SD:=uQ b ss ss.length
theorem nU {ss:List SD} (hk:k<ss.length):uQ b ss (k+1)=if iS ss k=true then uQ b ss k++[m7 b ss k ss[k]]else uQ b ss k:=by
 rw[uQ,bJ hk]
theorem sr{b:List NV}{ss:List SD}:∀{k:Nat},k<=ss.length->(uQ b ss k).length=gq (iS ss) k
 |0,_=>by simp[uQ,gq]
 |k+1,h=>by
  have h1:=sr (b:=b) (ss:=ss) (k:=k) aH;rw[nU aH,lB];split<;>simp[h1]
theorem Gq{b:List NV}{ss:List SD}{j:Nat}(hn:iS ss j=true):∀{k:Nat},k<=ss.length->j<k->∀hj:j<ss.length,(uQ b ss k)[gq (iS ss) j]?=some (m7 b ss j ss[j])
 |0,_,h,_=>aH
 |k+1,h,h2,hj=>by
  rw[nU aH];by_cases e:j=k;subst e;rw[if_pos hn,aZ (by rw[sr aH];exact eR _),sr aH];simp;have h3:=Gq (b:=b) hn (k:=k) aH aH hj;split;rw[bu (bB.1 h3).1];exact h3;exact h3
end
section
variable{k:Nat}{s t:fi}
theorem uS :s &&& ~~~ t=0#64↔∀k,s.getLsbD k=true->t.getLsbD k=true:=by
 constructor;intro h k hk;have:=eV (λx=>x.getLsbD k) h;simp only[dc,de,hk,cU,Bool.true_and]at this;have h64:=BitVec.lt_of_getLsbD hk;simpa[h64]using this;intro h;apply bS;intro i hi;simp only[dc,de,cU];cases hs:s.getLsbD i with
 |false=>rfl
 |true=>simp[h i hs]
theorem jt  :(s|||t).getLsbD k=true↔s.getLsbD k=true\/t.getLsbD k=true:=by simp
theorem nm  :(s &&& ~~~ t).getLsbD k=true↔s.getLsbD k=true/\¬t.getLsbD k=true:=by
 simp only[dc,de,dG,dE,dw,dH];exact⟨λh=>⟨h.1,h.2.2⟩,λh=>⟨h.1,BitVec.lt_of_getLsbD h.1,h.2⟩⟩
structure fS (b:List NV):Prop where
  qA:gp b=0
  len:b.length<=64
  TW:∀n∈b,oH b n
section
variable{l:Int}{b:List NV}{ss:List SD}
theorem jU{i:Nat}(hi:i<b.length):nd b i=b[i]:=by simp[nd,hi]
theorem fS.x(h:fS b){i:Nat}(hi:i<b.length)(hX:4<=(nd b i).op):0<=(nd b i).x/\(nd b i).x<i:=by
 rw[jU hi]at*;have ho:=(fA.1 h.qA).nodes i hi;have h1:=h.TW _ (dL hi);have hu:ji b[i].op=true:=by unfold ji;unfold oH at h1;simp;omega
 have:=ho.x hu;omega
theorem fS.y(h:fS b){i:Nat}(hi:i<b.length)(hX:(nd b i).op=5\/(nd b i).op=6):0<=(nd b i).y/\(nd b i).y<i:=by
 rw[jU hi]at*;have ho:=(fA.1 h.qA).nodes i hi;have hu:iM b[i].op=true:=by unfold iM;rcases hX with e|e<;>rw[e]<;>rfl
 have:=ho.y hu;omega
theorem lO {ag:Int}{n:Nat}:(∃i,lP b s ag n=i/\i<b.length/\s.getLsbD i=true/\(nd b i).op=9/\(nd b i).i=ag/\(nd b i).x=n/\∀j,j<i->s.getLsbD j=true->(nd b j).op=9->(nd b j).i=ag->(nd b j).x≠n)\/(lP b s ag n=n/\∀j,j<b.length->s.getLsbD j=true->(nd b j).op=9->(nd b j).i=ag->(nd b j).x≠n):=by
 cases e:(List.range b.length).find? (λi=>s.getLsbD i && ((nd b i).op==9 && ((nd b i).i==ag && (nd b i).x==(n:Int))))with
 |none=>
  refine .inr ⟨by unfold lP;rw[e];rfl,λj hj h1 h2 h3 h4=>?_⟩;rw[List.find?_eq_none]at e;exact e j (eD.2 hj) (by simp[h1,h2,h3,h4])
 |some i=>
  rw[List.find?_range_eq_some]at e;obtain⟨e1,e2,e3⟩:=e;simp only[dG,eU]at e1;refine .inl ⟨i,?_,eD.1 e2,e1.1,e1.2.1,e1.2.2.1,e1.2.2.2,λj hj h1 h2 h3 h4=>?_⟩;have:(List.range b.length).find? (λi=>s.getLsbD i && ((nd b i).op==9 && ((nd b i).i==ag && (nd b i).x==(n:Int))))=some i:=by
   rw[List.find?_range_eq_some];exact⟨by simp[e1],e2,e3⟩
  unfold lP;rw[this];rfl;have:=e3 j hj;simp[h1,h2,h3,h4]at this
theorem NO(hl:b.length<=64) {ag:Int}{n:Nat}(hn:n<64):lP b s ag n<64:=by
 rcases lO (b:=b) (s:=s) (ag:=ag) (n:=n)with⟨i,h1,h2,_⟩|⟨h1,_⟩;omega;omega
theorem GS{f:Nat->Nat}:∀{ns:aq} {o:fi} {k:Nat},(∀n∈ns,f n<64)->((ns.foldl (λo n=>o|||1#64<<<f n) o).getLsbD k=true↔o.getLsbD k=true\/∃n∈ns,f n=k)
 |[],o,k,_=>by simp
 |n::ns,o,k,h=>by
  rw[dX,GS (λm hm=>h m (cM _ hm)),jt,BP (h n aF)];simp only[eH,exists_eq_or_imp];constructor;rintro ((h1|h1)|h1);exact .inl h1;exact .inr (.inl h1.symm);exact .inr (.inr h1);rintro (h1|h1|h1);exact .inl (.inl h1);exact .inl (.inr h1.symm);exact .inr h1
theorem jy  :k∈iQ s↔s.getLsbD k=true:=by
 unfold iQ;rw[eg,eD];exact⟨λh=>h.2,λh=>⟨BitVec.lt_of_getLsbD h,h⟩⟩
theorem C6(hl:b.length<=64){p:fi}{ag:Int} :(J3 b s ag p).getLsbD k=true↔∃n,p.getLsbD n=true/\lP b s ag n=k:=by
 unfold J3;rw[GS (λn hn=>NO hl (BitVec.lt_of_getLsbD (jy.1 hn)))];simp only[cU,Bool.false_eq_true,false_or,jy]
theorem wL(h:fS b){s:fi}{ag:Int}{k:Nat}:∀{m:Nat},m<=b.length->((mH l b s ag m).getLsbD k=true↔∃i:Nat,i<m/\s.getLsbD i=true/\(nd b i).i=ag/\(((nd b i).op=9/\(nd b i).x=k)\/(k=i/\(((nd b i).op=9/\v7 l)\/((nd b i).op=10/\ym l)))))
 |0,_=>by simp[mH]
 |m+1,hm=>by
  have hcn:(Cq l b m).getLsbD k=true↔(((nd b m).op=9/\(nd b m).x=k)\/(k=m/\(((nd b m).op=9/\v7 l)\/((nd b m).op=10/\ym l)))):=by
   unfold Cq;rw[jt];apply or_congr;by_cases h9:(nd b m).op=9;have:=h.x (i:=m) aH aH;have:=h.len;rw[if_pos h9,rN aH];exact⟨λe=>⟨h9,e.symm⟩,λe=>e.2.symm⟩;rw[if_neg h9];simp[h9];by_cases h9:((nd b m).op=9/\v7 l)\/((nd b m).op=10/\ym l);have:=h.len;rw[if_pos h9,rN aH];exact⟨λe=>⟨aH,h9⟩,λe=>aH⟩;rw[if_neg h9];simp[h9]
  rw[mH];by_cases h1:ga s m=true/\(nd b m).i=ag;rw[if_pos h1,jt,wL h aH,hcn];constructor;rintro (⟨i,h2,h3⟩|h2);exact⟨i,aH,h3⟩;exact⟨m,aH,sH.1 h1.1,h1.2,h2⟩;rintro ⟨i,h2,h3,h4,h5⟩;by_cases e:i=m;subst e;exact .inr h5;exact .inl ⟨i,aH,h3,h4,h5⟩;rw[if_neg h1,wL h aH];constructor;rintro ⟨i,h2,h3⟩;exact⟨i,aH,h3⟩;rintro ⟨i,h2,h3,h4,h5⟩;by_cases e:i=m;subst e;exact absurd ⟨sH.2 h3,h4⟩ h1;exact⟨i,aH,h3,h4,h5⟩
theorem oz(h:fS b) {ag:Int} :(m4 l b s ag).getLsbD k=true↔∃i:Nat,i<b.length/\s.getLsbD i=true/\(nd b i).i=ag/\(((nd b i).op=9/\(nd b i).x=k)\/(k=i/\(((nd b i).op=9/\v7 l)\/((nd b i).op=10/\ym l)))):=wL h (eR _)
theorem kV.one{k:Nat}{fs:ar}{s:fi}(h:kV ss k fs [s]):∃j:Nat,fs=[(j:Int)]/\j<k/\∀n,(gN ss j).getLsbD n=true->s.getLsbD n=true:=by
 cases fs with
 |nil=>exact h.elim
 |cons f fs=>
  cases fs with
  |cons _ _=>exact h.2.elim
  |nil=>
   obtain⟨⟨h1,h2⟩,_⟩:=h;refine⟨f.toNat,by rw[show((f.toNat:Nat):Int)=f by omega],aH,?_⟩;rw[show((f.toNat:Nat):Int)=f by omega];exact uS.1 h2
theorem kV.two {fs:ar}{u:fi}(h:kV ss k fs [s,u]):∃j i:Nat,fs=[(j:Int),(i:Int)]/\j<k/\i<k/\(∀n,(gN ss j).getLsbD n=true->s.getLsbD n=true)/\∀n,(gN ss i).getLsbD n=true->u.getLsbD n=true:=by
 cases fs with
 |nil=>exact h.elim
 |cons f fs=>
  obtain⟨⟨h1,h2⟩,h3⟩:=h;obtain⟨i,rfl,hi,hu⟩:=kV.one h3;refine⟨f.toNat,i,by rw[show((f.toNat:Nat):Int)=f by omega],aH,hi,?_,hu⟩;rw[show((f.toNat:Nat):Int)=f by omega];exact uS.1 h2
theorem sZ{j:Nat} (hj:j<k)(h:∀n,(gN ss j).getLsbD n=true->s.getLsbD n=true):kV ss k [(j:Int)] [s]:=⟨⟨aH,uS.2 h⟩,eZ⟩
theorem Ez{j i:Nat}{u:fi}(hj:j<k)(hi:i<k)(h:∀n,(gN ss j).getLsbD n=true->s.getLsbD n=true)(h2:∀n,(gN ss i).getLsbD n=true->u.getLsbD n=true):kV ss k [(j:Int),(i:Int)] [s,u]:=⟨⟨aH,uS.2 h⟩,sZ hi h2⟩
theorem jr.uc {x:SD}(h:jr l b ss k x){f:Int}(hf:f∈x.fr):0<=f/\f<k:=by
 have one:∀{s:fi},kV ss k x.fr [s]->0<=f/\f<k:=λh=>by
  obtain⟨j,e,hj,_⟩:=h.one;rw[e,dn]at hf;omega
 have two:∀{s u:fi},kV ss k x.fr [s,u]->0<=f/\f<k:=λh=>by
  obtain⟨j,i,e,hj,hi,_⟩:=h.two;rw[e]at hf;simp only[eH,dO,eX]at hf;omega
 rcases h.2 with⟨_,h,_⟩|⟨_,_,_,h⟩|⟨_,_,_,h⟩|⟨_,_,_,_,h⟩|⟨_,_,_,_,h⟩|⟨_,_,_,h⟩|⟨_,_,_,_,h⟩;rw[h]at hf;cases hf;exact one h;exact two h;exact two h;exact one h;exact one h;exact one h
theorem Nk.nat(_h:fS b){x:SD}{op:Int}(g:Nk b x op):∃o:Nat,x.on=o/\o<b.length/\x.set.getLsbD o=true/\(nd b x.on).op=op:=by
 obtain⟨h1,h2,h3⟩:=g;obtain⟨k,h4,h5,h6⟩:=mF.1 h2;exact⟨k,h4,aH,h6,h3⟩
end
end
section
variable{k:Nat}
section
variable{l:Int}{b:List NV}{ss:List SD}
abbrev Us(b:List NV)(ss:List SD)(k n:Nat):Prop:=(xv b ss k).getLsbD n=true
inductive AF (l:Int) (b:List NV) (ss:List SD) (k:Nat) (x:SD):Prop
  |O7 (o:Nat):x.fK=1->x.fr=[]->x.on=o->o<b.length->x.set.getLsbD o=true->(nd b o).op=2->(∀n,Us b ss k n↔n=o)->AF l b ss k x
  |neg (o e:Nat):x.fK=1->x.fr=[]->x.on=o->o<b.length->x.set.getLsbD o=true->(nd b o).op≠2->x.e=e->e<b.length->x.set.getLsbD e=true->kU b o=e->fe b e=jT (fe b o)->(∀n,Us b ss k n↔n=o\/n=e)->AF l b ss k x
  |and (o j:Nat):x.fK=2->x.e=0->x.fr=[(j:Int)]->j<k->x.on=o->o<b.length->x.set.getLsbD o=true->(nd b o).op=5->(∀n:Nat,(gN ss j).getLsbD n=true->x.set.getLsbD n=true\/(n:Int)=(nd b o).x\/(n:Int)=(nd b o).y)->(∀n:Nat,Us b ss k n↔(Us b ss j n/\(n:Int)≠(nd b o).x/\(n:Int)≠(nd b o).y)\/n=o)->AF l b ss k x
  |or (o j i:Nat):x.fK=3->x.e=0->x.fr=[(j:Int),(i:Int)]->j<k->i<k->x.on=o->o<b.length->x.set.getLsbD o=true->(nd b o).op=6->(∀n:Nat,(gN ss j).getLsbD n=true->x.set.getLsbD n=true\/(n:Int)=(nd b o).x)->(∀n:Nat,(gN ss i).getLsbD n=true->x.set.getLsbD n=true\/(n:Int)=(nd b o).y)->(∀n:Nat,Us b ss k n↔(Us b ss j n/\(n:Int)≠(nd b o).x)\/(Us b ss i n/\(n:Int)≠(nd b o).y)\/n=o)->AF l b ss k x
  |cut (o e j i:Nat):x.fK=4->x.fr=[(j:Int),(i:Int)]->j<k->i<k->x.on=o->o<b.length->x.e=e->e<b.length->kU b o=e->fe b e=jT (fe b o)->(∀n:Nat,(gN ss j).getLsbD n=true->x.set.getLsbD n=true\/n=o)->(∀n:Nat,(gN ss i).getLsbD n=true->x.set.getLsbD n=true\/n=e)->(∀n:Nat,Us b ss k n↔(Us b ss j n/\n≠o)\/(Us b ss i n/\n≠e))->AF l b ss k x
  |t (o j:Nat):x.fK=5->x.e=0->(l=2\/l=4\/l=6)->x.fr=[(j:Int)]->j<k->x.on=o->o<b.length->x.set.getLsbD o=true->(nd b o).op=9->(∀n:Nat,(gN ss j).getLsbD n=true->x.set.getLsbD n=true\/(n:Int)=(nd b o).x)->(∀n:Nat,Us b ss k n↔(Us b ss j n/\(n:Int)≠(nd b o).x)\/n=o)->AF l b ss k x
  |k (o j:Nat):x.fK=6->x.e=0->x.fr=[(j:Int)]->j<k->x.on=o->o<b.length->x.set.getLsbD o=true->(nd b o).op=10->(∀n:Nat,(gN ss j).getLsbD n=true->(m4 l b x.set (nd b o).i).getLsbD n=true\/(n:Int)=(nd b o).x)->(∀n:Nat,Us b ss k n↔(∃m,Us b ss j m/\(m:Int)≠(nd b o).x/\lP b x.set (nd b o).i m=n)\/n=o)->AF l b ss k x
  |d (j:Nat):x.fK=7->x.e=0->(l=1\/l=5)->x.fr=[(j:Int)]->j<k->(0<=x.on/\x.on<4)->(∀n:Nat,(gN ss j).getLsbD n=true->(m4 l b x.set x.on).getLsbD n=true)->(∀n:Nat,Us b ss k n↔∃m,Us b ss j m/\lP b x.set x.on m=n)->AF l b ss k x
theorem Q2(hb:fS b) (hk:k<ss.length)(h:jr l b ss k ss[k]):AF l b ss k ss[k]:=by
 obtain⟨x,hx⟩:∃x,x=ss[k]:=⟨_,rfl⟩;have hu:=QP (b:=b) hk;rw[<-hx]at h hu⊢;have hlen:=hb.len;have hbw:∀{i:Int} {n:Nat},0<=i->i<64->((bW i).getLsbD n=true↔(n:Int)=i):=λh1 h2=>rN ⟨h1,h2⟩;have hp0:∀{j:Nat} {fs:ar},j<k->x.fr=(j:Int)::fs->(lh b ss k).getD (x.fr.getD 0 0).toNat 0#64=xv b ss j:=λhj e=>by
  rw[e];exact uN hj (Nat.le_of_lt hk)
 have hp1:∀{j i:Nat},i<k->x.fr=[(j:Int),(i:Int)]->(lh b ss k).getD (x.fr.getD 1 0).toNat 0#64=xv b ss i:=λhj e=>by
  rw[e];exact uN hj (Nat.le_of_lt hk)
 rcases h.2 with⟨h1,h2,h3⟩|⟨h1,h2,h3,h4⟩|⟨h1,h2,h3,h4⟩|⟨h1,h2,h3,h4,h5⟩|⟨h1,h2,h3,h4,h5⟩|⟨h1,h2,h3,h4⟩|⟨h1,h2,h3,h4,h5⟩;unfold qe at hu;rw[if_pos h1]at hu;rcases h3 with⟨h3,h4⟩|⟨h3,h4,h5,h6⟩;obtain⟨o,e1,e2,e3,e4⟩:=h3.nat hb;rw[if_pos e4]at hu;rw[e1]at e4;exact .O7 o h1 h2 e1 e2 e3 e4 (λn=>by unfold Us;rw[hu,e1,hbw aH aH];omega);obtain⟨o,e1,e2,e3⟩:=mF.1 h3;obtain⟨e,f1,f2,f3⟩:=mF.1 h5;have ho:o<b.length:=aH;obtain⟨j,g1,g2,g3⟩:=BW (b:=b) (i:=x.on) aH;have hje:j=e:=aH;subst hje;by_cases h2':(nd b x.on).op=2;rw[if_pos h2']at hu;rw[e1]at h2';exact .O7 o h1 h2 e1 ho e3 h2' (λn=>by unfold Us;rw[hu,e1,hbw aH aH];omega);rw[if_neg h2']at hu;rw[e1]at h2' g3 g1;refine .neg o j h1 h2 e1 ho e3 h2' f1 g2 f3 g1 (by rw[g3];rfl) (λn=>?_);unfold Us;rw[hu,jt,e1,f1,hbw aH aH,hbw aH aH];omega;obtain⟨o,e1,e2,e3,e4⟩:=h3.nat hb;obtain⟨j,f1,f2,f3⟩:=h4.one;rw[e1]at e4 f3;have hx1:=hb.x e2 aH;have hy1:=hb.y e2 aH;unfold qe at hu;rw[if_neg aH,if_neg aH,if_neg aH,if_pos h1,hp0 f2 f1,e1]at hu;refine .and o j h1 h2 f1 f2 e1 e2 e3 e4 (λn hn=>?_) (λn=>?_);have:=f3 n hn;rw[jt,jt,hbw aH aH,hbw aH aH]at this;rcases this with(h|h)|h;exact .inl h;exact .inr (.inl h);exact .inr (.inr h);unfold Us;rw[hu,jt,nm,jt,hbw aH aH,hbw aH aH,hbw aH aH,not_or];exact or_congr Iff.rfl aH;obtain⟨o,e1,e2,e3,e4⟩:=h3.nat hb;obtain⟨j,i,f1,f2,f3,f4,f5⟩:=h4.two;rw[e1]at e4 f4 f5;have hx1:=hb.x e2 aH;have hy1:=hb.y e2 aH;unfold qe at hu
 rw[if_neg aH,if_neg aH,if_neg aH,if_neg aH,if_pos h1,hp0 f2 f1,hp1 f3 f1,e1]at hu;refine .or o j i h1 h2 f1 f2 f3 e1 e2 e3 e4 (λn hn=>?_) (λn hn=>?_) (λn=>?_);have:=f4 n hn;rwa[jt,hbw aH aH]at this;have:=f5 n hn;rwa[jt,hbw aH aH]at this;unfold Us;rw[hu,jt,jt,nm,nm,hbw aH aH,hbw aH aH,hbw aH aH,or_assoc];exact or_congr Iff.rfl (or_congr Iff.rfl aH);obtain⟨j,i,f1,f2,f3,f4,f5⟩:=h5.two;obtain⟨e,g1,g2,g3⟩:=BW (b:=b) (i:=x.on) aH;obtain⟨o,e1⟩:∃o:Nat,x.on=o:=⟨x.on.toNat,aH⟩;have ee:x.e=e:=aH;rw[e1]at h2 h4 f4 g1 g3;rw[ee]at f5;unfold qe at hu;rw[if_neg aH,if_pos h1,hp0 f2 f1,hp1 f3 f1,e1,ee]at hu;refine .cut o e j i h1 f1 f2 f3 e1 aH ee g2 g1 (by rw[g3];rfl) (λn hn=>?_) (λn hn=>?_) (λn=>?_);have:=f4 n hn;rw[jt,hbw aH aH]at this;exact this.imp id (λh=>aH);have:=f5 n hn;rw[jt,hbw aH aH]at this;exact this.imp id (λh=>aH);unfold Us;rw[hu,jt,nm,nm,hbw aH aH,hbw aH aH];exact or_congr (and_congr Iff.rfl aH) (and_congr Iff.rfl aH);obtain⟨o,e1,e2,e3,e4⟩:=h4.nat hb;obtain⟨j,f1,f2,f3⟩:=h5.one;rw[e1]at e4 f3;have hx1:=hb.x e2 aH;unfold qe at hu;rw[if_neg aH,if_neg aH,if_neg aH,if_neg aH,if_neg aH,if_pos h1,hp0 f2 f1,e1]at hu;refine .t o j h1 h2 h3 f1 f2 e1 e2 e3 e4 (λn hn=>?_) (λn=>?_);have:=f3 n hn;rwa[jt,hbw aH aH]at this;unfold Us;rw[hu,jt,nm,hbw aH aH,hbw aH aH];exact or_congr Iff.rfl aH;obtain⟨o,e1,e2,e3,e4⟩:=h3.nat hb;obtain⟨j,f1,f2,f3⟩:=h4.one;rw[e1]at e4 f3;have hx1:=hb.x e2 aH;unfold qe at hu
 rw[if_neg aH,if_neg aH,if_neg aH,if_neg aH,if_neg aH,if_neg aH,hp0 f2 f1,e1]at hu;refine .k o j h1 h2 f1 f2 e1 e2 e3 e4 (λn hn=>?_) (λn=>?_);have:=f3 n hn;rw[jt,hbw aH aH]at this;exact this.symm;unfold Us;rw[hu,jt,C6 hlen,hbw aH aH];refine or_congr (exists_congr λm=>?_) aH;rw[nm,hbw aH aH];exact and_assoc;obtain⟨j,f1,f2,f3⟩:=h5.one;unfold qe at hu;rw[if_neg aH,if_neg aH,if_pos h1,hp0 f2 f1]at hu;refine .d j h1 h2 h3 f1 f2 h4 f3 (λn=>?_);unfold Us;rw[hu,C6 hlen]
theorem jx{j:Nat}(hj:j<ss.length):gN ss j=ss[j].set:=by simp[gN,hj]
structure kQ (l:Int) (b:List NV) (ss:List SD):Prop where
  log:0<=l/\l<=6
  base:fS b
  pos:0<ss.length
  len:ss.length<=4096
  rf:∀(k:Nat) (hk:k<ss.length),jr l b ss k ss[k]
theorem qK:Aj l b ss=0↔kQ l b ss:=by
 rw[Kf];exact⟨λ⟨h1,⟨h2,h3,h4⟩,⟨h5,h6⟩,h7⟩=>⟨h1,⟨h2,h3,h4⟩,h5,h6,h7⟩,λh=>⟨h.log,⟨h.base.qA,h.base.len,h.base.TW⟩,⟨h.pos,h.len⟩,h.rf⟩⟩
theorem kQ.P8(h:kQ l b ss) (hk:k<ss.length):AF l b ss k ss[k]:=Q2 h.base hk (h.rf k hk)
theorem J5(hb:fS b){s:fi}{ag:Int}{n:Nat}(hn:(m4 l b s ag).getLsbD n=true):s.getLsbD (lP b s ag n)=true:=by
 rcases lO (b:=b) (s:=s) (ag:=ag) (n:=n)with⟨i,h1,h2,h3,_⟩|⟨h1,h2⟩;rw[h1];exact h3;rw[h1];obtain⟨i,g1,g2,g3,g4⟩:=(oz hb).1 hn;rcases g4 with⟨g4,g5⟩|⟨g4,g5⟩;exact absurd g5 (h2 i g1 g2 g4 g3);rw[g4];exact g2
theorem kQ.sub(h:kQ l b ss):∀(k:Nat) (hk:k<ss.length) (n:Nat),Us b ss k n->ss[k].set.getLsbD n=true:=by
 intro k
 induction k using Nat.strongRecOn with
 |_ k ih=>
 intro hk n hn;have ihS:∀(j:Nat),j<k->∀m,Us b ss j m->(gN ss j).getLsbD m=true:=λj hj m hm=>by
  rw[jx aH];exact ih j hj aH m hm
 cases h.P8 hk with
 |O7 o h1 h2 h3 h4 h5 h6 h7=>rw[(h7 n).1 hn];exact h5
 |neg o e h1 h2 h3 h4 h5 h6 h7 h8 h9 h10 h11 h12=>
  rcases(h12 n).1 hn with e|e;rw[e];exact h5;rw[e];exact h9
 |and o j h1 h2 h3 h4 h5 h6 h7 h8 h9 h10=>
  rcases(h10 n).1 hn with⟨e1,e2,e3⟩|e;rcases h9 n (ihS j h4 n e1)with g|g|g;exact g;exact absurd g e2;exact absurd g e3;rw[e];exact h7
 |or o j i h1 h2 h3 h4 h5 h6 h7 h8 h9 h10 h11 h12=>
  rcases(h12 n).1 hn with⟨e1,e2⟩|⟨e1,e2⟩|e;exact(h10 n (ihS j h4 n e1)).resolve_right e2;exact(h11 n (ihS i h5 n e1)).resolve_right e2;rw[e];exact h8
 |cut o e j i h1 h2 h3 h4 h5 h6 h7 h8 h9 h10 h11 h12 h13=>
  rcases(h13 n).1 hn with⟨e1,e2⟩|⟨e1,e2⟩;exact(h11 n (ihS j h3 n e1)).resolve_right e2;exact(h12 n (ihS i h4 n e1)).resolve_right e2
 |t o j h1 h2 h3 h4 h5 h6 h7 h8 h9 h10 h11=>
  rcases(h11 n).1 hn with⟨e1,e2⟩|e;exact(h10 n (ihS j h5 n e1)).resolve_right e2;rw[e];exact h8
 |k o j h1 h2 h3 h4 h5 h6 h7 h8 h9 h10=>
  rcases(h10 n).1 hn with⟨m,e1,e2,e3⟩|e;rw[<-e3];exact J5 h.base ((h9 m (ihS j h4 m e1)).resolve_right e2);rw[e];exact h7
 |d j h1 h2 h3 h4 h5 h6 h7 h8=>
  obtain⟨m,e1,e2⟩:=(h8 n).1 hn;rw[<-e2];exact J5 h.base (h7 m (ihS j h5 m e1))
theorem xN:(jD b ss).length=gq (iS ss) ss.length:=sr (eR _)
theorem BC (hk:k<ss.length)(hn:iS ss k=true):∃hc:gq (iS ss) k<(jD b ss).length,(jD b ss)[gq (iS ss) k]=m7 b ss k ss[k]:=by
 have:=Gq (b:=b) hn (eR _) hk hk;exact bB.1 this
theorem ES{q:Nat}(hq:q<(jD b ss).length):∃(k:Nat) (hk:k<ss.length),iS ss k=true/\gq (iS ss) k=q/\(jD b ss)[q]=m7 b ss k ss[k]:=by
 rw[xN]at hq;obtain⟨k,h1,h2,h3⟩:=Mj hq;subst h3;exact⟨k,h1,h2,rfl,(BC h1 h2).2⟩
theorem BF (hk:k<ss.length)(hn:iS ss k=true):gN (jD b ss) (gq (iS ss) k:Nat)=xv b ss k:=by
 obtain⟨h1,h2⟩:=BC (b:=b) hk hn;rw[jx h1,h2];rfl
theorem kQ.pre(h:kQ l b ss){j:Nat}(hk:k<ss.length)(hn:iS ss k=true)(hj:(j:Int)∈ss[k].fr):iS ss j=true/\j<k/\gq (iS ss) j<gq (iS ss) k:=by
 have h1:iS ss j=true:=me.2 (.fr hk (me.1 hn) hj);have h2:=(h.rf k hk).uc hj;exact⟨h1,aH,HF aH h1⟩
theorem Ms(hb:fS b){s u:fi}{ag:Int}{n:Nat}(hn:(m4 l b s ag).getLsbD n=true)(hu:u.getLsbD (lP b s ag n)=true):(m4 l b u ag).getLsbD n=true:=by
 rw[oz hb];rcases lO (b:=b) (s:=s) (ag:=ag) (n:=n)with⟨j,g1,g2,g3,g4,g5,g6,g7⟩|⟨g1,g2⟩;rw[g1]at hu;exact⟨j,g2,hu,g5,.inl ⟨g4,g6⟩⟩;rw[g1]at hu;obtain⟨i,k1,k2,k3,k4⟩:=(oz hb).1 hn;rcases k4 with⟨k4,k5⟩|⟨k4,k5⟩;exact absurd k5 (g2 i k1 k2 k4 k3);subst k4;exact⟨n,k1,hu,k3,.inr ⟨rfl,k5⟩⟩
theorem kQ.QV(h:kQ l b ss) (hk:k<ss.length)(hn:iS ss k=true):jr l b (jD b ss) (gq (iS ss) k) (m7 b ss k ss[k]):=by
 have hb:=h.base;have hlen:=hb.len;have hbw:∀{i:Int} {n:Nat},0<=i->i<64->((bW i).getLsbD n=true↔(n:Int)=i):=λh1 h2=>rN ⟨h1,h2⟩;have hsub:=h.sub k hk;have hsb:∀(j:Nat),(j:Int)∈ss[k].fr->∀m,Us b ss j m->(gN ss j).getLsbD m=true:=λj hj m hm=>by
  have:=(h.pre hk hn hj).2.1;rw[jx aH];exact h.sub j aH m hm
 have hset:∀(j:Nat),(j:Int)∈ss[k].fr->gN (jD b ss) (gq (iS ss) j:Nat)=xv b ss j:=λj hj=>
  BF (by have:=(h.pre hk hn hj).2.1;omega) (h.pre hk hn hj).1;refine⟨λn hn=>(h.rf k hk).1 n (hsub n hn),?_⟩;have hin:∀{o:Nat},Us b ss k o->ga (m7 b ss k ss[k]).set o=true:=λh=>sH.2 h;cases h.P8 hk with
 |O7 o h1 h2 h3 h4 h5 h6 h7=>
  have e0:(nd b ss[k].on).op=2:=by rw[h3];exact h6
  refine .inl ⟨h1,by simp[m7,h2],.inl ⟨⟨by show ss[k].on<_;omega,by show ga _ ss[k].on=true;rw[h3];exact hin ((h7 o).2 rfl),e0⟩,?_⟩⟩;show(if _ then _ else _)=_;rw[if_pos ⟨h1,e0⟩]
 |neg o e h1 h2 h3 h4 h5 h6 h7 h8 h9 h10 h11 h12=>
  have e0:¬(nd b ss[k].on).op=2:=by rw[h3];exact h6
  have ee:(m7 b ss k ss[k]).e=e:=by
   show(if _ then _ else _)=_;rw[if_neg (λh=>e0 h.2)];exact h7
  have eo:(m7 b ss k ss[k]).on=o:=h3;refine .inl ⟨h1,by simp[m7,h2],.inr ⟨?_,?_,?_,?_⟩⟩;rw[eo];exact hin ((h12 o).2 (.inl rfl));rw[eo];omega;rw[ee];exact hin ((h12 e).2 (.inr rfl));rw[eo,ee];exact h10
 |and o j h1 h2 h3 h4 h5 h6 h7 h8 h9 h10=>
  have hm:(j:Int)∈ss[k].fr:=by rw[h3];exact dn.2 rfl
  have ee:(m7 b ss k ss[k]).e=0:=by show(if _ then _ else _)=_;rw[if_neg aH];exact h2
  have eo:(m7 b ss k ss[k]).on=o:=h5;have ef:(m7 b ss k ss[k]).fr=[((gq (iS ss) j:Nat):Int)]:=by simp[m7,h3]
  have hx1:=hb.x h6 aH;have hy1:=hb.y h6 aH;refine .inr (.inl ⟨h1,ee,⟨by rw[eo];omega,by rw[eo];exact hin ((h10 o).2 (.inr rfl)),by rw[eo];exact h8⟩,?_⟩);rw[ef,eo];refine sZ (h.pre hk hn hm).2.2 (λn hn=>?_);rw[hset j hm]at hn;rw[jt,jt,hbw aH aH,hbw aH aH];by_cases c1:(n:Int)=(nd b o).x;exact .inl (.inr c1);by_cases c2:(n:Int)=(nd b o).y;exact .inr c2;exact .inl (.inl ((h10 n).2 (.inl ⟨hn,c1,c2⟩)))
 |or o j i h1 h2 h3 h4 h5 h6 h7 h8 h9 h10 h11 h12=>
  have hm:(j:Int)∈ss[k].fr:=by rw[h3];simp
  have hm2:(i:Int)∈ss[k].fr:=by rw[h3];simp
  have ee:(m7 b ss k ss[k]).e=0:=by show(if _ then _ else _)=_;rw[if_neg aH];exact h2
  have eo:(m7 b ss k ss[k]).on=o:=h6;have ef:(m7 b ss k ss[k]).fr=[((gq (iS ss) j:Nat):Int),((gq (iS ss) i:Nat):Int)]:=by simp[m7,h3]
  have hx1:=hb.x h7 aH;have hy1:=hb.y h7 aH;refine .inr (.inr (.inl ⟨h1,ee,⟨by rw[eo];omega,by rw[eo];exact hin ((h12 o).2 (.inr (.inr rfl))),by rw[eo];exact h9⟩,?_⟩));rw[ef,eo];refine Ez (h.pre hk hn hm).2.2 (h.pre hk hn hm2).2.2 (λn hn=>?_) (λn hn=>?_);rw[hset j hm]at hn;rw[jt,hbw aH aH];by_cases c1:(n:Int)=(nd b o).x;exact .inr c1;exact .inl ((h12 n).2 (.inl ⟨hn,c1⟩));rw[hset i hm2]at hn;rw[jt,hbw aH aH];by_cases c1:(n:Int)=(nd b o).y;exact .inr c1;exact .inl ((h12 n).2 (.inr (.inl ⟨hn,c1⟩)))
 |cut o e j i h1 h2 h3 h4 h5 h6 h7 h8 h9 h10 h11 h12 h13=>
  have hm:(j:Int)∈ss[k].fr:=by rw[h2];simp
  have hm2:(i:Int)∈ss[k].fr:=by rw[h2];simp
  have ee:(m7 b ss k ss[k]).e=e:=by show(if _ then _ else _)=_;rw[if_neg aH];exact h7
  have eo:(m7 b ss k ss[k]).on=o:=h5;have ef:(m7 b ss k ss[k]).fr=[((gq (iS ss) j:Nat):Int),((gq (iS ss) i:Nat):Int)]:=by simp[m7,h2]
  refine .inr (.inr (.inr (.inl ⟨h1,by rw[eo];omega,by rw[ee];omega,by rw[eo,ee];exact h9,?_⟩)));rw[ef,eo,ee];refine Ez (h.pre hk hn hm).2.2 (h.pre hk hn hm2).2.2 (λn hn=>?_) (λn hn=>?_);rw[hset j hm]at hn;rw[jt,hbw aH aH];by_cases c1:n=o;exact .inr aH;exact .inl ((h13 n).2 (.inl ⟨hn,c1⟩));rw[hset i hm2]at hn;rw[jt,hbw aH aH];by_cases c1:n=e;exact .inr aH;exact .inl ((h13 n).2 (.inr ⟨hn,c1⟩))
 |t o j h1 h2 h3 h4 h5 h6 h7 h8 h9 h10 h11=>
  have hm:(j:Int)∈ss[k].fr:=by rw[h4];exact dn.2 rfl
  have ee:(m7 b ss k ss[k]).e=0:=by show(if _ then _ else _)=_;rw[if_neg aH];exact h2
  have eo:(m7 b ss k ss[k]).on=o:=h6;have ef:(m7 b ss k ss[k]).fr=[((gq (iS ss) j:Nat):Int)]:=by simp[m7,h4]
  have hx1:=hb.x h7 aH;refine .inr (.inr (.inr (.inr (.inl ⟨h1,ee,h3,⟨by rw[eo];omega,by rw[eo];exact hin ((h11 o).2 (.inr rfl)),by rw[eo];exact h9⟩,?_⟩))));rw[ef,eo];refine sZ (h.pre hk hn hm).2.2 (λn hn=>?_);rw[hset j hm]at hn;rw[jt,hbw aH aH];by_cases c1:(n:Int)=(nd b o).x;exact .inr c1;exact .inl ((h11 n).2 (.inl ⟨hn,c1⟩))
 |k o j h1 h2 h3 h4 h5 h6 h7 h8 h9 h10=>
  have hm:(j:Int)∈ss[k].fr:=by rw[h3];exact dn.2 rfl
  have ee:(m7 b ss k ss[k]).e=0:=by show(if _ then _ else _)=_;rw[if_neg aH];exact h2
  have eo:(m7 b ss k ss[k]).on=o:=h5;have ef:(m7 b ss k ss[k]).fr=[((gq (iS ss) j:Nat):Int)]:=by simp[m7,h3]
  have hx1:=hb.x h6 aH;refine .inr (.inr (.inr (.inr (.inr (.inl ⟨h1,ee,⟨by rw[eo];omega,by rw[eo];exact hin ((h10 o).2 (.inr rfl)),by rw[eo];exact h8⟩,?_⟩)))));rw[ef,eo];refine sZ (h.pre hk hn hm).2.2 (λn hn=>?_);rw[hset j hm]at hn;rw[jt,hbw aH aH];by_cases c1:(n:Int)=(nd b o).x;exact .inl c1;exact .inr (Ms hb ((h9 n (hsb j hm n hn)).resolve_right c1) ((h10 _).2 (.inl ⟨n,hn,c1,rfl⟩)))
 |d j h1 h2 h3 h4 h5 h6 h7 h8=>
  have hm:(j:Int)∈ss[k].fr:=by rw[h4];exact dn.2 rfl
  have ee:(m7 b ss k ss[k]).e=0:=by show(if _ then _ else _)=_;rw[if_neg aH];exact h2
  have ef:(m7 b ss k ss[k]).fr=[((gq (iS ss) j:Nat):Int)]:=by simp[m7,h4]
  refine .inr (.inr (.inr (.inr (.inr (.inr ⟨h1,ee,h3,h6,?_⟩)))));rw[ef];refine sZ (h.pre hk hn hm).2.2 (λn hn=>?_);rw[hset j hm]at hn;exact Ms hb (h7 n (hsb j hm n hn)) ((h8 _).2 ⟨n,hn,rfl⟩)
theorem kQ.tr(h:kQ l b ss):kQ l b (jD b ss):=by
 have hlast:iS ss (ss.length - 1)=true:=me.2 (.last (by have:=h.pos;omega));refine⟨h.log,h.base,?_,?_,λq hq=>?_⟩;obtain⟨h1,_⟩:=BC (b:=b) (k:=ss.length - 1) (by have:=h.pos;omega) hlast;omega;rw[xN];have:=yn (p:=iS ss) (k:=ss.length);have:=h.len;omega;obtain⟨k,hk,h1,h2,h3⟩:=ES hq;rw[h3,<-h2];exact h.QV hk h1
end
end
structure TC where
  l:Int
  b:List NV
  ng:ar
  ag:fi
structure TS where
  ss:List SD
  op:List fi
def TC.has(c:TC)(s:fi)(i:Nat):Bool:=decide (i<c.b.length) && ga s i
def TC.GG(c:TC):Bool:=c.l==2||c.l==4||c.l==6
def TC.cut(c:TC):Bool:=c.l==5||c.l==6
def TC.n(c:TC)(i:Nat):NV:=nd c.b i
def TC.m(c:TC)(i:Nat):Int:=c.ng.getD i (-1)
def og(c:TC)(s:fi):Option SD:=
 (List.range c.b.length).findSome? λ(i:Nat)=>
  if ga s i=true then
   if (c.n i).op=2 then some ⟨s,1,i,0,[]⟩
   else if ga s (c.m i)=true then some ⟨s,1,i,c.m i,[]⟩else none
  else none
def lD(c:TC)(s:fi):Option (SD×List fi):=
 match (List.range c.b.length).findSome? (λ(i:Nat)=>
   let x:=bW (c.n i).x;let y:=bW (c.n i).y
   if ga s i=true/\(c.n i).op=5/\s &&& (x|||y)≠x|||y then some (SD.mk s 2 i 0 [],[s|||x|||y])
   else if ga s i=true/\(c.n i).op=9/\c.GG=true/\s &&& x=0#64 then some (SD.mk s 5 i 0 [],[s|||x])else none)with
 |some r=>some r
 |none=>(List.range c.b.length).findSome? (λ(i:Nat)=>
   let x:=bW (c.n i).x;let y:=bW (c.n i).y
   if ga s i=true/\(c.n i).op=6/\s &&& (x|||y)=0#64 then some (SD.mk s 3 i 0 [],[s|||x,s|||y])
   else if c.cut=true/\(c.n i).op=9/\ga s i=false/\ga s (c.m i)=false then some (SD.mk s 4 i (c.m i) [],[s|||bW i,s|||bW (c.m i)])else none)
def jP(c:TC)(s:fi):List (SD×fi):=
 ((List.range c.b.length).filterMap λ(i:Nat)=>if ga s i=true/\(c.n i).op=10 then some (SD.mk s 6 i 0 [],bW (c.n i).x|||m4 c.l c.b s (c.n i).i)else none)++
 ((List.range 4).filterMap λ(a:Nat)=>if c.ag.getLsbD a=true/\(c.l=1\/c.l=5)then some (SD.mk s 7 a 0 [],m4 c.l c.b s a)else none)
def pN(rec:TS->fi->Option ((Int×Int)×TS)):List fi->ar->TS->Option ((Sum Int ar)×TS)
 |[],fr,σ=>some (.inr fr,σ)
 |x::xs,fr,σ=>match rec σ x with
  |none=>none
  |some ((n,low),σ1)=>if n<0 then some (.inl low,σ1)else pN rec xs (fr++[n]) σ1
def pD(rec:TS->fi->Option ((Int×Int)×TS)):List (SD×fi)->Int->TS->Option ((Sum Int SD)×TS)
 |[],low,σ=>some (.inl low,σ)
 |(y,x)::xs,low,σ=>match rec σ x with
  |none=>none
  |some ((n,lw),σ1)=>if 0<=n then some (.inr {y with fr:=[n]},σ1)else pD rec xs (min low lw) σ1
def jH(c:TC)(rec:TS->fi->Option ((Int×Int)×TS))(d:Nat)(s:fi)(σ:TS):Option ((Int×Int)×TS):=
 match lD c s with
 |some (y,xs)=>match pN rec xs [] σ with
  |none=>none
  |some (.inl low,σ1)=>some ((-1,low),σ1)
  |some (.inr fr,σ1)=>some (((σ1.ss.length:Int),(d:Int)),⟨σ1.ss++[{y with fr:=fr}],σ1.op⟩)
 |none=>match pD rec (jP c s) (d+1) σ with
  |none=>none
  |some (.inl low,σ1)=>some ((-1,low),σ1)
  |some (.inr y,σ1)=>some (((σ1.ss.length:Int),(d:Int)),⟨σ1.ss++[y],σ1.op⟩)
def pg(ss:List SD)(s:fi):ah:=ss.findIdx? (λx=>x.set==s)
def ie(c:TC):Nat->List fi->TS->fi->Option ((Int×Int)×TS)
 |0,_,_,_=>none
 |k+1,path,σ,s=>
  match pg σ.ss s with
  |some n=>some (((n:Int),(path.length:Int)),σ)
  |none=>if s∈σ.op then some ((-1,(path.length:Int)),σ)else
   match path.findIdx? (·==s)with
   |some at_=>some ((-1,(at_:Int)),σ)
   |none=>match og c s with
    |some y=>some (((σ.ss.length:Int),(path.length:Int)),⟨σ.ss++[y],σ.op⟩)
    |none=>match jH c (ie c k (path++[s])) path.length s σ with
     |none=>none
     |some ((n,low),σ1)=>some ((n,low),if n<0/\(path.length:Int)<=low then⟨σ1.ss,σ1.op++[s]⟩else σ1)
section
variable{c:TC}{r r':TS->fi->Option ((Int×Int)×TS)}
end
structure CG (c:TC):Prop where
  log:0<=c.l/\c.l<=6
  base:fS c.b
  ng:∀i,i<c.b.length->c.m i=kU c.b i
  kn:∀i,i<c.b.length->(c.n i).op=9->0<=c.m i/\c.m i<c.b.length
structure rP (c:TC) (ss:List SD):Prop where
  rf:∀(k:Nat) (hk:k<ss.length),jr c.l c.b ss k ss[k]
  nd:(ss.map SD.set).Nodup
section
variable{l:Int}{b:List NV}{ss ys:List SD}
theorem u0{k:Int}(h:k.toNat<ss.length):gN (ss++ys) k=gN ss k:=by
 unfold gN;rw[ec,aY,aY,bu (by simpa using h)]
theorem pe:∀{fs:ar} {us:List fi} {k:Nat},k<=ss.length->kV ss k fs us->kV (ss++ys) k fs us
 |[],[],_,_,_=>eZ
 |f::fs,u::us,k,hk,h=>⟨⟨h.1.1,by rw[u0 (by have:=h.1.1;omega)];exact h.1.2⟩,pe hk h.2⟩
 |[],_::_,_,_,h=>h.elim
 |_::_,[],_,_,h=>h.elim
theorem Ea{k:Nat}{x:SD}(hk:k<=ss.length)(h:jr l b ss k x):jr l b (ss++ys) k x:=by
 refine⟨h.1,?_⟩;rcases h.2 with h|⟨a,b1,c,d⟩|⟨a,b1,c,d⟩|⟨a,b1,c,d,e⟩|⟨a,b1,c,d,e⟩|⟨a,b1,c,d⟩|⟨a,b1,c,d,e⟩;exact .inl h;exact .inr (.inl ⟨a,b1,c,pe hk d⟩);exact .inr (.inr (.inl ⟨a,b1,c,pe hk d⟩));exact .inr (.inr (.inr (.inl ⟨a,b1,c,d,pe hk e⟩)));exact .inr (.inr (.inr (.inr (.inl ⟨a,b1,c,d,pe hk e⟩))));exact .inr (.inr (.inr (.inr (.inr (.inl ⟨a,b1,c,pe hk d⟩)))));exact .inr (.inr (.inr (.inr (.inr (.inr ⟨a,b1,c,d,pe hk e⟩)))))
end
theorem rP.add{c:TC}{ss:List SD}(h:rP c ss){x:SD}(hx:jr c.l c.b ss ss.length x)(hn:∀y∈ss,y.set≠x.set):rP c (ss++[x]):=by
 refine⟨λk hk=>?_,?_⟩;by_cases e:k<ss.length;rw[bK e];exact Ea aH (h.rf k e);have:k=ss.length:=by simp at hk;omega
 subst this;rw[bC (eR _)];simp only[eO,List.getElem_cons_zero];exact Ea (eR _) hx;rw[ec,dC];refine⟨h.nd,by simp,λa ha b' hb=>?_⟩;obtain⟨y,hy,rfl⟩:=eL.1 ha;simp only[eG,List.map_nil,dn]at hb;subst hb;exact hn y hy
def CL(ss:List SD):ar->List fi->Prop
 |[],[]=>True
 |n::ns,x::xs=>(0<=n/\n<ss.length/\gN ss n=x)/\CL ss ns xs
 |_,_=>False
theorem CL.app{ss ys:List SD}:∀{ns:ar} {xs:List fi},CL ss ns xs->CL (ss++ys) ns xs
 |[],[],_=>eZ
 |n::ns,x::xs,h=>⟨⟨h.1.1,by have:=h.1.2.1;simp;omega,by rw[u0 (by have:=h.1;omega)];exact h.1.2.2⟩,CL.app h.2⟩
 |[],_::_,h=>h.elim
 |_::_,[],h=>h.elim
theorem CL.snoc{ss:List SD}{n:Int}{x:fi}(hx:0<=n/\n<ss.length/\gN ss n=x):∀{ns:ar} {xs:List fi},CL ss ns xs->CL ss (ns++[n]) (xs++[x])
 |[],[],_=>⟨hx,eZ⟩
 |_::_,_::_,h=>⟨h.1,CL.snoc hx h.2⟩
 |[],_::_,h=>h.elim
 |_::_,[],h=>h.elim
theorem CL.pre{ss:List SD}:∀{ns:ar} {xs:List fi},CL ss ns xs->kV ss ss.length ns xs
 |[],[],_=>eZ
 |n::ns,x::xs,h=>⟨⟨⟨h.1.1,h.1.2.1⟩,by rw[h.1.2.2];simp⟩,CL.pre h.2⟩
 |[],_::_,h=>h.elim
 |_::_,[],h=>h.elim
structure Kept (c:TC) (path:List fi) (σ σ1:TS):Prop where
  ok:rP c σ1.ss
  ext:∃ys:List SD,σ1.ss=σ.ss++ys/\∀y∈ys,y.set∉path
theorem Kept.refl{c:TC}{path:List fi}{σ:TS}(h:rP c σ.ss):Kept c path σ σ:=⟨h,[],by simp,by simp⟩
theorem Kept.trans{c:TC}{path:List fi}{σ σ1 σ2:TS}(h:Kept c path σ σ1)(h2:Kept c path σ1 σ2):Kept c path σ σ2:=by
 obtain⟨ys,e1,h1⟩:=h.ext;obtain⟨zs,e2,h3⟩:=h2.ext;exact⟨h2.ok,ys++zs,by rw[e2,e1,dA],λy hy=>(ed.1 hy).elim (h1 y) (h3 y)⟩
def WX(ss:List SD)(n:Int)(s:fi):Prop:=n=-1\/(0<=n/\n<ss.length/\gN ss n=s)
abbrev Bt(c:TC)(path:List fi)(r:TS->fi->Option ((Int×Int)×TS)):Prop:=
 ∀σ s n low σ1,rP c σ.ss->jw c.b s->r σ s=some ((n,low),σ1)->Kept c path σ σ1/\WX σ1.ss n s
section
variable{c:TC}{path:List fi}{r:TS->fi->Option ((Int×Int)×TS)}
theorem H6(hr:Bt c path r):∀{xs done:List fi} {fr:ar} {σ σ1:TS} {z},rP c σ.ss->(∀x∈xs,jw c.b x)->CL σ.ss fr done->pN r xs fr σ=some (z,σ1)->
  Kept c path σ σ1/\∀fs,z=.inr fs->CL σ1.ss fs (done++xs)
 |[],done,fr,σ,σ1,z,h,_,hg,e=>by
  unfold pN at e;cases e;exact⟨.refl h,λfs e=>by cases e;simpa using hg⟩
 |x::xs,done,fr,σ,σ1,z,h,hx,hg,e=>by
  unfold pN at e;cases e1:r σ x with
  |none=>rw[e1]at e;cases e
  |some q=>
   obtain⟨⟨n,low⟩,σ2⟩:=q;rw[e1]at e;simp only at e;obtain⟨k1,a1⟩:=hr _ _ _ _ _ h (hx x aF) e1;by_cases hn:n<0;rw[if_pos hn]at e;cases e;exact⟨k1,λfs e=>by cases e⟩;rw[if_neg hn]at e;obtain⟨ys,ey,_⟩:=k1.ext;have hg2:CL σ2.ss (fr++[n]) (done++[x]):=by
    rcases a1 with a1|a1;omega;exact CL.snoc a1 (by rw[ey];exact hg.app)
   obtain⟨k2,a2⟩:=H6 hr k1.ok (λy hy=>hx y (cM _ hy)) hg2 e;exact⟨k1.trans k2,λfs e=>by have:=a2 fs e;simpa using this⟩
theorem HZ(hr:Bt c path r):∀{xs:List (SD×fi)} {low:Int} {σ σ1:TS} {z},rP c σ.ss->(∀x∈xs,jw c.b x.2)->pD r xs low σ=some (z,σ1)->
  Kept c path σ σ1/\∀y,z=.inr y->∃y0 n x,(y0,x)∈xs/\y={y0 with fr:=[n]}/\CL σ1.ss [n] [x]
 |[],low,σ,σ1,z,h,_,e=>by
  unfold pD at e;cases e;exact⟨.refl h,λy e=>by cases e⟩
 |(y0,x)::xs,low,σ,σ1,z,h,hx,e=>by
  unfold pD at e;cases e1:r σ x with
  |none=>rw[e1]at e;cases e
  |some q=>
   obtain⟨⟨n,lw⟩,σ2⟩:=q;rw[e1]at e;simp only at e;obtain⟨k1,a1⟩:=hr _ _ _ _ _ h (hx (y0,x) aF) e1;by_cases hn:0<=n;rw[if_pos hn]at e;cases e;refine⟨k1,λy e=>?_⟩;cases e;refine⟨y0,n,x,aF,rfl,?_,eZ⟩;rcases a1 with a1|a1;omega;exact a1;rw[if_neg hn]at e;obtain⟨k2,a2⟩:=HZ hr k1.ok (λy hy=>hx y (cM _ hy)) e;refine⟨k1.trans k2,λy e=>?_⟩;obtain⟨y1,n1,x1,h1,h2,h3⟩:=a2 y e;exact⟨y1,n1,x1,cM _ h1,h2,h3⟩
end
end Go.Proofs.Wit
