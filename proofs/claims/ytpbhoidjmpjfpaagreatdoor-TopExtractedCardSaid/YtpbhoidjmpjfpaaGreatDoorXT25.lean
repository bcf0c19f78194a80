/- Laws of walks, each under its own conditions. -/
import Derived.Test.YtpbhoidjmpjfpaaGreatDoorXT23
set_option maxRecDepth 100000
set_option maxHeartbeats 40000000
namespace Go.Proofs.Wit
open Go
structure KM where
  n:Nat
  R:Nat->Nat->Nat->Prop
  V:Nat->Nat->Prop
  lt:∀k w u,w<n->R k w u->u<n
def KM.Gr(M:KM)(g:Nat)(w u:Nat):Prop:=∃k,k<4/\gb g k=1/\M.R k w u
inductive KM.Pb (M:KM) (g:Nat) (c:Nat->Bool):Nat->Nat->Prop
  |one {w u:Nat}:M.Gr g w u->c u=true->KM.Pb M g c w u
  |step {w u v:Nat}:KM.Pb M g c w u->M.Gr g u v->c v=true->KM.Pb M g c w v
section
variable{M:KM}
structure Q1 (M:KM) (l:Int):Prop where
  t:gO l 3=true->∀k w,w<M.n->M.R k w w
  f:gO l 4=true->∀k w u v,w<M.n->M.R k w u->M.R k u v->M.R k w v
  v:gO l 5=true->∀k w u v,w<M.n->M.R k w u->M.R k w v->M.R k u v
  d:gO l 6=true->∀k w,w<M.n->∃u,M.R k w u
end
end Go.Proofs.Wit
namespace Go.Proofs.Wit
open Go Go.RowKit
section
variable{n:Nat}{val:List eF}{rel:List (List eF)}
structure Qs (n:Nat) (val:List eF) (rel:List (List eF)) (f:List NV) (t:Tr):Prop where
  oe:fK f=0
  fit:Nd f rel.length val.length=true
  QU:mz (nH (eE f)) 1=0
  can:eE f=gv t
  top:eP f=t
  hold:M7 (n:Int) val rel f=0
  ok:t.ok
end
end Go.Proofs.Wit
namespace Go.Proofs.Wit
open Go
structure Q4 (n1:Nat) (v1:List eF) (r1:List (List eF)) (n:Nat) (v:List eF) (r:List (List eF)) (e:Nat->Nat):Prop where
  P1:n<=64
  P0:n1<=64
  lt:∀x,x<n1->e x<n
  val:∀i x,x<n1->((v.getD i 0#64).getLsbD (e x)=true↔(v1.getD i 0#64).getLsbD x=true)
  fwd:∀i x y,x<n1->Rl (r1.getD i []) x y->Rl (r.getD i []) (e x) (e y)
  bwd:∀i x z,x<n1->Rl (r.getD i []) (e x) z->∃y,y<n1/\z=e y/\Rl (r1.getD i []) x y
  QN:∀i x y,Rl (r1.getD i []) x y->y<n1
section
variable{n1 n:Nat}{v1 v:List eF}{r1 r:List (List eF)}{e:Nat->Nat}
end
section
variable{na nb:Nat}{va vb:List eF}{ra rb:List (List eF)}
structure QZ (na nb:Nat) (va vb:List eF) (ra rb:List (List eF)):Prop where
  a:NY (na:Int) va ra
  b:NY (nb:Int) vb rb
  rl:ra.length=rb.length
  vl:va.length=vb.length
  le:na+nb<=64
end
end Go.Proofs.Wit
namespace Go.Proofs.Wit
open Go Go.RowKit
section
variable{n:Nat}{val:List eF}{rel:List (List eF)}
theorem Ie{op:Int}(ho:1<=op/\op<=21):mz (B2 op).toNat 11=0↔op<=11\/op=13:=
 zg (p:=λop=>mz (B2 op).toNat 11=0↔op<=11\/op=13) aI ho
theorem ri{f:List NV}:kP f=0↔fK f=0/\kI (λop _ _=>op<=11\/op=13) (eP f):=by
 unfold kP;by_cases h1:fK f=0;rw[if_neg (by simp[h1]),jG h1,<-yi (eO.1 h1).top Ie];constructor;intro h;refine⟨h1,bh (λh2=>?_)⟩;rw[if_pos h2]at h;exact absurd h aI;intro h;rw[if_neg (by simp[h.2])];rw[if_pos h1];exact⟨λh=>absurd h h1,λh=>absurd h.1 h1⟩
end
theorem kH{l:Int}{ls:List LV}:kX l ls=0↔(0<=l/\l<=6)/\0<ls.length/\ls.length<=400/\∀(k:Nat) (hk:k<ls.length),jg l ls k ls[k]=0:=by
 have hs:∀{k:Nat},iz l ls k=0->∀hk:k<ls.length,iz l ls (k+1)=jg l ls k ls[k]:=λ{k} h hk=>by
  show(if iz l ls k≠0 then iz l ls k else match ls[k]? with|some x=>jg l ls k x|none=>0)=_;rw[if_neg (by simp[h]),bH hk]
 have hb:∀{k:Nat},iz l ls k≠0->iz l ls (k+1)=iz l ls k:=λ{k} h=>by
  show(if iz l ls k≠0 then iz l ls k else _)=_;rw[if_pos h]
 have key:∀k,k<=ls.length->(iz l ls k=0↔∀(j:Nat) (hj:j<ls.length),j<k->jg l ls j ls[j]=0):=by
  intro k
  induction k with
  |zero=>exact λ_=>⟨λ_ j _ h=>absurd h (dK _),λ_=>rfl⟩
  |succ k ih=>
   intro hk;have ih:=ih aH;constructor;intro h;have h0:iz l ls k=0:=bh (λhne=>hne (by rw[<-hb hne];exact h));intro j hj hjk;by_cases e:j=k;subst e;rw[<-hs h0 hj];exact h;exact ih.1 h0 j hj aH;intro h;have h0:=ih.2 (λj hj hjk=>h j hj aH);rw[hs h0 aH];exact h k aH aH
 unfold kX;by_cases h1:¬(0<=l/\l<=6);rw[if_pos h1];exact⟨λh=>absurd h aI,λh=>absurd h.1 h1⟩;rw[if_neg h1];by_cases h2:ls.length=0;rw[if_pos h2];exact⟨λh=>absurd h aI,λh=>absurd h.2.1 aH⟩;rw[if_neg h2];by_cases h3:400<ls.length;rw[if_pos h3];exact⟨λh=>absurd h aI,λh=>absurd h.2.2.1 aH⟩;rw[if_neg h3,key _ (dZ _)];exact⟨λh=>⟨Classical.not_not.1 h1,aH,aH,λk hk=>h k hk hk⟩,λh j hj _=>h.2.2.2 j hj⟩
theorem C7{l:Int}{ls:List LV}(h:kX l ls=0)(k:Nat)(hk:k<ls.length):kP ls[k].f.f=0:=by
 have h4:=(kH.1 h).2.2.2 k hk;unfold jg at h4;by_cases h1:kP ls[k].f.f=0;exact h1;rw[if_pos h1]at h4;exact h4
section
variable{k:Nat}{p:Nat->Bool}
structure LD where
  f:List NV
  r:Int
  a:Int
  b:Int
  g:Int
def LV.d(x:LV):LD:=⟨x.f.f,x.r,x.a,x.b,x.g⟩
def LD.v(x:LD):LV:=⟨⟨none,0,x.f⟩,x.r,x.a,x.b,x.g⟩
section
variable{l:Int}{ls ls':List LV}
theorem Ip(h:ls.map LV.d=ls'.map LV.d):ls.length=ls'.length:=by have:=eh List.length h;simpa using this
theorem K6(h:ls.map LV.d=ls'.map LV.d) (hk:k<ls.length)(hk':k<ls'.length):ls[k].d=ls'[k].d:=by
 have h1:(ls.map LV.d)[k]'(by simpa using hk)=(ls'.map LV.d)[k]'(by simpa using hk'):=by simp only[h]
 simpa using h1
theorem HO(h:ls.map LV.d=ls'.map LV.d)(k:Int):yd ls k=yd ls' k:=by
 have e:ls.map (λx=>eP x.f.f)=ls'.map (λx=>eP x.f.f):=by
  have h1:∀l:List LV,l.map (λx=>eP x.f.f)=(l.map LV.d).map (λx=>eP x.f):=λl=>by rw[dT];rfl
  rw[h1,h1,h]
 unfold yd;rw[e]
theorem Gp(h:ls.map LV.d=ls'.map LV.d){x y:LV}(e:x.d=y.d):oo ls x↔oo ls' y:=by
 obtain⟨⟨xa,xc,xf⟩,xr,x1,x2,x3⟩:=x;obtain⟨⟨ya,yc,yf⟩,yr,y1,y2,y3⟩:=y;simp only[LV.d,LD.mk.injEq]at e;obtain⟨rfl,rfl,rfl,rfl,rfl⟩:=e;unfold oo;simp only[HO h]
theorem C9(h:ls.map LV.d=ls'.map LV.d){i:Nat}{x y:LV}(e:x.d=y.d):jg l ls i x=jg l ls' i y:=by
 have h2:=Gp h e;have en:mM i x=mM i y:=by
  obtain⟨⟨xa,xc,xf⟩,xr,x1,x2,x3⟩:=x;obtain⟨⟨ya,yc,yf⟩,yr,y1,y2,y3⟩:=y;simp only[LV.d,LD.mk.injEq]at e;obtain⟨rfl,rfl,rfl,rfl,rfl⟩:=e;rfl
 have ef:x.f.f=y.f.f:=eh LD.f e;have er:x.r=y.r:=eh LD.r e;unfold jg;rw[en,ef,er];by_cases k:oo ls x;rw[if_pos k,if_pos (h2.1 k)];rw[if_neg k,if_neg (λk'=>k (h2.2 k'))]
theorem A8(h:ls.map LV.d=ls'.map LV.d)(h0:kX l ls=0):kX l ls'=0:=by
 obtain⟨h1,h2,h3,h4⟩:=kH.1 h0;have hl:=Ip h;exact kH.2 ⟨h1,aH,aH,λk hk=>by
  have:=h4 k aH;rw[<-C9 h (K6 h aH hk)];exact this⟩
end
theorem oV{l:Int}{ls:List LV}{i:Nat}{x:LV}:jg l ls i x=0↔kP x.f.f=0/\(1<=x.r/\x.r<=12)/\mM i x=0/\gO l x.r=true/\oo ls x:=by
 constructor
 ·intro h
  unfold jg at h;by_cases h1:kP x.f.f=0
  rotate_left
  rw[if_pos h1]at h;exact absurd h h1;rw[if_neg (by simp[h1])]at h;by_cases h2:x.r<1\/12<x.r;rw[if_pos h2]at h;exact absurd h aI;rw[if_neg h2]at h;by_cases h3:mM i x=0
  rotate_left
  rw[if_pos h3]at h;exact absurd h h3;rw[if_neg (by simp[h3])]at h;by_cases h4:gO l x.r=false;rw[if_pos h4]at h;exact absurd h aI;rw[if_neg h4]at h;by_cases h5:oo ls x
  rotate_left
  rw[if_neg h5]at h;exact absurd h aI;exact⟨h1,aH,h3,by simpa using h4,h5⟩
 rintro ⟨h1,h2,h3,h4,h5⟩;exact EK h1 h2 h3 h4 h5
theorem wB{i:Int}{x:LV}(h1:1<=x.r)(h12:x.r<=12):mM i x=0↔¬vB x/\¬vA i x/\0<=x.g/\x.g<4:=by
 constructor;intro h;have k1:¬vB x:=λk=>by rw[Et h1 h12 (.inl k)]at h;exact absurd h aI
 have k2:¬vA i x:=λk=>by rw[Et h1 h12 (.inr k)]at h;exact absurd h aI
 rw[Eu h1 h12 k1 k2]at h;refine⟨k1,k2,?_⟩;by_cases h3:x.g<0\/x.g>=4;rw[if_pos h3]at h;exact absurd h aI;omega;rintro ⟨k1,k2,k3⟩;rw[Eu h1 h12 k1 k2,if_neg aH]
inductive L9 (ls:List LV):Nat->Prop
  |last {k:Nat}:k+1=ls.length->L9 ls k
  |a {k:Nat} (hk:k<ls.length):L9 ls k->10<=ls[k].r->L9 ls ls[k].a.toNat
  |b {k:Nat} (hk:k<ls.length):L9 ls k->ls[k].r=10->L9 ls ls[k].b.toNat
def ff(p:Nat->Bool)(k:Nat):Nat:=((List.range k).filter p).length
theorem jw  :ff p (k+1)=ff p k+(if p k=true then 1 else 0):=by
 unfold ff;rw[dJ,List.filter_append,cQ];cases h:p k<;>simp[h]
theorem sN{p:Nat->Bool}:∀{k:Nat},ff p k<=k
 |0=>dZ _
 |k+1=>by have:=sN (p:=p) (k:=k);rw[jw];split<;>omega
theorem Dp {j:Nat}(h:j<=k):ff p j<=ff p k:=by
 induction h with
 |refl=>exact dZ _
 |step _ ih=>rw[jw];omega
theorem Ch {j:Nat}(h:j<k)(hp:p j=true):ff p j<ff p k:=by
 have:=Dp (p:=p) (show j+1<=k from h);rw[jw,if_pos hp]at this;omega
theorem FF {n q:Nat}(h:q<ff p n):∃j,j<n/\p j=true/\ff p j=q:=by
 induction n with
 |zero=>exact absurd h (dK _)
 |succ n ih=>
  rw[jw]at h;by_cases h1:q<ff p n;obtain⟨j,h2,h3⟩:=ih h1;exact⟨j,aH,h3⟩;by_cases h2:p n=true;rw[if_pos h2]at h;exact⟨n,aH,h2,aH⟩;rw[if_neg h2]at h;omega
section
variable{l:Int}{ls:List LV}
theorem zQ{p:Nat->Bool}:∀{n:Nat},(∀j,j<n->p j=true)->∀k,k<=n->ff p k=k
 |_,_,0,_=>rfl
 |n,h,k+1,hk=>by rw[jw,zQ h k aH,if_pos (h k aH)]
end
end
section
variable{ei:Bool}{from_:aq}
theorem sA{t:Tr}:Fit t↔bT t≠[]:=by unfold Fit;exact Jp.symm
open Classical in
noncomputable def jv(t:Tr):Tr:=if Fit (eY t)then(eH t).2 else eY t
theorem tp{t:Tr}(h:t.ok):(jv t).ok:=by
 unfold jv;split;exact(lK h).2;exact iW h
structure TL where
  t:Tr
  r:Int
  a:Nat
  b:Nat
  g:Int
def TL.v(x:TL):LV:=⟨⟨none,0,bT x.t⟩,x.r,x.a,x.b,x.g⟩
structure Sg where
  ls:List TL
  bad:Bool
def lg(σ:Sg)(n:Nat):Tr:=(σ.ls.map TL.t).getD n (.leaf 0 0 0 0)
def gQ(ts:List Tr)(g:Tr):Tr:=ts.foldr fF g
theorem pQ:∀{ts:List Tr} {g:Tr},(∀u∈ts,u.ok)->g.ok->(gQ ts g).ok
 |[],_,_,h=>h
 |t::ts,_,h,hg=>iM (h t aF) (pQ (ts:=ts) (λu hu=>h u (cy _ hu)) hg)
section
variable(T:Tr->Prop)
open Classical in
noncomputable def gz(t:Tr)(r:Int)(a b:Nat)(g:Int)(σ:Sg):Nat×Sg:=
 if σ.bad=true\/¬Fit t\/400<=σ.ls.length\/(r=1/\¬T t)then(0,⟨σ.ls,true⟩)else(σ.ls.length,⟨σ.ls++[⟨t,r,a,b,g⟩],false⟩)
noncomputable def pk(g:Tr):List (Nat×Tr)->Nat->Sg->Nat×Sg
 |[],n,σ=>(n,σ)
 |p::ps,n,σ=>pk g ps (gz T (gQ (ps.map (·.2)) g) 10 p.1 n 0 σ).1 (gz T (gQ (ps.map (·.2)) g) 10 p.1 n 0 σ).2
noncomputable def fJ(g:Tr)(from_:aq)(σ:Sg):Nat×Sg:=
 if σ.bad=true then(0,σ)else
  pk T g (from_.map (λn=>(n,lg σ n))) (gz T (gQ (from_.map (lg σ)) g) 1 0 0 0 σ).1 (gz T (gQ (from_.map (lg σ)) g) 1 0 0 0 σ).2
noncomputable def kW(i:Int)(p q:Tr)(σ:Sg):Nat×Sg:=gz T (fF (eT i (fF p q)) (fF (eT i p) (eT i q))) 2 0 0 0 σ
noncomputable def mw(i:Int)(p q:Tr)(line:Nat)(σ:Sg):Nat×Sg:=
 let n:=gz T (eT i (fF p q)) 11 line 0 i σ
 let k:=kW T i p q n.2
 gz T (fF (eT i p) (eT i q)) 10 n.1 k.1 0 k.2
noncomputable def jJ(i:Int)(v:Tr)(σ:Sg):Nat×Sg:=gz T (vN (oq i v) (eY (eT i (eY v)))) 7 0 0 0 σ
noncomputable def rz(ei:Bool)(t:Tr):Tr:=if ei=true then .bin 6 0 0 0 t (jv t)else eY (rA t (jv t))
noncomputable def uT(op:Int)(a:Tr):Tr:=if op=9 then a else jv a
noncomputable def vT(op:Int)(a:Tr):Tr:=if op=9 then jv a else a
noncomputable def vx(ei:Bool)(op:Int)(a:Tr):Tr:=if ei=true then eY (vT op a)else uT op a
noncomputable def vu(ei:Bool)(op:Int)(a:Tr):Tr:=if ei=true then uT op a else eY (vT op a)
noncomputable def wD(ei:Bool)(op i:Int)(a t:Tr)(x:Nat)(σ:Sg):Nat×Sg:=
 let l:=fJ T (fF (vx ei op a) (vu ei op a)) [x] σ
 let d:=mw T i (vx ei op a) (vu ei op a) l.1 l.2
 let s:=jJ T i (vT op a) d.2
 fJ T (rz ei t) [d.1,s.1] s.2
noncomputable def fg(ei:Bool):Tr->Sg->Nat×Sg
 |.leaf op i e g,σ=>fJ T (rz ei (.leaf op i e g)) [] σ
 |.un op i e g a,σ=>if op=9\/op=10 then wD T ei op i a (.un op i e g a) (fg ei a σ).1 (fg ei a σ).2 else fJ T (rz ei (.un op i e g a)) [] σ
 |.bin op i e g a b,σ=>fJ T (rz ei (.bin op i e g a b)) [(fg ei a σ).1,(fg ei b (fg ei a σ).2).1] (fg ei b (fg ei a σ).2).2
noncomputable def pr(i:Int)(f:Tr)(σ:Sg):Nat×Sg:=
 match f with
 |.un 10 _ _ _ z=>
  let nz:=eY (eT i (eY z))
  let s:=jJ T i z σ
  let f5:=gz T (fF nz (eT i nz)) 5 0 0 0 s.2
  let bk:=fJ T (fF nz f) [s.1] f5.2
  let kn:=mw T i nz f bk.1 bk.2
  fJ T (fF f (eT i f)) [s.1,f5.1,kn.1] kn.2
 |_=>gz T (fF f (eT i f)) 4 0 0 0 σ
end
structure Sg.Le (σ σ':Sg):Prop where
  pre:σ.ls<+:σ'.ls
  ok:σ'.bad=false->σ.bad=false
theorem Sg.Le.refl(σ:Sg):σ.Le σ:=⟨dw _,id⟩
theorem Sg.Le.trans{σ σ' σ'':Sg}(h:σ.Le σ')(g:σ'.Le σ''):σ.Le σ'':=⟨h.pre.trans g.pre,λe=>h.ok (g.ok e)⟩
def iU(σ:Sg)(n:Nat)(t:Tr):Prop:=σ.bad=false->n<σ.ls.length/\lg σ n=t
theorem GQ{σ σ':Sg}(h:σ.Le σ'){n:Nat}(hn:n<σ.ls.length):lg σ' n=lg σ n:=by
 obtain⟨u,hu⟩:=h.pre;unfold lg;rw[<-hu,dF];simp[bt (show n<(σ.ls.map TL.t).length by simpa using hn)]
theorem iU.le{σ σ':Sg}{n:Nat}{t:Tr}(h:iU σ n t)(g:σ.Le σ'):iU σ' n t:=λe=>by
 obtain⟨h1,h2⟩:=h (g.ok e);exact⟨cX h1 g.pre.length_le,by rw[GQ g h1];exact h2⟩
section
variable{T:Tr->Prop}{t g:Tr}{r i:Int}{a b n:Nat}{σ:Sg}
theorem ny(h:σ.bad=true){gg:Int}:gz T t r a b gg σ=(0,σ):=by
 rw[gz,if_pos (.inl h),<-h]
theorem iE{gg:Int}:σ.Le (gz T t r a b gg σ).2:=by
 unfold gz;split;exact⟨dw _,λe=>by cases e⟩;rename_i h;exact⟨cU _ _,λ_=>by
  cases hb:σ.bad with
  |false=>rfl
  |true=>exact absurd (.inl hb) h⟩
theorem gm{gg:Int}:iU (gz T t r a b gg σ).2 (gz T t r a b gg σ).1 t:=by
 unfold gz;split;intro e;cases e;intro _;exact⟨by simp,by simp[lg]⟩
theorem HJ{ps:List (Nat×Tr)}:∀{n:Nat} {σ:Sg},σ.Le (pk T g ps n σ).2:=by
 induction ps with
 |nil=>intro n σ;exact Sg.Le.refl _
 |cons p ps ih=>intro n σ;exact iE.trans ih
theorem iC :σ.Le (fJ T g from_ σ).2:=by
 unfold fJ;split;exact Sg.Le.refl _;exact iE.trans HJ
theorem EB{ps:List (Nat×Tr)}:∀{n:Nat} {σ:Sg},iU σ n (gQ (ps.map (·.2)) g)->iU (pk T g ps n σ).2 (pk T g ps n σ).1 g:=by
 induction ps with
 |nil=>intro n σ h;exact h
 |cons p ps ih=>intro n σ _;exact ih gm
theorem jO :iU (fJ T g from_ σ).2 (fJ T g from_ σ).1 g:=by
 unfold fJ;split;rename_i h;intro e;rw[h]at e;cases e;refine EB ?_;rw[dT];exact gm
theorem lQ (h:σ.bad=true):fJ T g from_ σ=(0,σ):=by rw[fJ,if_pos h]
theorem zu{p q:Tr}:σ.Le (kW T i p q σ).2:=iE
theorem sG{p q:Tr}{l:Nat}:σ.Le (mw T i p q l σ).2:=iE.trans (iE.trans iE)
theorem pN{p q:Tr}{l:Nat}:iU (mw T i p q l σ).2 (mw T i p q l σ).1 (fF (eT i p) (eT i q)):=gm
theorem Fy{p q:Tr}{l:Nat}(h:σ.bad=true):mw T i p q l σ=(0,σ):=by simp only[mw,kW];rw[ny h];dsimp only;rw[ny h];dsimp only;rw[ny h]
theorem nL{v:Tr}:σ.Le (jJ T i v σ).2:=iE
theorem HL {op:Int}{a t:Tr}{x:Nat}:σ.Le (wD T ei op i a t x σ).2:=iC.trans (sG.trans (nL.trans iC))
theorem ED {op:Int}{a t:Tr}{x:Nat}(h:σ.bad=true):wD T ei op i a t x σ=(0,σ):=by
 simp only[wD];rw[lQ h];dsimp only;rw[Fy h];dsimp only;rw[jJ,ny h];dsimp only;rw[lQ h]
theorem EC {op:Int}{a t:Tr}{x:Nat}:iU (wD T ei op i a t x σ).2 (wD T ei op i a t x σ).1 (rz ei t):=jO
theorem pJ{ei:Bool}:∀{t:Tr} {σ:Sg},σ.bad=true->fg T ei t σ=(0,σ)
 |.leaf op i e g,σ,h=>by rw[fg,lQ h]
 |.un op i e g a,σ,h=>by
  rw[fg];split;rw[pJ (t:=a) h,ED h];rw[lQ h]
 |.bin op i e g a b,σ,h=>by rw[fg,pJ (t:=a) h];dsimp only;rw[pJ (t:=b) h];dsimp only;rw[lQ h]
theorem ml{ei:Bool}:∀{t:Tr} {σ:Sg},σ.Le (fg T ei t σ).2
 |.leaf op i e g,σ=>by rw[fg];exact iC
 |.un op i e g a,σ=>by
  rw[fg];split;exact(ml (t:=a)).trans HL;exact iC
 |.bin op i e g a b,σ=>by rw[fg];exact(ml (t:=a)).trans ((ml (t:=b)).trans iC)
theorem jM :∀{t:Tr} {σ:Sg},iU (fg T ei t σ).2 (fg T ei t σ).1 (rz ei t)
 |.leaf op i e g,σ=>by rw[fg];exact jO
 |.un op i e g a,σ=>by
  rw[fg];split;exact EC;exact jO
 |.bin op i e g a b,σ=>by rw[fg];exact jO
theorem yB{f:Tr}:σ.Le (pr T i f σ).2:=by
 unfold pr;split;exact nL.trans (iE.trans (iC.trans (sG.trans iC)));exact iE
theorem wc{f:Tr}:iU (pr T i f σ).2 (pr T i f σ).1 (fF f (eT i f)):=by
 unfold pr;split;exact jO;exact gm
end
end
section
variable{k:Nat}{a b t:Tr}{r:Tr->Bool}
def eC(t:Tr):Prop:=∃l:List Tr,l.Nodup/\(∀u,u∈l↔u∈pf t)/\l.length<=10
def ki(t:Tr):Prop:=t.ok/\kI (λop _ _=>op<=11\/op=13) t
theorem ki.im (h:ki a)(g:ki b):ki (fF a b):=⟨iM h.1 g.1,.inl aI,h.2,g.2⟩
theorem ki.ad (h:ki a)(g:ki b):ki (rA a b):=⟨pV h.1 g.1,.inl aI,h.2,g.2⟩
theorem ki.or (h:ki a)(g:ki b):ki (.bin 6 0 0 0 a b):=⟨pb h.1 g.1,.inl aI,h.2,g.2⟩
theorem ki.if (h:ki a)(g:ki b):ki (vN a b):=⟨zy h.1 g.1,.inl aI,h.2,g.2⟩
theorem ki.nt (h:ki a):ki (eY a):=⟨iW h.1,.inl aI,h.2⟩
theorem ki.kw {i:Int}(hi:0<=i/\i<4)(h:ki a):ki (eT i a):=⟨fP hi h.1,.inl aI,h.2⟩
theorem ki.po {i:Int}(hi:0<=i/\i<4)(h:ki a):ki (oq i a):=⟨tG (.inr rfl) hi h.1,.inl aI,h.2⟩
theorem ki.ch:∀{ts:List Tr} {g:Tr},(∀u∈ts,ki u)->ki g->ki (gQ ts g)
 |[],_,_,h=>h
 |t::ts,_,h,hg=>(h t aF).im (ki.ch (ts:=ts) (λu hu=>h u (cy _ hu)) hg)
def qV:Tr->Prop
 |.leaf op _ _ _=>op<=3
 |.un op _ _ _ a=>(op=4/\∃i e g,a=.leaf 3 i e g)\/((op=9\/op=10)/\qV a)
 |.bin op _ _ _ a b=>(op=5\/op=6)/\qV a/\qV b
theorem qV.wF:∀{t:Tr},qV t->kI (λop _ _=>op<=11\/op=13) t
 |.leaf op _ _ _,h=>.inl (by have:op<=3:=h;omega)
 |.un op _ _ _ a,h=>by
  rcases h with⟨h1,i,e,g,rfl⟩|⟨h1,h2⟩;exact⟨.inl aH,.inl aI⟩;exact⟨.inl aH,h2.wF⟩
 |.bin op _ _ _ a b,h=>⟨.inl (by have:=h.1;omega),h.2.1.wF,h.2.2.wF⟩
theorem BJ:∀{t:Tr},qV t->t.ok->ki (eH t).2
 |.leaf op i e g,h,hok=>by
  have ho:op<=3:=h;rw[eH];dsimp only;split;exact⟨⟨aI,rfl,aI⟩,.inl aI⟩;split;exact⟨⟨aI,rfl,aI⟩,.inl aI⟩;exact ki.nt ⟨hok,.inl aH⟩
 |.un op i e g a,h,hok=>by
  rcases h with⟨rfl,j,e',g',rfl⟩|⟨h1,h2⟩;rw[eH,if_pos rfl];exact⟨(lK hok.2.2.2.2).1,.inl aI⟩;have hf:=BJ h2 hok.2.2.2.2;have hi:=(qN hok h1).1;rcases h1 with rfl|rfl;rw[eH,if_neg aI,if_pos rfl];exact hf.po hi;rw[eH,if_neg aI,if_neg aI,if_pos rfl];exact hf.kw hi
 |.bin op i e g a b,h,hok=>by
  have ha:=BJ h.2.1 hok.2.2.2.1;have hb:=BJ h.2.2 hok.2.2.2.2;rcases h.1 with rfl|rfl;rw[eH,if_pos rfl];exact ha.or hb;rw[eH,if_neg aI,if_pos rfl];exact ha.ad hb
theorem qV.fr{t:Tr}(h:qV t)(hok:t.ok):ki t:=⟨hok,h.wF⟩
theorem qV.op (h:qV t)(hok:t.ok):ki (jv t):=by
 unfold jv;split;exact BJ h hok;exact(h.fr hok).nt
theorem uz  :gA r (fF a b)=(!gA r a||gA r b):=rfl
theorem OM  :gA r (rA a b)=(gA r a && gA r b):=rfl
theorem NA  {i e g:Int}:gA r (.bin 6 i e g a b)=(gA r a||gA r b):=rfl
theorem Ik  :gA r (vN a b)=(gA r a==gA r b):=rfl
theorem wG  :gA r (eY a)=!gA r a:=rfl
theorem A0{r:Tr->Bool}:∀{ts:List Tr} {g:Tr},gA r (gQ ts g)=true↔((∀u∈ts,gA r u=true)->gA r g=true)
 |[],g=>by simp[gQ]
 |t::ts,g=>by
  show gA r (fF t (gQ ts g))=true↔_;rw[uz,dB,A0];cases ht:gA r t with
  |false=>simp[ht]
  |true=>simp[ht]
def Pn(l:Int)(σ:Sg)(t:Tr)(r:Int)(a b:Nat)(g:Int):Prop:=
 ki t/\gO l r=true/\((r=1/\a=0/\b=0/\g=0/\∀v,gA v t=true)\/(2<=r/\r<10/\a=0/\b=0/\g=0/\uo r t)\/(r=10/\g=0/\∃A,iU σ a A/\iU σ b (fF A t))\/(r=11/\b=0/\(0<=g/\g<4)/\∃A,iU σ a A/\t=eT g A))
structure Good (l:Int) (σ:Sg):Prop where
  len:σ.ls.length<=400
  tok:∀(k:Nat) (hk:k<σ.ls.length),σ.ls[k].t.ok
  ok:∀(k:Nat) (hk:k<(σ.ls.map TL.v).length),jg l (σ.ls.map TL.v) k (σ.ls.map TL.v)[k]=0
structure yN (l:Int) (P:(Tr->Prop)->Sg->Nat×Sg) (σ:Sg):Prop where
  same:P eC σ=P pZ σ
  jl:Good l (P eC σ).2
theorem C8{l:Int}{ls:List LV}{i:Nat}{x:LV}(us:List LV)(hi:i<=ls.length)(h:jg l ls i x=0):jg l (ls++us) i x=0:=by
 rw[oV]at h⊢;obtain⟨h1,h2,h3,h4,h5⟩:=h;refine⟨h1,h2,h3,h4,?_⟩;have hp:=pF h2.1 h2.2;obtain⟨n1,n2,_⟩:=w4 h3;have hget:∀k:Int,0<=k->k<i->yd (ls++us) k=yd ls k:=λk h0 hk=>by
  unfold yd;rw[dF];simp only[aY];rw[bt (by rw[dD];omega)]
 unfold oo at h5⊢;split at h5;rename_i e;rw[if_pos e];have ha:=nT n1 aH;have hb:=nT n2 aH;rw[hget _ hb.1 hb.2,hget _ ha.1 ha.2];exact h5;rename_i e;rw[if_neg e];split at h5;rename_i e1;rw[if_pos e1,hget _ (nT n1 aH).1 (nT n1 aH).2];exact h5;rename_i e1;rw[if_neg e1];split at h5;rename_i e2;rw[if_pos e2,hget _ (nT n1 aH).1 (nT n1 aH).2];exact h5;rename_i e2;rw[if_neg e2];exact h5
theorem uD (h:t.ok)(hf:Fit t):eP (bT t)=t:=(mI h (sA.1 hf)).top
theorem Fe (h:ki t)(hf:Fit t):kP (bT t)=0:=ri.2 ⟨(mI h.1 (sA.1 hf)).oe,by rw[uD h.1 hf];exact h.2⟩
section
variable{l:Int}{σ:Sg}
theorem Good.line(h:Good l σ) (hk:k<σ.ls.length):ki σ.ls[k].t/\Fit σ.ls[k].t:=by
 have h1:=h.ok k (by simpa using hk);have h2:kP (bT σ.ls[k].t)=0:=by
  have:=(oV.1 h1).1;simpa[TL.v]using this
 have hc:=ri.1 h2;have hne:bT σ.ls[k].t≠[]:=λe=>by rw[e]at h2;exact absurd h2 aI
 have hfit:=sA.2 hne;refine⟨?_,hfit⟩;have htop:eP (bT σ.ls[k].t)=σ.ls[k].t:=uD (h.tok k hk) hfit;exact⟨h.tok k hk,by rw[<-htop];exact hc.2⟩
theorem Bp (hk:k<σ.ls.length):lg σ k=σ.ls[k].t:=by simp[lg,hk]
theorem Good.has(h:Good l σ)(hb:σ.bad=false){n:Nat} (ht:iU σ n t):ki t/\Fit t:=by
 obtain⟨h1,h2⟩:=ht hb;rw[<-h2,Bp h1];exact h.line h1
theorem AJ(h:Good l σ) (hk:k<σ.ls.length){us:List LV}:yd (σ.ls.map TL.v++us) (k:Int)=lg σ k:=by
 rw[sd (k:=k) aN rfl,bJ (by simpa using hk),Bp hk];simp only[List.getElem_map,TL.v];exact uD (h.line hk).1.1 (h.line hk).2
theorem Ig{ls:List LV}{x:LV} (ht:eP x.f.f=t)(h:(x.r=10/\yd ls x.b=fF (yd ls x.a) t)\/(x.r=11/\t=eT x.g (yd ls x.a))\/(x.r<10/\uo x.r t)):oo ls x:=by
 subst ht;unfold oo;rcases h with⟨h1,h2⟩|⟨h1,h2⟩|⟨h1,h2⟩;rw[if_pos h1];exact h2;rw[if_neg aH,if_pos h1];exact h2;rw[if_neg aH,if_neg aH,if_neg aH];exact h2
theorem lR {r g:Int}{a b:Nat}(h:Good l σ)(ha:σ.bad=false->Fit t->Pn l σ t r a b g):yN l (λT=>gz T t r a b g) σ:=by
 have hsame:gz eC t r a b g σ=gz pZ t r a b g σ:=by
  cases hb:σ.bad with
  |true=>rw[ny hb,ny hb]
  |false=>
   by_cases hf:Fit t
   ·obtain⟨_,_,hc⟩:=ha hb hf
    by_cases hr:r=1
    ·have:eC t=pZ t:=by
      rcases hc with⟨h1,_,_,_,h2⟩|⟨h1,_⟩|⟨h1,_⟩|⟨h1,_⟩;exact propext ⟨λh=>⟨h,h2⟩,λh=>h.1⟩
      all_goals omega
     unfold gz;rw[this]
    have e:∀T:Tr->Prop,(σ.bad=true\/¬Fit t\/400<=σ.ls.length\/(r=1/\¬T t))↔(400<=σ.ls.length):=λT=>
     ⟨λh=>by
      rcases h with h|h|h|h;rw[hb]at h;cases h;exact absurd hf h;exact h;exact absurd h.1 hr,λh=>.inr (.inr (.inl h))⟩;unfold gz;by_cases h4:400<=σ.ls.length;rw[if_pos ((e _).2 h4),if_pos ((e _).2 h4)];rw[if_neg (λh=>h4 ((e _).1 h)),if_neg (λh=>h4 ((e _).1 h))]
   unfold gz;rw[if_pos (.inr (.inl hf)),if_pos (.inr (.inl hf))]
 refine⟨hsame,?_⟩;unfold gz;split;exact⟨h.len,h.tok,h.ok⟩;rename_i hn;have hb:σ.bad=false:=by
  cases e:σ.bad with
  |false=>rfl
  |true=>exact absurd (.inl e) hn
 have hf:Fit t:=bh λe=>hn (.inr (.inl e));have hlen:σ.ls.length<400:=by
  have:¬400<=σ.ls.length:=λe=>hn (.inr (.inr (.inl e)));omega
 have hT:r=1->eC t:=λe=>bh λe'=>hn (.inr (.inr (.inr ⟨e,e'⟩)));obtain⟨hfr,hl,hc⟩:=ha hb hf;refine⟨by simp;omega,λk hk=>?_,λk hk=>?_⟩;by_cases hkl:k<σ.ls.length;rw[bJ hkl];exact h.tok k hkl;rw[bB aH];simp only[cQ,dt,List.length_nil]at hk;have:k - σ.ls.length=0:=aH;simp only[this,List.getElem_cons_zero];exact hfr.1;simp only[dF,dR,List.map_nil]at hk⊢;simp only[cQ,dD,dt,List.length_nil]at hk;by_cases hkl:k<σ.ls.length;rw[bJ (by simpa using hkl)];exact C8 _ aN (h.ok k (by simpa using hkl));have hke:k=σ.ls.length:=aH;subst hke;rw[bB aL];simp only[dD,dW,List.getElem_cons_zero];have htop:eP (TL.v ⟨t,r,a,b,g⟩).f.f=t:=uD hfr.1 hf;rw[oV];refine⟨Fe hfr hf,?_,?_,hl,?_⟩;show 1<=r/\r<=12;rcases hc with⟨h1,_⟩|⟨h1,h2,_⟩|⟨h1,_⟩|⟨h1,_⟩<;>omega
 rw[wB (by show 1<=r;rcases hc with⟨h1,_⟩|⟨h1,h2,_⟩|⟨h1,_⟩|⟨h1,_⟩<;>omega) (by show r<=12;rcases hc with⟨h1,_⟩|⟨h1,h2,_⟩|⟨h1,_⟩|⟨h1,_⟩<;>omega)];unfold vB vA;simp only[TL.v];rcases hc with⟨h1,h2,h3,h4,_⟩|⟨h1,h2,h3,h4,h5,_⟩|⟨h1,h2,A,hA,hB⟩|⟨h1,h2,h3,A,hA,_⟩;subst h2 h3 h4 h1;omega;subst h3 h4 h5;omega;have:=(hA hb).1;have:=(hB hb).1;omega;have:=(hA hb).1;omega;refine Ig htop ?_;rcases hc with⟨h1,h2,h3,h4,h5⟩|⟨h1,h2,h3,h4,h5,h6⟩|⟨h1,h2,A,hA,hB⟩|⟨h1,h2,h3,A,hA,h4⟩;refine .inr (.inr ⟨show r<10 by omega,?_⟩);show uo r t;rw[h1];exact⟨hT h1,h5⟩;exact .inr (.inr ⟨h2,h6⟩);refine .inl ⟨h1,?_⟩;show yd _ (b:Int)=fF (yd _ (a:Int)) t;rw[AJ h (hA hb).1,AJ h (hB hb).1,(hA hb).2,(hB hb).2];refine .inr (.inl ⟨h1,?_⟩);show t=eT g (yd _ (a:Int));rw[AJ h (hA hb).1,(hA hb).2];exact h4
theorem BO{g:Tr}(hg:ki g):∀{ps:List (Nat×Tr)} {n:Nat} {σ:Sg},Good l σ->gO l 10=true->(∀p∈ps,iU σ p.1 p.2)->iU σ n (gQ (ps.map (·.2)) g)->yN l (λT=>pk T g ps n) σ
 |[],n,σ,h,_,_,_=>⟨rfl,h⟩
 |p::ps,n,σ,h,h10,hps,hn=>by
  have hadm:σ.bad=false->Fit (gQ (ps.map (·.2)) g)->Pn l σ (gQ (ps.map (·.2)) g) 10 p.1 n 0:=λhb _=>
   ⟨ki.ch (λu hu=>by
    obtain⟨q,hq,rfl⟩:=dU.1 hu;exact(h.has hb (hps q (cy _ hq))).1) hg,h10,.inr (.inr (.inl ⟨rfl,rfl,p.2,hps p aF,hn⟩))⟩;have h1:=lR h hadm;have h2:=BO hg (ps:=ps) (n:=(gz eC (gQ (ps.map (·.2)) g) 10 p.1 n 0 σ).1) h1.jl h10 (λq hq=>(hps q (cy _ hq)).le iE) gm;refine⟨?_,h2.jl⟩;show pk eC g ps _ _=pk pZ g ps _ _;have e:=h1.same;rw[<-e];exact h2.same
theorem KP(l:Int){r:Int}(h:r=1\/r=2\/r=7\/r=10\/r=11):gO l r=true:=by
 unfold gO;rw[if_neg aH,if_neg aH,if_neg aH,if_neg aH]
theorem jF{g:Tr}{from_:aq}(h:Good l σ)(hg:ki g)(hf:σ.bad=false->∀n∈from_,n<σ.ls.length)(ht:σ.bad=false->Fit g->∀v,(∀n∈from_,gA v (lg σ n)=true)->gA v g=true):yN l (λT=>fJ T g from_) σ:=by
 cases hb:σ.bad with
 |true=>exact⟨by rw[lQ hb,lQ hb],by rw[lQ hb];exact h⟩
 |false=>
  have hhas:∀n∈from_,iU σ n (lg σ n):=λn hn=>λ_=>⟨hf hb n hn,rfl⟩;have hfit:∀ts:List Tr,Fit (gQ ts g)->Fit g:=λts=>by
   induction ts with
   |nil=>exact id
   |cons t ts ih=>exact λh=>ih (Fit.r h)
  have hadm:σ.bad=false->Fit (gQ (from_.map (lg σ)) g)->Pn l σ (gQ (from_.map (lg σ)) g) 1 0 0 0:=λ_ hft=>
   ⟨ki.ch (λu hu=>by
    obtain⟨q,hq,rfl⟩:=dU.1 hu;exact(h.has hb (hhas q hq)).1) hg,KP l (.inl rfl),.inl ⟨rfl,rfl,rfl,rfl,λv=>A0.2 λhall=>ht hb (hfit _ hft) v (λn hn=>hall _ (cM hn))⟩⟩;have h1:=lR h hadm;have h2:=BO hg (ps:=from_.map (λn=>(n,lg σ n))) (n:=(gz eC (gQ (from_.map (lg σ)) g) 1 0 0 0 σ).1) h1.jl (KP l aH) (λq hq=>by
   obtain⟨n,hn,rfl⟩:=dU.1 hq;exact(hhas n hn).le iE) (by rw[dT];exact gm);have e:=h1.same;have e2:=h2.same;have g2:=h2.jl;constructor;unfold fJ;rw[if_neg (by rw[hb];decide),if_neg (by rw[hb];decide),<-e];exact e2;unfold fJ;rw[if_neg (by rw[hb];decide)];exact g2
theorem Ja{i:Int}{p q:Tr}(hi:0<=i/\i<4)(h:Good l σ)(hp:ki p)(hq:ki q):yN l (λT=>kW T i p q) σ:=
 lR h (λ_ _=>⟨(hp.im hq|>.kw hi).im ((hp.kw hi).im (hq.kw hi)),KP l aH,.inr (.inl ⟨aI,aI,rfl,rfl,rfl,⟨i,p,q,rfl⟩⟩)⟩)
theorem xR{i:Int}{v:Tr}(hi:0<=i/\i<4)(h:Good l σ)(hv:ki v):yN l (λT=>jJ T i v) σ:=
 lR h (λ_ _=>⟨(hv.po hi).if (hv.nt.kw hi).nt,KP l aH,.inr (.inl ⟨aI,aI,rfl,rfl,rfl,⟨i,v,rfl⟩⟩)⟩)
theorem Ce{i:Int}{p q:Tr}{n:Nat}(hi:0<=i/\i<4)(h:Good l σ)(hp:ki p)(hq:ki q)(hn:iU σ n (fF p q)):yN l (λT=>mw T i p q n) σ:=by
 have h1:yN l (λT=>gz T (eT i (fF p q)) 11 n 0 i) σ:=lR h (λ_ _=>⟨(hp.im hq).kw hi,KP l aH,.inr (.inr (.inr ⟨rfl,rfl,hi,_,hn,rfl⟩))⟩);have h2:=Ja (i:=i) (p:=p) (q:=q) hi h1.jl hp hq;have a1:iU _ _ (eT i (fF p q)):=gm (T:=eC) (σ:=σ) (t:=eT i (fF p q)) (r:=11) (a:=n) (b:=0) (gg:=i);have a2:iU _ _ (fF (eT i (fF p q)) (fF (eT i p) (eT i q))):=gm (T:=eC) (σ:=(gz eC (eT i (fF p q)) 11 n 0 i σ).2) (t:=fF (eT i (fF p q)) (fF (eT i p) (eT i q))) (r:=2) (a:=0) (b:=0) (gg:=0);have h3:=lR (t:=fF (eT i p) (eT i q)) (r:=10) (a:=(gz eC (eT i (fF p q)) 11 n 0 i σ).1) (b:=(kW eC i p q (gz eC (eT i (fF p q)) 11 n 0 i σ).2).1) (g:=0) h2.jl (λ_ _=>⟨(hp.kw hi).im (hq.kw hi),KP l aH,.inr (.inr (.inl ⟨rfl,rfl,_,a1.le zu,a2⟩))⟩);have e1:=h1.same;have e2:=h2.same;have e3:=h3.same;constructor;simp only[mw];rw[<-e1,<-e2];exact e3;exact h3.jl
end
end
section
variable{ei:Bool}{t:Tr}{v:Tr->Bool}
theorem uI (h:Fit (jv t)):Fit (eY t)/\jv t=(eH t).2:=by
 unfold jv at*;split at h;rename_i hf;rw[if_pos hf];exact⟨hf,rfl⟩;rename_i hf;exact absurd h hf
theorem AT{c:Tr}(h:Fit (eY t))(hc:c∈kids t):Fit (eY c):=by
 have h1:=np hc;have h2:(gv (eY t)).length=(gv t).length+1:=yD;have h3:(gv (eY c)).length=(gv c).length+1:=yD;unfold Fit at*;omega
theorem tq (h:Fit (eY t)):jv t=(eH t).2:=if_pos h
theorem yx  (h:Fit (rz ei t)):Fit (jv t):=by
 unfold rz at h;split at h;exact Fit.r h;exact Fit.r (Fit.u h)
theorem ue   :gA v (rz ei t)=if ei=true then(gA v t||gA v (jv t))else !(gA v t && gA v (jv t)):=by
 unfold rz;split<;>rfl
theorem FG   (h:gA v (jv t)=!gA v t):gA v (rz ei t)=true:=by
 rw[ue,h];cases gA v t<;>cases ei<;>rfl
theorem Ci  (h:qV t)(hok:t.ok):ki (rz ei t):=by
 unfold rz;split;exact(h.fr hok).or (h.op hok);exact((h.fr hok).ad (h.op hok)).nt
theorem EA{op i e g:Int} (h:op<=3)(h1:1<=op):gA v (eH (.leaf op i e g)).2=!gA v (.leaf op i e g):=by
 rw[eH];dsimp only;rcases(by omega:op=1\/op=2\/op=3)with rfl|rfl|rfl;rw[if_pos rfl];rfl;rw[if_neg aI,if_pos rfl];rfl;rw[if_neg aI,if_neg aI];rfl
section
variable{l:Int}{σ:Sg}
theorem HK {op i e g:Int}{a:Tr}{x:Nat}(ho:op=9\/op=10)(ha:qV a)(hok:(Tr.un op i e g a).ok)(h:Good l σ)(hx:iU σ x (rz ei a)):yN l (λT=>wD T ei op i a (.un op i e g a) x) σ:=by
 obtain⟨hi,rfl,rfl⟩:=qN hok ho;have hao:a.ok:=hok.2.2.2.2;have fa:=ha.fr hao;have fo:=ha.op hao;have fu:ki (uT op a):=by unfold uT;split<;>assumption
 have fv:ki (vT op a):=by unfold vT;split<;>assumption
 have fp:ki (vx ei op a):=by
  unfold vx;split;exact fv.nt;exact fu
 have fq:ki (vu ei op a):=by
  unfold vu;split;exact fu;exact fv.nt
 have h1:yN l (λT=>fJ T (fF (vx ei op a) (vu ei op a)) [x]) σ:=jF h (fp.im fq) (λhb n hn=>by rw[cS.1 hn];exact(hx hb).1) (λhb hf v hv=>by
  have h2:=hv x (cS.2 rfl);rw[(hx hb).2,ue]at h2;rw[uz];unfold vx vu uT vT;rcases ho with rfl|rfl;simp only[ew];cases ei;simp only[Bool.false_eq_true,ej,wG]at h2⊢;cases e1:gA v a<;>cases e2:gA v (jv a)<;>simp_all
  simp only[ew,wG]at h2⊢;cases e1:gA v a<;>cases e2:gA v (jv a)<;>simp_all
  simp only[show ¬(10:Int)=9 from aI,ej];cases ei;simp only[Bool.false_eq_true,ej,wG]at h2⊢;cases e1:gA v a<;>cases e2:gA v (jv a)<;>simp_all
  simp only[ew,wG]at h2⊢;cases e1:gA v a<;>cases e2:gA v (jv a)<;>simp_all);have h2:=Ce (i:=i) (p:=vx ei op a) (q:=vu ei op a) (n:=(fJ eC (fF (vx ei op a) (vu ei op a)) [x] σ).1) hi h1.jl fp fq jO;have h3:=xR (i:=i) (v:=vT op a) hi h2.jl fv;have k1:iU _ _ (fF (eT i (vx ei op a)) (eT i (vu ei op a))):=pN (T:=eC) (i:=i) (p:=vx ei op a) (q:=vu ei op a) (l:=(fJ eC (fF (vx ei op a) (vu ei op a)) [x] σ).1) (σ:=(fJ eC (fF (vx ei op a) (vu ei op a)) [x] σ).2);have k2:iU _ _ (vN (oq i (vT op a)) (eY (eT i (eY (vT op a))))):=gm (T:=eC) (t:=vN (oq i (vT op a)) (eY (eT i (eY (vT op a))))) (r:=7) (a:=0) (b:=0) (gg:=0) (σ:=(mw eC i (vx ei op a) (vu ei op a) (fJ eC (fF (vx ei op a) (vu ei op a)) [x] σ).1 (fJ eC (fF (vx ei op a) (vu ei op a)) [x] σ).2).2);have k1':=k1.le (nL (T:=eC) (i:=i) (v:=vT op a));have hnf:qV (.un op i 0 0 a):=.inr ⟨ho,ha⟩;have h4:=jF (g:=rz ei (.un op i 0 0 a)) (from_:=[(mw eC i (vx ei op a) (vu ei op a) (fJ eC (fF (vx ei op a) (vu ei op a)) [x] σ).1 (fJ eC (fF (vx ei op a) (vu ei op a)) [x] σ).2).1,(jJ eC i (vT op a) (mw eC i (vx ei op a) (vu ei op a) (fJ eC (fF (vx ei op a) (vu ei op a)) [x] σ).1 (fJ eC (fF (vx ei op a) (vu ei op a)) [x] σ).2).2).1]) h3.jl (Ci hnf hok) (λhb n hn=>by
   simp only[dS,dv,ep]at hn;rcases hn with rfl|rfl;exact(k1' hb).1;exact(k2 hb).1) (λhb hf v hv=>by
  have e1:=hv _ aF;have e2:=hv _ (cy _ aF);have g1:=(k1' hb).2;have g2:=(k2 hb).2;rw[g1]at e1;have e2:gA v (vN (oq i (vT op a)) (eY (eT i (eY (vT op a)))))=true:=g2 ▸ e2;obtain⟨f1,f2⟩:=uI (yx hf);have f3:jv a=(eH a).2:=tq (AT f1 aF);rw[ue,f2];rw[uz]at e1;rw[Ik,wG]at e2;rcases ho with rfl|rfl;have f4:(eH (.un 9 i 0 0 a)).2=oq i (jv a):=by rw[eH,if_neg aI,if_pos rfl,f3]
  rw[f4];have u1:uT 9 a=a:=if_pos rfl;have u2:vT 9 a=jv a:=if_pos rfl;unfold vx vu at e1;rw[u2]at e2;rw[u1,u2]at e1;cases ei;simp only[Bool.false_eq_true,ej]at e1⊢;cases x1:gA v (.un 9 i 0 0 a)<;>cases x2:gA v (oq i (jv a))<;>cases x3:gA v (eT i (eY (jv a)))<;>simp_all
  simp only[ew]at e1⊢;cases x1:gA v (.un 9 i 0 0 a)<;>cases x2:gA v (oq i (jv a))<;>cases x3:gA v (eT i (eY (jv a)))<;>simp_all
  have f4:(eH (.un 10 i 0 0 a)).2=eT i (jv a):=by rw[eH,if_neg aI,if_neg aI,if_pos rfl,f3]
  rw[f4];have u1:uT 10 a=jv a:=if_neg aI;have u2:vT 10 a=a:=if_neg aI;unfold vx vu at e1;rw[u2]at e2;rw[u1,u2]at e1;cases ei;simp only[Bool.false_eq_true,ej]at e1⊢;cases x1:gA v (.un 10 i 0 0 a)<;>cases x2:gA v (eT i (jv a))<;>cases x3:gA v (eT i (eY a))<;>simp_all
  simp only[ew]at e1⊢;cases x1:gA v (.un 10 i 0 0 a)<;>cases x2:gA v (eT i (jv a))<;>cases x3:gA v (eT i (eY a))<;>simp_all);have s1:=h1.same;have s2:=h2.same;have s3:=h3.same;have s4:=h4.same;constructor;simp only[wD];rw[<-s1,<-s2,<-s3];exact s4;exact h4.jl
theorem se{ei:Bool}:∀{t:Tr},qV t->t.ok->∀{σ:Sg},Good l σ->yN l (λT=>fg T ei t) σ
 |.leaf op i e g,hn,hok,σ,h=>by
  have h1:yN l (λT=>fJ T (rz ei (.leaf op i e g)) []) σ:=jF h (Ci hn hok) (λ_ n hn=>by cases hn) (λ_ hf v _=>FG (by
   rw[(uI (yx hf)).2];exact EA hn hok.1.1));exact⟨by simp only[fg];exact h1.same,by simp only[fg];exact h1.jl⟩
 |.un op i e g a,hn,hok,σ,h=>by
  by_cases ho:op=9\/op=10;have ha:qV a:=by
   rcases hn with⟨h1,_⟩|⟨_,h1⟩;omega;exact h1
  have h1:=se (ei:=ei) ha hok.2.2.2.2 h;have h2:=HK (ei:=ei) (i:=i) (e:=e) (g:=g) (x:=(fg eC ei a σ).1) ho ha hok h1.jl jM;have s1:=h1.same;have s2:=h2.same;constructor;simp only[fg];rw[if_pos ho,if_pos ho,<-s1];exact s2;simp only[fg];rw[if_pos ho];exact h2.jl;have h1:yN l (λT=>fJ T (rz ei (.un op i e g a)) []) σ:=jF h (Ci hn hok) (λ_ n hn=>by cases hn) (λ_ hf v _=>FG (by
   rw[(uI (yx hf)).2];rcases hn with⟨rfl,j,e',g',rfl⟩|⟨h1,_⟩;rw[eH,if_pos rfl,eH];show _=!(!_);rw[Bool.not_not];exact absurd h1 ho));exact⟨by simp only[fg];rw[if_neg ho,if_neg ho];exact h1.same,by simp only[fg];rw[if_neg ho];exact h1.jl⟩
 |.bin op i e g a b,hn,hok,σ,h=>by
  have h1:=se (ei:=ei) hn.2.1 hok.2.2.2.1 h;have h2:=se (ei:=ei) hn.2.2 hok.2.2.2.2 h1.jl;have k1:iU _ _ (rz ei a):=jM (T:=eC) (ei:=ei) (t:=a) (σ:=σ);have k2:iU _ _ (rz ei b):=jM (T:=eC) (ei:=ei) (t:=b) (σ:=(fg eC ei a σ).2);have k1':=k1.le (ml (T:=eC) (ei:=ei) (t:=b));have h3:=jF (g:=rz ei (.bin op i e g a b)) (from_:=[(fg eC ei a σ).1,(fg eC ei b (fg eC ei a σ).2).1]) h2.jl (Ci hn hok) (λhb n hn=>by
   simp only[dS,dv,ep]at hn;rcases hn with rfl|rfl;exact(k1' hb).1;exact(k2 hb).1) (λhb hf v hv=>by
   have e1:=hv _ aF;have e2:=hv _ (cy _ aF);rw[(k1' hb).2,ue]at e1;rw[(k2 hb).2,ue]at e2;obtain⟨f1,f2⟩:=uI (yx hf);have fa:jv a=(eH a).2:=tq (AT f1 aF);have fb:jv b=(eH b).2:=tq (AT f1 (cy _ aF));rw[ue,f2];rcases hn.1 with rfl|rfl;have f4:(eH (.bin 5 i e g a b)).2=.bin 6 0 0 0 (jv a) (jv b):=by rw[eH,if_pos rfl,fa,fb]
   have f5:gA v (.bin 5 i e g a b)=(gA v a && gA v b):=rfl;rw[f4,NA,f5];cases ei<;>cases x1:gA v a<;>cases x2:gA v b<;>cases x3:gA v (jv a)<;>cases x4:gA v (jv b)<;>simp_all
   have f4:(eH (.bin 6 i e g a b)).2=rA (jv a) (jv b):=by rw[eH,if_neg aI,if_pos rfl,fa,fb]
   rw[f4,NA,OM];cases ei<;>cases x1:gA v a<;>cases x2:gA v b<;>cases x3:gA v (jv a)<;>cases x4:gA v (jv b)<;>simp_all);have s1:=h1.same;have s2:=h2.same;have s3:=h3.same;constructor;simp only[fg];rw[<-s1,<-s2];exact s3;simp only[fg];exact h3.jl
theorem Ix{i:Int}{f z:Tr}(hi:0<=i/\i<4)(hz:ki z)(hf:(f=eT i z/\gO l 4=true)\/(f=oq i z/\gO l 5=true))(h:Good l σ):yN l (λT=>pr T i f) σ:=by
 rcases hf with⟨rfl,h4⟩|⟨rfl,h5⟩;exact lR h (λ_ _=>⟨(hz.kw hi).im ((hz.kw hi).kw hi),h4,.inr (.inl ⟨aI,aI,rfl,rfl,rfl,⟨i,z,rfl⟩⟩)⟩);have fnz:ki (eY (eT i (eY z))):=(hz.nt.kw hi).nt;have h1:=xR (i:=i) (v:=z) hi h hz;have k1:iU _ _ (vN (oq i z) (eY (eT i (eY z)))):=gm (T:=eC) (t:=vN (oq i z) (eY (eT i (eY z)))) (r:=7) (a:=0) (b:=0) (gg:=0) (σ:=σ);have h2:=lR (t:=fF (eY (eT i (eY z))) (eT i (eY (eT i (eY z))))) (r:=5) (a:=0) (b:=0) (g:=0) h1.jl (λ_ _=>⟨fnz.im (fnz.kw hi),h5,.inr (.inl ⟨aI,aI,rfl,rfl,rfl,⟨i,eY z,rfl⟩⟩)⟩);have k2:=gm (T:=eC) (t:=fF (eY (eT i (eY z))) (eT i (eY (eT i (eY z))))) (r:=5) (a:=0) (b:=0) (gg:=0) (σ:=(jJ eC i z σ).2);obtain⟨σ1,e1⟩:∃s,s=jJ eC i z σ:=⟨_,rfl⟩;obtain⟨σ2,e2⟩:∃s,s=gz eC (fF (eY (eT i (eY z))) (eT i (eY (eT i (eY z))))) 5 0 0 0 σ1.2:=⟨_,rfl⟩;have k1a:iU σ1.2 σ1.1 (vN (oq i z) (eY (eT i (eY z)))):=by rw[e1];exact k1
 have g1:Good l σ1.2:=by rw[e1];exact h1.jl
 have le2:σ1.2.Le σ2.2:=by rw[e2];exact iE
 have k2a:iU σ2.2 σ2.1 (fF (eY (eT i (eY z))) (eT i (eY (eT i (eY z))))):=by rw[e2,e1];exact k2
 have g2:Good l σ2.2:=by rw[e2,e1];exact h2.jl
 have h3:=jF (g:=fF (eY (eT i (eY z))) (oq i z)) (from_:=[σ1.1]) g2 (fnz.im (hz.po hi)) (λhb n hn=>by rw[cS.1 hn];exact((k1a.le le2) hb).1) (λhb _ v hv=>by
  have q:=hv _ (cS.2 rfl);rw[((k1a.le le2) hb).2,Ik]at q;rw[uz];cases x1:gA v (oq i z)<;>cases x2:gA v (eY (eT i (eY z)))<;>simp_all);obtain⟨σ3,e3⟩:∃s,s=fJ eC (fF (eY (eT i (eY z))) (oq i z)) [σ1.1] σ2.2:=⟨_,rfl⟩;have le3:σ2.2.Le σ3.2:=by rw[e3];exact iC
 have g3:Good l σ3.2:=by rw[e3];exact h3.jl
 have k3:iU σ3.2 σ3.1 (fF (eY (eT i (eY z))) (oq i z)):=by rw[e3];exact jO
 have h4:=Ce (i:=i) (p:=eY (eT i (eY z))) (q:=oq i z) (n:=σ3.1) hi g3 fnz (hz.po hi) k3;obtain⟨σ4,e4⟩:∃s,s=mw eC i (eY (eT i (eY z))) (oq i z) σ3.1 σ3.2:=⟨_,rfl⟩;have le4:σ3.2.Le σ4.2:=by rw[e4];exact sG
 have g4:Good l σ4.2:=by rw[e4];exact h4.jl
 have k4:iU σ4.2 σ4.1 (fF (eT i (eY (eT i (eY z)))) (eT i (oq i z))):=by rw[e4];exact pN
 have k1b:=k1a.le (le2.trans (le3.trans le4));have k2b:=k2a.le (le3.trans le4);have h5':=jF (g:=fF (oq i z) (eT i (oq i z))) (from_:=[σ1.1,σ2.1,σ4.1]) g4 ((hz.po hi).im ((hz.po hi).kw hi)) (λhb n hn=>by
  simp only[dS,dv,ep]at hn;rcases hn with rfl|rfl|rfl;exact(k1b hb).1;exact(k2b hb).1;exact(k4 hb).1) (λhb _ v hv=>by
  have q1:=hv _ aF;have q2:=hv _ (cy _ aF);have q3:=hv _ (cy _ (cy _ aF));rw[(k1b hb).2,Ik]at q1;rw[(k2b hb).2,uz]at q2;rw[(k4 hb).2,uz]at q3;rw[uz];cases x1:gA v (oq i z)<;>cases x2:gA v (eY (eT i (eY z)))<;>cases x3:gA v (eT i (eY (eT i (eY z))))<;>cases x4:gA v (eT i (oq i z))<;>simp_all);have s1:=h1.same;have s2:=h2.same;have s3:=h3.same;have s4:=h4.same;have s5:=h5'.same;rw[<-e1]at s1 s2;rw[<-e2]at s2;rw[<-e3]at s3;rw[<-e4]at s4;constructor;simp only[pr];rw[<-s1,<-e1,<-s2,<-e2,<-s3,<-e3,<-s4,<-e4];exact s5;simp only[pr];rw[<-e1,<-e2,<-e3,<-e4];exact h5'.jl
end
end
section
variable{i:Int}{b:List NV}{k:Nat}
structure SD where
  set:eF
  eM:Int
  on:Int
  e:Int
  fr:ar
structure SV where
  d:SD
  fa:ae
  fc:Nat
def nd(b:List NV)(i:Int):NV:=b.getD i.toNat ⟨0,0,0,0,0,0⟩
def tA(b:List NV)(i:Int):Tr:=eA b i.toNat
def fw(s:eF)(i:Int):Bool:=decide (0<=i/\i<64) && s.getLsbD i.toNat
def bW(i:Int):eF:=1#64<<<i.toNat
theorem pK{s:eF}{i:Nat}:fw s i=true↔s.getLsbD i=true:=by
 unfold fw;simp only[di,dg,c7];exact⟨λh=>h.2,λh=>⟨⟨aH,by have:=BitVec.lt_of_getLsbD h;omega⟩,h⟩⟩
theorem lk{s:eF} :fw s i=true↔∃k:Nat,i=k/\k<64/\s.getLsbD k=true:=by
 unfold fw;simp only[di,dg];exact⟨λh=>⟨i.toNat,aH,aH,h.2⟩,λ⟨k,h1,h2,h3⟩=>⟨aH,by subst h1;exact h3⟩⟩
theorem oZ  (h:0<=i/\i<64):(bW i).getLsbD k=true↔(k:Int)=i:=by
 unfold bW;rw[BI aH];omega
noncomputable def jP(b:List NV)(i:Int):Int:=match (List.range b.length).find? (λj=>decide (eA b j=jv (tA b i)))with
 |some j=>(j:Int)
 |none=>-1
theorem w9  {j:Nat}(hj:j<b.length)(h:eA b j=jv (tA b i))(hf:∀k,k<j->eA b k≠jv (tA b i)):jP b i=j:=by
 have:(List.range b.length).find? (λj=>decide (eA b j=jv (tA b i)))=some j:=by
  rw[List.find?_range_eq_some];exact⟨by simpa using h,by simpa using hj,λk hk=>by simpa using hf k hk⟩
 unfold jP;rw[this]
theorem C4  (hf:∀k,k<b.length->eA b k≠jv (tA b i)):jP b i=-1:=by
 have:(List.range b.length).find? (λj=>decide (eA b j=jv (tA b i)))=none:=by
  rw[List.find?_eq_none];intro k hk;simpa using hf k (dO.1 hk)
 unfold jP;rw[this]
theorem xY  (h:0<=jP b i):∃j:Nat,jP b i=j/\j<b.length/\eA b j=jv (tA b i):=by
 cases e:(List.range b.length).find? (λj=>decide (eA b j=jv (tA b i)))with
 |none=>unfold jP at h;rw[e]at h;exact absurd h aI
 |some j=>
  have h1:=List.mem_of_find?_eq_some e;have h2:=List.find?_some e;exact⟨j,by unfold jP;rw[e],dO.1 h1,by simpa using h2⟩
def tF(l:Int):Prop:=l=3\/l=4\/l=5\/l=6
def v5(l:Int):Prop:=l=5\/l=6
instance{l:Int}:Decidable (tF l):=by unfold tF;infer_instance
instance{l:Int}:Decidable (v5 l):=by unfold v5;infer_instance
def yC(l:Int)(b:List NV)(i:Int):eF:=(if (nd b i).op=9 then bW (nd b i).x else 0#64)|||(if ((nd b i).op=9/\tF l)\/((nd b i).op=10/\v5 l)then bW i else 0#64)
def ll(l:Int)(b:List NV)(s:eF)(ag:Int):Nat->eF
 |0=>0#64
 |k+1=>if fw s k=true/\(nd b k).i=ag then ll l b s ag k|||yC l b k else ll l b s ag k
def lp(l:Int)(b:List NV)(s:eF)(ag:Int):eF:=ll l b s ag b.length
def iA(b:List NV)(s:eF):Prop:=∀k,s.getLsbD k=true->k<b.length
def fN(ss:List SD)(k:Int):eF:=(ss.map SD.set).getD k.toNat 0#64
def jQ(ss:List SD)(k:Nat):ar->List eF->Prop
 |[],[]=>True
 |f::fs,s::us=>((0<=f/\f<k)/\fN ss f &&& ~~~ s=0#64)/\jQ ss k fs us
 |_,_=>False
def GD(b:List NV)(x:SD)(op:Int):Prop:=x.on<b.length/\fw x.set x.on=true/\(nd b x.on).op=op
def ir(l:Int)(b:List NV)(ss:List SD)(k:Nat)(x:SD):Prop:=
 iA b x.set/\(
 (x.eM=1/\x.fr=[]/\((GD b x 2/\x.e=0)\/(fw x.set x.on=true/\x.on<b.length/\fw x.set x.e=true/\jP b x.on=x.e)))\/
 (x.eM=2/\x.e=0/\GD b x 5/\jQ ss k x.fr [x.set|||bW (nd b x.on).x|||bW (nd b x.on).y])\/
 (x.eM=3/\x.e=0/\GD b x 6/\jQ ss k x.fr [x.set|||bW (nd b x.on).x,x.set|||bW (nd b x.on).y])\/
 (x.eM=4/\(0<=x.on/\x.on<b.length)/\0<=x.e/\jP b x.on=x.e/\jQ ss k x.fr [x.set|||bW x.on,x.set|||bW x.e])\/
 (x.eM=5/\x.e=0/\(l=2\/l=4\/l=6)/\GD b x 9/\jQ ss k x.fr [x.set|||bW (nd b x.on).x])\/
 (x.eM=6/\x.e=0/\GD b x 10/\jQ ss k x.fr [bW (nd b x.on).x|||lp l b x.set (nd b x.on).i])\/
 (x.eM=7/\x.e=0/\(l=1\/l=5)/\(0<=x.on/\x.on<4)/\jQ ss k x.fr [lp l b x.set x.on]))
def mF(b:List NV)(n:NV):Prop:=(n.op=1\/n.op=2\/n.op=3\/n.op=5\/n.op=6\/n.op=9\/n.op=10)\/(n.op=4/\(nd b n.x).op=3)
open Classical in
noncomputable def oF(b:List NV):Int:=if fK b≠0 then fK b else if 64<b.length then 8 else if ∀n∈b,mF b n then 0 else 10
noncomputable def jT(l:Int)(b:List NV)(m:Nat):Int:=if ¬(0<=l/\l<=6)then 2 else if oF b≠0 then oF b else if m=0\/4096<m then 3 else 0
open Classical in
noncomputable def py(l:Int)(b:List NV)(ss:List SD):Int:=if jT l b ss.length≠0 then jT l b ss.length else if ∀(k:Nat) (hk:k<ss.length),ir l b ss k ss[k]then 0 else 13
theorem rm :oF b=0↔fK b=0/\b.length<=64/\∀n∈b,mF b n:=by
 unfold oF;by_cases h2:fK b=0;rw[if_neg (by simp[h2])];by_cases h3:64<b.length;rw[if_pos h3];exact⟨λh=>absurd h aI,λh=>aH⟩;rw[if_neg h3];by_cases h4:∀n∈b,mF b n;rw[if_pos h4];exact⟨λ_=>⟨h2,aH,h4⟩,λ_=>rfl⟩;rw[if_neg h4];exact⟨λh=>absurd h aI,λh=>absurd h.2.2 h4⟩;rw[if_pos h2];exact⟨λh=>absurd h h2,λh=>absurd h.1 h2⟩
theorem rh{l:Int} {m:Nat}:jT l b m=0↔(0<=l/\l<=6)/\oF b=0/\0<m/\m<=4096:=by
 unfold jT;by_cases h1:0<=l/\l<=6;rw[if_neg (by simp[h1])];by_cases h2:oF b=0;rw[if_neg (by simp[h2])];by_cases h3:m=0\/4096<m;rw[if_pos h3];exact⟨λh=>absurd h aI,λh=>aH⟩;rw[if_neg h3];exact⟨λ_=>⟨h1,h2,aH⟩,λ_=>rfl⟩;rw[if_pos h2];exact⟨λh=>absurd h h2,λh=>absurd h.2.1 h2⟩;rw[if_pos h1];exact⟨λh=>absurd h aI,λh=>absurd h.1 h1⟩
theorem Eh{l:Int} {ss:List SD}:py l b ss=0↔(0<=l/\l<=6)/\(fK b=0/\b.length<=64/\∀n∈b,mF b n)/\(0<ss.length/\ss.length<=4096)/\∀(k:Nat) (hk:k<ss.length),ir l b ss k ss[k]:=by
 unfold py;by_cases h1:jT l b ss.length=0;rw[if_neg (by simp[h1])];have h2:=rh.1 h1;have h3:=rm.1 h2.2.1;by_cases h6:∀(k:Nat) (hk:k<ss.length),ir l b ss k ss[k];rw[if_pos h6];exact⟨λ_=>⟨h2.1,h3,h2.2.2,h6⟩,λ_=>rfl⟩;rw[if_neg h6];exact⟨λh=>absurd h aI,λh=>absurd h.2.2.2 h6⟩;rw[if_pos h1];exact⟨λh=>absurd h h1,λ⟨a,c,d,_⟩=>absurd (rh.2 ⟨a,rm.2 c,d⟩) h1⟩
def iR(b:List NV)(s:eF)(ag:Int)(n:Nat):Nat:=((List.range b.length).find? (λi=>s.getLsbD i && ((nd b i).op==9 && ((nd b i).i==ag && (nd b i).x==(n:Int))))).getD n
def D9(b:List NV)(s:eF)(ag:Int)(p:eF):eF:=(jd p).foldl (λo n=>o|||1#64<<<iR b s ag n) 0#64
def nV(b:List NV)(x:SD)(bf:List eF):eF:=
 let p:=bf.getD (x.fr.getD 0 0).toNat 0#64
 let q:=bf.getD (x.fr.getD 1 0).toNat 0#64
 let n:=nd b x.on
 if x.eM=1 then(if n.op=2 then bW x.on else bW x.on|||bW x.e)
 else if x.eM=4 then p &&& ~~~ bW x.on|||q &&& ~~~ bW x.e
 else if x.eM=7 then D9 b x.set x.on p
 else if x.eM=2 then p &&& ~~~ (bW n.x|||bW n.y)|||bW x.on
 else if x.eM=3 then p &&& ~~~ bW n.x|||q &&& ~~~ bW n.y|||bW x.on
 else if x.eM=5 then p &&& ~~~ bW n.x|||bW x.on
 else D9 b x.set n.i (p &&& ~~~ bW n.x)|||bW x.on
def jY(b:List NV)(ss:List SD):Nat->List eF
 |0=>[]
 |k+1=>match ss[k]? with
  |some x=>jY b ss k++[nV b x (jY b ss k)]
  |none=>jY b ss k
theorem qd {ss:List SD} (hk:k<ss.length):jY b ss (k+1)=jY b ss k++[nV b ss[k] (jY b ss k)]:=by
 rw[jY,bH hk]
theorem pB{b:List NV}{ss:List SD}:∀{k:Nat},k<=ss.length->(jY b ss k).length=k
 |0,_=>rfl
 |k+1,h=>by rw[qd aH,cQ,pB aH];rfl
theorem yT{b:List NV}{ss:List SD}{j:Nat}:∀{k:Nat},j<=k->k<=ss.length->jY b ss j<+:jY b ss k
 |0,h,_=>by rw[show j=0 by omega];exact dw _
 |k+1,h,h2=>by
  by_cases e:j=k+1;rw[e];exact dw _;rw[qd aH];exact(yT aH aH).trans (cU _ _)
def qe(b:List NV)(ss:List SD)(k:Nat):eF:=(jY b ss ss.length).getD k 0#64
theorem rC {ss:List SD}{j:Nat}(hj:j<k)(hk:k<=ss.length):(jY b ss k).getD j 0#64=qe b ss j:=by
 obtain⟨u,hu⟩:=yT (b:=b) (ss:=ss) hk (dZ _);unfold qe;rw[<-hu,aY,aY,bt (by rw[pB hk];exact hj)]
theorem JK {ss:List SD} (hk:k<ss.length):qe b ss k=nV b ss[k] (jY b ss k):=by
 rw[<-rC (dy k) aH,qd hk,aY,aZ (by rw[pB aH];exact dZ _)];simp[pB (Nat.le_of_lt hk)]
inductive Am (ss:List SD):Nat->Prop
  |last {k:Nat}:k+1=ss.length->Am ss k
  |fr {k j:Nat} (hk:k<ss.length):Am ss k->(j:Int)∈ss[k].fr->Am ss j
open Classical in
noncomputable def gj(ss:List SD)(k:Nat):Bool:=decide (Am ss k)
theorem jB{ss:List SD} :gj ss k=true↔Am ss k:=by unfold gj;exact @decide_eq_true_iff _ (Classical.propDecidable _)
noncomputable def kZ(b:List NV)(ss:List SD)(k:Nat)(x:SD):SD:=
 ⟨qe b ss k,x.eM,x.on,if x.eM=1/\(nd b x.on).op=2 then 0 else x.e,x.fr.map (λj=>((ff (gj ss) j.toNat:Nat):Int))⟩
noncomputable def te(b:List NV)(ss:List SD):Nat->List SD
 |0=>[]
 |k+1=>match ss[k]? with
  |some x=>if gj ss k=true then te b ss k++[kZ b ss k x]else te b ss k
  |none=>te b ss k
noncomputable def fT(b:List NV)(ss:List SD):List SD:=te b ss ss.length
theorem mU {ss:List SD} (hk:k<ss.length):te b ss (k+1)=if gj ss k=true then te b ss k++[kZ b ss k ss[k]]else te b ss k:=by
 rw[te,bH hk]
theorem pE{b:List NV}{ss:List SD}:∀{k:Nat},k<=ss.length->(te b ss k).length=ff (gj ss) k
 |0,_=>by simp[te,ff]
 |k+1,h=>by
  have h1:=pE (b:=b) (ss:=ss) (k:=k) aH;rw[mU aH,jw];split<;>simp[h1]
theorem Bo{b:List NV}{ss:List SD}{j:Nat}(hn:gj ss j=true):∀{k:Nat},k<=ss.length->j<k->∀hj:j<ss.length,(te b ss k)[ff (gj ss) j]?=some (kZ b ss j ss[j])
 |0,_,h,_=>aH
 |k+1,h,h2,hj=>by
  rw[mU aH];by_cases e:j=k;subst e;rw[if_pos hn,aZ (by rw[pE aH];exact dZ _),pE aH];simp;have h3:=Bo (b:=b) hn (k:=k) aH aH hj;split;rw[bt (bu.1 h3).1];exact h3;exact h3
end
section
variable{k:Nat}{s t:eF}
theorem rG :s &&& ~~~ t=0#64↔∀k,s.getLsbD k=true->t.getLsbD k=true:=by
 constructor;intro h k hk;have:=eh (λx=>x.getLsbD k) h;simp only[BitVec.getLsbD_and,BitVec.getLsbD_not,hk,BitVec.getLsbD_zero,Bool.true_and]at this;have h64:=BitVec.lt_of_getLsbD hk;simpa[h64]using this;intro h;apply BitVec.eq_of_getLsbD_eq;intro i hi;simp only[BitVec.getLsbD_and,BitVec.getLsbD_not,BitVec.getLsbD_zero];cases hs:s.getLsbD i with
 |false=>rfl
 |true=>simp[h i hs]
theorem iv  :(s|||t).getLsbD k=true↔s.getLsbD k=true\/t.getLsbD k=true:=by simp
theorem lh  :(s &&& ~~~ t).getLsbD k=true↔s.getLsbD k=true/\¬t.getLsbD k=true:=by
 simp only[BitVec.getLsbD_and,BitVec.getLsbD_not,di,dg,c6,Bool.not_eq_true];exact⟨λh=>⟨h.1,h.2.2⟩,λh=>⟨h.1,BitVec.lt_of_getLsbD h.1,h.2⟩⟩
theorem NX (h:∀k,s.getLsbD k=true↔t.getLsbD k=true):s=t:=by
 apply BitVec.eq_of_getLsbD_eq;intro i _;rw[dA];exact h i
structure eX (b:List NV):Prop where
  oe:fK b=0
  len:b.length<=64
  MM:∀n∈b,mF b n
section
variable{l:Int}{b:List NV}{ss:List SD}
theorem jf{i:Nat}(hi:i<b.length):nd b i=b[i]:=by simp[nd,hi]
theorem eX.x(h:eX b){i:Nat}(hi:i<b.length)(hX:4<=(nd b i).op):0<=(nd b i).x/\(nd b i).x<i:=by
 rw[jf hi]at*;have ho:=(eO.1 h.oe).nodes i hi;have h1:=h.MM _ (dq hi);have hu:iX b[i].op=true:=by unfold iX;unfold mF at h1;simp;omega
 have:=ho.x hu;omega
theorem eX.y(h:eX b){i:Nat}(hi:i<b.length)(hX:(nd b i).op=5\/(nd b i).op=6):0<=(nd b i).y/\(nd b i).y<i:=by
 rw[jf hi]at*;have ho:=(eO.1 h.oe).nodes i hi;have hu:ij b[i].op=true:=by unfold ij;rcases hX with e|e<;>rw[e]<;>rfl
 have:=ho.y hu;omega
theorem je {ag:Int}{n:Nat}:(∃i,iR b s ag n=i/\i<b.length/\s.getLsbD i=true/\(nd b i).op=9/\(nd b i).i=ag/\(nd b i).x=n/\∀j,j<i->s.getLsbD j=true->(nd b j).op=9->(nd b j).i=ag->(nd b j).x≠n)\/(iR b s ag n=n/\∀j,j<b.length->s.getLsbD j=true->(nd b j).op=9->(nd b j).i=ag->(nd b j).x≠n):=by
 cases e:(List.range b.length).find? (λi=>s.getLsbD i && ((nd b i).op==9 && ((nd b i).i==ag && (nd b i).x==(n:Int))))with
 |none=>
  refine .inr ⟨by unfold iR;rw[e];rfl,λj hj h1 h2 h3 h4=>?_⟩;rw[List.find?_eq_none]at e;exact e j (dO.2 hj) (by simp[h1,h2,h3,h4])
 |some i=>
  rw[List.find?_range_eq_some]at e;obtain⟨e1,e2,e3⟩:=e;simp only[di,eg]at e1;refine .inl ⟨i,?_,dO.1 e2,e1.1,e1.2.1,e1.2.2.1,e1.2.2.2,λj hj h1 h2 h3 h4=>?_⟩;have:(List.range b.length).find? (λi=>s.getLsbD i && ((nd b i).op==9 && ((nd b i).i==ag && (nd b i).x==(n:Int))))=some i:=by
   rw[List.find?_range_eq_some];exact⟨by simp[e1],e2,e3⟩
  unfold iR;rw[this];rfl;have:=e3 j hj;simp[h1,h2,h3,h4]at this
theorem G6(hl:b.length<=64) {ag:Int}{n:Nat}(hn:n<64):iR b s ag n<64:=by
 rcases je (b:=b) (s:=s) (ag:=ag) (n:=n)with⟨i,h1,h2,_⟩|⟨h1,_⟩;omega;omega
theorem BF{f:Nat->Nat}:∀{ns:aq} {o:eF} {k:Nat},(∀n∈ns,f n<64)->((ns.foldl (λo n=>o|||1#64<<<f n) o).getLsbD k=true↔o.getLsbD k=true\/∃n∈ns,f n=k)
 |[],o,k,_=>by simp
 |n::ns,o,k,h=>by
  rw[List.foldl_cons,BF (λm hm=>h m (cy _ hm)),iv,BI (h n aF)];simp only[dS,exists_eq_or_imp];constructor;rintro ((h1|h1)|h1);exact .inl h1;exact .inr (.inl h1.symm);exact .inr (.inr h1);rintro (h1|h1|h1);exact .inl (.inl h1);exact .inl (.inr h1.symm);exact .inr h1
theorem gH  :k∈jd s↔s.getLsbD k=true:=by
 unfold jd;rw[dH,dO];exact⟨λh=>h.2,λh=>⟨BitVec.lt_of_getLsbD h,h⟩⟩
theorem yZ(hl:b.length<=64){p:eF}{ag:Int} :(D9 b s ag p).getLsbD k=true↔∃n,p.getLsbD n=true/\iR b s ag n=k:=by
 unfold D9;rw[BF (λn hn=>G6 hl (BitVec.lt_of_getLsbD (gH.1 hn)))];simp only[BitVec.getLsbD_zero,Bool.false_eq_true,false_or,gH]
theorem tO(h:eX b){s:eF}{ag:Int}{k:Nat}:∀{m:Nat},m<=b.length->((ll l b s ag m).getLsbD k=true↔∃i:Nat,i<m/\s.getLsbD i=true/\(nd b i).i=ag/\(((nd b i).op=9/\(nd b i).x=k)\/(k=i/\(((nd b i).op=9/\tF l)\/((nd b i).op=10/\v5 l)))))
 |0,_=>by simp[ll]
 |m+1,hm=>by
  have hcn:(yC l b m).getLsbD k=true↔(((nd b m).op=9/\(nd b m).x=k)\/(k=m/\(((nd b m).op=9/\tF l)\/((nd b m).op=10/\v5 l)))):=by
   unfold yC;rw[iv];apply or_congr;by_cases h9:(nd b m).op=9;have:=h.x (i:=m) aH aH;have:=h.len;rw[if_pos h9,oZ aH];exact⟨λe=>⟨h9,e.symm⟩,λe=>e.2.symm⟩;rw[if_neg h9];simp[h9];by_cases h9:((nd b m).op=9/\tF l)\/((nd b m).op=10/\v5 l);have:=h.len;rw[if_pos h9,oZ aH];exact⟨λe=>⟨aH,h9⟩,λe=>aH⟩;rw[if_neg h9];simp[h9]
  rw[ll];by_cases h1:fw s m=true/\(nd b m).i=ag;rw[if_pos h1,iv,tO h aH,hcn];constructor;rintro (⟨i,h2,h3⟩|h2);exact⟨i,aH,h3⟩;exact⟨m,aH,pK.1 h1.1,h1.2,h2⟩;rintro ⟨i,h2,h3,h4,h5⟩;by_cases e:i=m;subst e;exact .inr h5;exact .inl ⟨i,aH,h3,h4,h5⟩;rw[if_neg h1,tO h aH];constructor;rintro ⟨i,h2,h3⟩;exact⟨i,aH,h3⟩;rintro ⟨i,h2,h3,h4,h5⟩;by_cases e:i=m;subst e;exact absurd ⟨pK.2 h3,h4⟩ h1;exact⟨i,aH,h3,h4,h5⟩
theorem my(h:eX b) {ag:Int} :(lp l b s ag).getLsbD k=true↔∃i:Nat,i<b.length/\s.getLsbD i=true/\(nd b i).i=ag/\(((nd b i).op=9/\(nd b i).x=k)\/(k=i/\(((nd b i).op=9/\tF l)\/((nd b i).op=10/\v5 l)))):=tO h (dZ _)
theorem jQ.one {fs:ar} (h:jQ ss k fs [s]):∃j:Nat,fs=[(j:Int)]/\j<k/\∀n,(fN ss j).getLsbD n=true->s.getLsbD n=true:=by
 cases fs with
 |nil=>exact h.elim
 |cons f fs=>
  cases fs with
  |cons _ _=>exact h.2.elim
  |nil=>
   obtain⟨⟨h1,h2⟩,_⟩:=h;refine⟨f.toNat,by rw[show((f.toNat:Nat):Int)=f by omega],aH,?_⟩;rw[show((f.toNat:Nat):Int)=f by omega];exact rG.1 h2
theorem jQ.two {fs:ar}{u:eF}(h:jQ ss k fs [s,u]):∃j i:Nat,fs=[(j:Int),(i:Int)]/\j<k/\i<k/\(∀n,(fN ss j).getLsbD n=true->s.getLsbD n=true)/\∀n,(fN ss i).getLsbD n=true->u.getLsbD n=true:=by
 cases fs with
 |nil=>exact h.elim
 |cons f fs=>
  obtain⟨⟨h1,h2⟩,h3⟩:=h;obtain⟨i,rfl,hi,hu⟩:=jQ.one h3;refine⟨f.toNat,i,by rw[show((f.toNat:Nat):Int)=f by omega],aH,hi,?_,hu⟩;rw[show((f.toNat:Nat):Int)=f by omega];exact rG.1 h2
theorem pX{j:Nat} (hj:j<k)(h:∀n,(fN ss j).getLsbD n=true->s.getLsbD n=true):jQ ss k [(j:Int)] [s]:=⟨⟨aH,rG.2 h⟩,ez⟩
theorem Ae{j i:Nat}{u:eF}(hj:j<k)(hi:i<k)(h:∀n,(fN ss j).getLsbD n=true->s.getLsbD n=true)(h2:∀n,(fN ss i).getLsbD n=true->u.getLsbD n=true):jQ ss k [(j:Int),(i:Int)] [s,u]:=⟨⟨aH,rG.2 h⟩,pX hi h2⟩
theorem ir.pM {x:SD}(h:ir l b ss k x){f:Int}(hf:f∈x.fr):0<=f/\f<k:=by
 have one:∀{s:eF},jQ ss k x.fr [s]->0<=f/\f<k:=λh=>by
  obtain⟨j,e,hj,_⟩:=h.one;rw[e,cS]at hf;omega
 have two:∀{s u:eF},jQ ss k x.fr [s,u]->0<=f/\f<k:=λh=>by
  obtain⟨j,i,e,hj,hi,_⟩:=h.two;rw[e]at hf;simp only[dS,dv,ep]at hf;omega
 rcases h.2 with⟨_,h,_⟩|⟨_,_,_,h⟩|⟨_,_,_,h⟩|⟨_,_,_,_,h⟩|⟨_,_,_,_,h⟩|⟨_,_,_,h⟩|⟨_,_,_,_,h⟩;rw[h]at hf;cases hf;exact one h;exact two h;exact two h;exact one h;exact one h;exact one h
theorem GD.nat(_h:eX b){x:SD}{op:Int}(g:GD b x op):∃o:Nat,x.on=o/\o<b.length/\x.set.getLsbD o=true/\(nd b x.on).op=op:=by
 obtain⟨h1,h2,h3⟩:=g;obtain⟨k,h4,h5,h6⟩:=lk.1 h2;exact⟨k,h4,aH,h6,h3⟩
end
end
section
variable{k n:Nat}{s:eF}
section
variable{l:Int}{b:List NV}{ss:List SD}
abbrev Us(b:List NV)(ss:List SD)(k n:Nat):Prop:=(qe b ss k).getLsbD n=true
inductive wK (l:Int) (b:List NV) (ss:List SD) (k:Nat) (x:SD):Prop
  |yP (o:Nat):x.eM=1->x.fr=[]->x.on=o->o<b.length->x.set.getLsbD o=true->(nd b o).op=2->(∀n,Us b ss k n↔n=o)->wK l b ss k x
  |neg (o e:Nat):x.eM=1->x.fr=[]->x.on=o->o<b.length->x.set.getLsbD o=true->(nd b o).op≠2->x.e=e->e<b.length->x.set.getLsbD e=true->jP b o=e->eA b e=jv (eA b o)->(∀n,Us b ss k n↔n=o\/n=e)->wK l b ss k x
  |and (o j:Nat):x.eM=2->x.e=0->x.fr=[(j:Int)]->j<k->x.on=o->o<b.length->x.set.getLsbD o=true->(nd b o).op=5->(∀n:Nat,(fN ss j).getLsbD n=true->x.set.getLsbD n=true\/(n:Int)=(nd b o).x\/(n:Int)=(nd b o).y)->(∀n:Nat,Us b ss k n↔(Us b ss j n/\(n:Int)≠(nd b o).x/\(n:Int)≠(nd b o).y)\/n=o)->wK l b ss k x
  |or (o j i:Nat):x.eM=3->x.e=0->x.fr=[(j:Int),(i:Int)]->j<k->i<k->x.on=o->o<b.length->x.set.getLsbD o=true->(nd b o).op=6->(∀n:Nat,(fN ss j).getLsbD n=true->x.set.getLsbD n=true\/(n:Int)=(nd b o).x)->(∀n:Nat,(fN ss i).getLsbD n=true->x.set.getLsbD n=true\/(n:Int)=(nd b o).y)->(∀n:Nat,Us b ss k n↔(Us b ss j n/\(n:Int)≠(nd b o).x)\/(Us b ss i n/\(n:Int)≠(nd b o).y)\/n=o)->wK l b ss k x
  |cut (o e j i:Nat):x.eM=4->x.fr=[(j:Int),(i:Int)]->j<k->i<k->x.on=o->o<b.length->x.e=e->e<b.length->jP b o=e->eA b e=jv (eA b o)->(∀n:Nat,(fN ss j).getLsbD n=true->x.set.getLsbD n=true\/n=o)->(∀n:Nat,(fN ss i).getLsbD n=true->x.set.getLsbD n=true\/n=e)->(∀n:Nat,Us b ss k n↔(Us b ss j n/\n≠o)\/(Us b ss i n/\n≠e))->wK l b ss k x
  |t (o j:Nat):x.eM=5->x.e=0->(l=2\/l=4\/l=6)->x.fr=[(j:Int)]->j<k->x.on=o->o<b.length->x.set.getLsbD o=true->(nd b o).op=9->(∀n:Nat,(fN ss j).getLsbD n=true->x.set.getLsbD n=true\/(n:Int)=(nd b o).x)->(∀n:Nat,Us b ss k n↔(Us b ss j n/\(n:Int)≠(nd b o).x)\/n=o)->wK l b ss k x
  |k (o j:Nat):x.eM=6->x.e=0->x.fr=[(j:Int)]->j<k->x.on=o->o<b.length->x.set.getLsbD o=true->(nd b o).op=10->(∀n:Nat,(fN ss j).getLsbD n=true->(lp l b x.set (nd b o).i).getLsbD n=true\/(n:Int)=(nd b o).x)->(∀n:Nat,Us b ss k n↔(∃m,Us b ss j m/\(m:Int)≠(nd b o).x/\iR b x.set (nd b o).i m=n)\/n=o)->wK l b ss k x
  |d (j:Nat):x.eM=7->x.e=0->(l=1\/l=5)->x.fr=[(j:Int)]->j<k->(0<=x.on/\x.on<4)->(∀n:Nat,(fN ss j).getLsbD n=true->(lp l b x.set x.on).getLsbD n=true)->(∀n:Nat,Us b ss k n↔∃m,Us b ss j m/\iR b x.set x.on m=n)->wK l b ss k x
theorem JW(hb:eX b) (hk:k<ss.length)(h:ir l b ss k ss[k]):wK l b ss k ss[k]:=by
 obtain⟨x,hx⟩:∃x,x=ss[k]:=⟨_,rfl⟩;have hu:=JK (b:=b) hk;rw[<-hx]at h hu⊢;have hlen:=hb.len;have hbw:∀{i:Int} {n:Nat},0<=i->i<64->((bW i).getLsbD n=true↔(n:Int)=i):=λh1 h2=>oZ ⟨h1,h2⟩;have hp0:∀{j:Nat} {fs:ar},j<k->x.fr=(j:Int)::fs->(jY b ss k).getD (x.fr.getD 0 0).toNat 0#64=qe b ss j:=λhj e=>by
  rw[e];exact rC hj (Nat.le_of_lt hk)
 have hp1:∀{j i:Nat},i<k->x.fr=[(j:Int),(i:Int)]->(jY b ss k).getD (x.fr.getD 1 0).toNat 0#64=qe b ss i:=λhj e=>by
  rw[e];exact rC hj (Nat.le_of_lt hk)
 rcases h.2 with⟨h1,h2,h3⟩|⟨h1,h2,h3,h4⟩|⟨h1,h2,h3,h4⟩|⟨h1,h2,h3,h4,h5⟩|⟨h1,h2,h3,h4,h5⟩|⟨h1,h2,h3,h4⟩|⟨h1,h2,h3,h4,h5⟩;unfold nV at hu;rw[if_pos h1]at hu;rcases h3 with⟨h3,h4⟩|⟨h3,h4,h5,h6⟩;obtain⟨o,e1,e2,e3,e4⟩:=h3.nat hb;rw[if_pos e4]at hu;rw[e1]at e4;exact .yP o h1 h2 e1 e2 e3 e4 (λn=>by unfold Us;rw[hu,e1,hbw aH aH];omega);obtain⟨o,e1,e2,e3⟩:=lk.1 h3;obtain⟨e,f1,f2,f3⟩:=lk.1 h5;have ho:o<b.length:=aH;obtain⟨j,g1,g2,g3⟩:=xY (b:=b) (i:=x.on) aH;have hje:j=e:=aH;subst hje;by_cases h2':(nd b x.on).op=2;rw[if_pos h2']at hu;rw[e1]at h2';exact .yP o h1 h2 e1 ho e3 h2' (λn=>by unfold Us;rw[hu,e1,hbw aH aH];omega);rw[if_neg h2']at hu;rw[e1]at h2' g3 g1;refine .neg o j h1 h2 e1 ho e3 h2' f1 g2 f3 g1 (by rw[g3];rfl) (λn=>?_);unfold Us;rw[hu,iv,e1,f1,hbw aH aH,hbw aH aH];omega;obtain⟨o,e1,e2,e3,e4⟩:=h3.nat hb;obtain⟨j,f1,f2,f3⟩:=h4.one;rw[e1]at e4 f3;have hx1:=hb.x e2 aH;have hy1:=hb.y e2 aH;unfold nV at hu;rw[if_neg aH,if_neg aH,if_neg aH,if_pos h1,hp0 f2 f1,e1]at hu;refine .and o j h1 h2 f1 f2 e1 e2 e3 e4 (λn hn=>?_) (λn=>?_);have:=f3 n hn;rw[iv,iv,hbw aH aH,hbw aH aH]at this;rcases this with(h|h)|h;exact .inl h;exact .inr (.inl h);exact .inr (.inr h);unfold Us;rw[hu,iv,lh,iv,hbw aH aH,hbw aH aH,hbw aH aH,not_or];exact or_congr Iff.rfl aH;obtain⟨o,e1,e2,e3,e4⟩:=h3.nat hb;obtain⟨j,i,f1,f2,f3,f4,f5⟩:=h4.two;rw[e1]at e4 f4 f5;have hx1:=hb.x e2 aH;have hy1:=hb.y e2 aH;unfold nV at hu
 rw[if_neg aH,if_neg aH,if_neg aH,if_neg aH,if_pos h1,hp0 f2 f1,hp1 f3 f1,e1]at hu;refine .or o j i h1 h2 f1 f2 f3 e1 e2 e3 e4 (λn hn=>?_) (λn hn=>?_) (λn=>?_);have:=f4 n hn;rwa[iv,hbw aH aH]at this;have:=f5 n hn;rwa[iv,hbw aH aH]at this;unfold Us;rw[hu,iv,iv,lh,lh,hbw aH aH,hbw aH aH,hbw aH aH,or_assoc];exact or_congr Iff.rfl (or_congr Iff.rfl aH);obtain⟨j,i,f1,f2,f3,f4,f5⟩:=h5.two;obtain⟨e,g1,g2,g3⟩:=xY (b:=b) (i:=x.on) aH;obtain⟨o,e1⟩:∃o:Nat,x.on=o:=⟨x.on.toNat,aH⟩;have ee:x.e=e:=aH;rw[e1]at h2 h4 f4 g1 g3;rw[ee]at f5;unfold nV at hu;rw[if_neg aH,if_pos h1,hp0 f2 f1,hp1 f3 f1,e1,ee]at hu;refine .cut o e j i h1 f1 f2 f3 e1 aH ee g2 g1 (by rw[g3];rfl) (λn hn=>?_) (λn hn=>?_) (λn=>?_);have:=f4 n hn;rw[iv,hbw aH aH]at this;exact this.imp id (λh=>aH);have:=f5 n hn;rw[iv,hbw aH aH]at this;exact this.imp id (λh=>aH);unfold Us;rw[hu,iv,lh,lh,hbw aH aH,hbw aH aH];exact or_congr (and_congr Iff.rfl aH) (and_congr Iff.rfl aH);obtain⟨o,e1,e2,e3,e4⟩:=h4.nat hb;obtain⟨j,f1,f2,f3⟩:=h5.one;rw[e1]at e4 f3;have hx1:=hb.x e2 aH;unfold nV at hu;rw[if_neg aH,if_neg aH,if_neg aH,if_neg aH,if_neg aH,if_pos h1,hp0 f2 f1,e1]at hu;refine .t o j h1 h2 h3 f1 f2 e1 e2 e3 e4 (λn hn=>?_) (λn=>?_);have:=f3 n hn;rwa[iv,hbw aH aH]at this;unfold Us;rw[hu,iv,lh,hbw aH aH,hbw aH aH];exact or_congr Iff.rfl aH;obtain⟨o,e1,e2,e3,e4⟩:=h3.nat hb;obtain⟨j,f1,f2,f3⟩:=h4.one;rw[e1]at e4 f3;have hx1:=hb.x e2 aH;unfold nV at hu
 rw[if_neg aH,if_neg aH,if_neg aH,if_neg aH,if_neg aH,if_neg aH,hp0 f2 f1,e1]at hu;refine .k o j h1 h2 f1 f2 e1 e2 e3 e4 (λn hn=>?_) (λn=>?_);have:=f3 n hn;rw[iv,hbw aH aH]at this;exact this.symm;unfold Us;rw[hu,iv,yZ hlen,hbw aH aH];refine or_congr (exists_congr λm=>?_) aH;rw[lh,hbw aH aH];exact and_assoc;obtain⟨j,f1,f2,f3⟩:=h5.one;unfold nV at hu;rw[if_neg aH,if_neg aH,if_pos h1,hp0 f2 f1]at hu;refine .d j h1 h2 h3 f1 f2 h4 f3 (λn=>?_);unfold Us;rw[hu,yZ hlen]
theorem gG{j:Nat}(hj:j<ss.length):fN ss j=ss[j].set:=by simp[fN,hj]
structure iT (l:Int) (b:List NV) (ss:List SD):Prop where
  log:0<=l/\l<=6
  base:eX b
  pos:0<ss.length
  len:ss.length<=4096
  nR:∀(k:Nat) (hk:k<ss.length),ir l b ss k ss[k]
theorem j5:py l b ss=0↔iT l b ss:=by
 rw[Eh];exact⟨λ⟨h1,⟨h2,h3,h4⟩,⟨h5,h6⟩,h7⟩=>⟨h1,⟨h2,h3,h4⟩,h5,h6,h7⟩,λh=>⟨h.log,⟨h.base.oe,h.base.len,h.base.MM⟩,⟨h.pos,h.len⟩,h.nR⟩⟩
theorem iT.I4(h:iT l b ss) (hk:k<ss.length):wK l b ss k ss[k]:=JW h.base hk (h.nR k hk)
theorem Eb(hb:eX b) {ag:Int} (hn:(lp l b s ag).getLsbD n=true):s.getLsbD (iR b s ag n)=true:=by
 rcases je (b:=b) (s:=s) (ag:=ag) (n:=n)with⟨i,h1,h2,h3,_⟩|⟨h1,h2⟩;rw[h1];exact h3;rw[h1];obtain⟨i,g1,g2,g3,g4⟩:=(my hb).1 hn;rcases g4 with⟨g4,g5⟩|⟨g4,g5⟩;exact absurd g5 (h2 i g1 g2 g4 g3);rw[g4];exact g2
theorem iT.sub(h:iT l b ss):∀(k:Nat) (hk:k<ss.length) (n:Nat),Us b ss k n->ss[k].set.getLsbD n=true:=by
 intro k
 induction k using Nat.strongRecOn with
 |_ k ih=>
 intro hk n hn;have ihS:∀(j:Nat),j<k->∀m,Us b ss j m->(fN ss j).getLsbD m=true:=λj hj m hm=>by
  rw[gG aH];exact ih j hj aH m hm
 cases h.I4 hk with
 |yP o h1 h2 h3 h4 h5 h6 h7=>rw[(h7 n).1 hn];exact h5
 |neg o e h1 h2 h3 h4 h5 h6 h7 h8 h9 h10 h11 h12=>
  rcases(h12 n).1 hn with e|e;rw[e];exact h5;rw[e];exact h9
 |and o j h1 h2 h3 h4 h5 h6 h7 h8 h9 h10=>
  rcases(h10 n).1 hn with⟨e1,e2,e3⟩|e;rcases h9 n (ihS j h4 n e1)with g|g|g;exact g;exact absurd g e2;exact absurd g e3;rw[e];exact h7
 |or o j i h1 h2 h3 h4 h5 h6 h7 h8 h9 h10 h11 h12=>
  rcases(h12 n).1 hn with⟨e1,e2⟩|⟨e1,e2⟩|e;exact(h10 n (ihS j h4 n e1)).resolve_right e2;exact(h11 n (ihS i h5 n e1)).resolve_right e2;rw[e];exact h8
 |cut o e j i h1 h2 h3 h4 h5 h6 h7 h8 h9 h10 h11 h12 h13=>
  rcases(h13 n).1 hn with⟨e1,e2⟩|⟨e1,e2⟩;exact(h11 n (ihS j h3 n e1)).resolve_right e2;exact(h12 n (ihS i h4 n e1)).resolve_right e2
 |t o j h1 h2 h3 h4 h5 h6 h7 h8 h9 h10 h11=>
  rcases(h11 n).1 hn with⟨e1,e2⟩|e;exact(h10 n (ihS j h5 n e1)).resolve_right e2;rw[e];exact h8
 |k o j h1 h2 h3 h4 h5 h6 h7 h8 h9 h10=>
  rcases(h10 n).1 hn with⟨m,e1,e2,e3⟩|e;rw[<-e3];exact Eb h.base ((h9 m (ihS j h4 m e1)).resolve_right e2);rw[e];exact h7
 |d j h1 h2 h3 h4 h5 h6 h7 h8=>
  obtain⟨m,e1,e2⟩:=(h8 n).1 hn;rw[<-e2];exact Eb h.base (h7 m (ihS j h5 m e1))
theorem oO:(fT b ss).length=ff (gj ss) ss.length:=pE (dZ _)
theorem qX (hk:k<ss.length)(hn:gj ss k=true):∃hc:ff (gj ss) k<(fT b ss).length,(fT b ss)[ff (gj ss) k]=kZ b ss k ss[k]:=by
 have:=Bo (b:=b) hn (dZ _) hk hk;exact bu.1 this
theorem tf{q:Nat}(hq:q<(fT b ss).length):∃(k:Nat) (hk:k<ss.length),gj ss k=true/\ff (gj ss) k=q/\(fT b ss)[q]=kZ b ss k ss[k]:=by
 rw[oO]at hq;obtain⟨k,h1,h2,h3⟩:=FF hq;subst h3;exact⟨k,h1,h2,rfl,(qX h1 h2).2⟩
theorem uE (hk:k<ss.length)(hn:gj ss k=true):fN (fT b ss) (ff (gj ss) k:Nat)=qe b ss k:=by
 obtain⟨h1,h2⟩:=qX (b:=b) hk hn;rw[gG h1,h2];rfl
theorem iT.pre(h:iT l b ss){j:Nat}(hk:k<ss.length)(hn:gj ss k=true)(hj:(j:Int)∈ss[k].fr):gj ss j=true/\j<k/\ff (gj ss) j<ff (gj ss) k:=by
 have h1:gj ss j=true:=jB.2 (.fr hk (jB.1 hn) hj);have h2:=(h.nR k hk).pM hj;exact⟨h1,aH,Ch aH h1⟩
theorem vg{u:eF}{ag:Int} (hs:∀m,u.getLsbD m=true->s.getLsbD m=true)(hu:u.getLsbD (iR b s ag n)=true):iR b u ag n=iR b s ag n:=by
 rcases je (b:=b) (s:=u) (ag:=ag) (n:=n)with⟨i,h1,h2,h3,h4,h5,h6,h7⟩|⟨h1,h2⟩;rcases je (b:=b) (s:=s) (ag:=ag) (n:=n)with⟨j,g1,g2,g3,g4,g5,g6,g7⟩|⟨g1,g2⟩;have:¬i<j:=λhlt=>g7 i hlt (hs _ h3) h4 h5 h6;rw[h1,g1];rw[g1]at hu;by_cases e:i=j;exact e;exact absurd g6 (h7 j aH hu g4 g5);exact absurd h6 (g2 i h2 (hs _ h3) h4 h5);rcases je (b:=b) (s:=s) (ag:=ag) (n:=n)with⟨j,g1,g2,g3,g4,g5,g6,g7⟩|⟨g1,g2⟩;rw[g1]at hu;exact absurd g6 (h2 j g2 hu g4 g5);rw[h1,g1]
theorem FN(hb:eX b){u:eF}{ag:Int} (hn:(lp l b s ag).getLsbD n=true)(hu:u.getLsbD (iR b s ag n)=true):(lp l b u ag).getLsbD n=true:=by
 rw[my hb];rcases je (b:=b) (s:=s) (ag:=ag) (n:=n)with⟨j,g1,g2,g3,g4,g5,g6,g7⟩|⟨g1,g2⟩;rw[g1]at hu;exact⟨j,g2,hu,g5,.inl ⟨g4,g6⟩⟩;rw[g1]at hu;obtain⟨i,k1,k2,k3,k4⟩:=(my hb).1 hn;rcases k4 with⟨k4,k5⟩|⟨k4,k5⟩;exact absurd k5 (g2 i k1 k2 k4 k3);subst k4;exact⟨n,k1,hu,k3,.inr ⟨rfl,k5⟩⟩
theorem iT.JP(h:iT l b ss) (hk:k<ss.length)(hn:gj ss k=true):ir l b (fT b ss) (ff (gj ss) k) (kZ b ss k ss[k]):=by
 have hb:=h.base;have hlen:=hb.len;have hbw:∀{i:Int} {n:Nat},0<=i->i<64->((bW i).getLsbD n=true↔(n:Int)=i):=λh1 h2=>oZ ⟨h1,h2⟩;have hsub:=h.sub k hk;have hsb:∀(j:Nat),(j:Int)∈ss[k].fr->∀m,Us b ss j m->(fN ss j).getLsbD m=true:=λj hj m hm=>by
  have:=(h.pre hk hn hj).2.1;rw[gG aH];exact h.sub j aH m hm
 have hset:∀(j:Nat),(j:Int)∈ss[k].fr->fN (fT b ss) (ff (gj ss) j:Nat)=qe b ss j:=λj hj=>
  uE (by have:=(h.pre hk hn hj).2.1;omega) (h.pre hk hn hj).1;refine⟨λn hn=>(h.nR k hk).1 n (hsub n hn),?_⟩;have hin:∀{o:Nat},Us b ss k o->fw (kZ b ss k ss[k]).set o=true:=λh=>pK.2 h;cases h.I4 hk with
 |yP o h1 h2 h3 h4 h5 h6 h7=>
  have e0:(nd b ss[k].on).op=2:=by rw[h3];exact h6
  refine .inl ⟨h1,by simp[kZ,h2],.inl ⟨⟨by show ss[k].on<_;omega,by show fw _ ss[k].on=true;rw[h3];exact hin ((h7 o).2 rfl),e0⟩,?_⟩⟩;show(if _ then _ else _)=_;rw[if_pos ⟨h1,e0⟩]
 |neg o e h1 h2 h3 h4 h5 h6 h7 h8 h9 h10 h11 h12=>
  have e0:¬(nd b ss[k].on).op=2:=by rw[h3];exact h6
  have ee:(kZ b ss k ss[k]).e=e:=by
   show(if _ then _ else _)=_;rw[if_neg (λh=>e0 h.2)];exact h7
  have eo:(kZ b ss k ss[k]).on=o:=h3;refine .inl ⟨h1,by simp[kZ,h2],.inr ⟨?_,?_,?_,?_⟩⟩;rw[eo];exact hin ((h12 o).2 (.inl rfl));rw[eo];omega;rw[ee];exact hin ((h12 e).2 (.inr rfl));rw[eo,ee];exact h10
 |and o j h1 h2 h3 h4 h5 h6 h7 h8 h9 h10=>
  have hm:(j:Int)∈ss[k].fr:=by rw[h3];exact cS.2 rfl
  have ee:(kZ b ss k ss[k]).e=0:=by show(if _ then _ else _)=_;rw[if_neg aH];exact h2
  have eo:(kZ b ss k ss[k]).on=o:=h5;have ef:(kZ b ss k ss[k]).fr=[((ff (gj ss) j:Nat):Int)]:=by simp[kZ,h3]
  have hx1:=hb.x h6 aH;have hy1:=hb.y h6 aH;refine .inr (.inl ⟨h1,ee,⟨by rw[eo];omega,by rw[eo];exact hin ((h10 o).2 (.inr rfl)),by rw[eo];exact h8⟩,?_⟩);rw[ef,eo];refine pX (h.pre hk hn hm).2.2 (λn hn=>?_);rw[hset j hm]at hn;rw[iv,iv,hbw aH aH,hbw aH aH];by_cases c1:(n:Int)=(nd b o).x;exact .inl (.inr c1);by_cases c2:(n:Int)=(nd b o).y;exact .inr c2;exact .inl (.inl ((h10 n).2 (.inl ⟨hn,c1,c2⟩)))
 |or o j i h1 h2 h3 h4 h5 h6 h7 h8 h9 h10 h11 h12=>
  have hm:(j:Int)∈ss[k].fr:=by rw[h3];simp
  have hm2:(i:Int)∈ss[k].fr:=by rw[h3];simp
  have ee:(kZ b ss k ss[k]).e=0:=by show(if _ then _ else _)=_;rw[if_neg aH];exact h2
  have eo:(kZ b ss k ss[k]).on=o:=h6;have ef:(kZ b ss k ss[k]).fr=[((ff (gj ss) j:Nat):Int),((ff (gj ss) i:Nat):Int)]:=by simp[kZ,h3]
  have hx1:=hb.x h7 aH;have hy1:=hb.y h7 aH;refine .inr (.inr (.inl ⟨h1,ee,⟨by rw[eo];omega,by rw[eo];exact hin ((h12 o).2 (.inr (.inr rfl))),by rw[eo];exact h9⟩,?_⟩));rw[ef,eo];refine Ae (h.pre hk hn hm).2.2 (h.pre hk hn hm2).2.2 (λn hn=>?_) (λn hn=>?_);rw[hset j hm]at hn;rw[iv,hbw aH aH];by_cases c1:(n:Int)=(nd b o).x;exact .inr c1;exact .inl ((h12 n).2 (.inl ⟨hn,c1⟩));rw[hset i hm2]at hn;rw[iv,hbw aH aH];by_cases c1:(n:Int)=(nd b o).y;exact .inr c1;exact .inl ((h12 n).2 (.inr (.inl ⟨hn,c1⟩)))
 |cut o e j i h1 h2 h3 h4 h5 h6 h7 h8 h9 h10 h11 h12 h13=>
  have hm:(j:Int)∈ss[k].fr:=by rw[h2];simp
  have hm2:(i:Int)∈ss[k].fr:=by rw[h2];simp
  have ee:(kZ b ss k ss[k]).e=e:=by show(if _ then _ else _)=_;rw[if_neg aH];exact h7
  have eo:(kZ b ss k ss[k]).on=o:=h5;have ef:(kZ b ss k ss[k]).fr=[((ff (gj ss) j:Nat):Int),((ff (gj ss) i:Nat):Int)]:=by simp[kZ,h2]
  refine .inr (.inr (.inr (.inl ⟨h1,by rw[eo];omega,by rw[ee];omega,by rw[eo,ee];exact h9,?_⟩)));rw[ef,eo,ee];refine Ae (h.pre hk hn hm).2.2 (h.pre hk hn hm2).2.2 (λn hn=>?_) (λn hn=>?_);rw[hset j hm]at hn;rw[iv,hbw aH aH];by_cases c1:n=o;exact .inr aH;exact .inl ((h13 n).2 (.inl ⟨hn,c1⟩));rw[hset i hm2]at hn;rw[iv,hbw aH aH];by_cases c1:n=e;exact .inr aH;exact .inl ((h13 n).2 (.inr ⟨hn,c1⟩))
 |t o j h1 h2 h3 h4 h5 h6 h7 h8 h9 h10 h11=>
  have hm:(j:Int)∈ss[k].fr:=by rw[h4];exact cS.2 rfl
  have ee:(kZ b ss k ss[k]).e=0:=by show(if _ then _ else _)=_;rw[if_neg aH];exact h2
  have eo:(kZ b ss k ss[k]).on=o:=h6;have ef:(kZ b ss k ss[k]).fr=[((ff (gj ss) j:Nat):Int)]:=by simp[kZ,h4]
  have hx1:=hb.x h7 aH;refine .inr (.inr (.inr (.inr (.inl ⟨h1,ee,h3,⟨by rw[eo];omega,by rw[eo];exact hin ((h11 o).2 (.inr rfl)),by rw[eo];exact h9⟩,?_⟩))));rw[ef,eo];refine pX (h.pre hk hn hm).2.2 (λn hn=>?_);rw[hset j hm]at hn;rw[iv,hbw aH aH];by_cases c1:(n:Int)=(nd b o).x;exact .inr c1;exact .inl ((h11 n).2 (.inl ⟨hn,c1⟩))
 |k o j h1 h2 h3 h4 h5 h6 h7 h8 h9 h10=>
  have hm:(j:Int)∈ss[k].fr:=by rw[h3];exact cS.2 rfl
  have ee:(kZ b ss k ss[k]).e=0:=by show(if _ then _ else _)=_;rw[if_neg aH];exact h2
  have eo:(kZ b ss k ss[k]).on=o:=h5;have ef:(kZ b ss k ss[k]).fr=[((ff (gj ss) j:Nat):Int)]:=by simp[kZ,h3]
  have hx1:=hb.x h6 aH;refine .inr (.inr (.inr (.inr (.inr (.inl ⟨h1,ee,⟨by rw[eo];omega,by rw[eo];exact hin ((h10 o).2 (.inr rfl)),by rw[eo];exact h8⟩,?_⟩)))));rw[ef,eo];refine pX (h.pre hk hn hm).2.2 (λn hn=>?_);rw[hset j hm]at hn;rw[iv,hbw aH aH];by_cases c1:(n:Int)=(nd b o).x;exact .inl c1;exact .inr (FN hb ((h9 n (hsb j hm n hn)).resolve_right c1) ((h10 _).2 (.inl ⟨n,hn,c1,rfl⟩)))
 |d j h1 h2 h3 h4 h5 h6 h7 h8=>
  have hm:(j:Int)∈ss[k].fr:=by rw[h4];exact cS.2 rfl
  have ee:(kZ b ss k ss[k]).e=0:=by show(if _ then _ else _)=_;rw[if_neg aH];exact h2
  have ef:(kZ b ss k ss[k]).fr=[((ff (gj ss) j:Nat):Int)]:=by simp[kZ,h4]
  refine .inr (.inr (.inr (.inr (.inr (.inr ⟨h1,ee,h3,h6,?_⟩)))));rw[ef];refine pX (h.pre hk hn hm).2.2 (λn hn=>?_);rw[hset j hm]at hn;exact FN hb (h7 n (hsb j hm n hn)) ((h8 _).2 ⟨n,hn,rfl⟩)
theorem iT.tr(h:iT l b ss):iT l b (fT b ss):=by
 have hlast:gj ss (ss.length - 1)=true:=jB.2 (.last (by have:=h.pos;omega));refine⟨h.log,h.base,?_,?_,λq hq=>?_⟩;obtain⟨h1,_⟩:=qX (b:=b) (k:=ss.length - 1) (by have:=h.pos;omega) hlast;omega;rw[oO];have:=sN (p:=gj ss) (k:=ss.length);have:=h.len;omega;obtain⟨k,hk,h1,h2,h3⟩:=tf hq;rw[h3,<-h2];exact h.JP hk h1
end
end
structure TC where
  l:Int
  b:List NV
  ng:ar
  ag:eF
structure TS where
  ss:List SD
  op:List eF
def TC.has(c:TC)(s:eF)(i:Nat):Bool:=decide (i<c.b.length) && fw s i
def TC.BA(c:TC):Bool:=c.l==2||c.l==4||c.l==6
def TC.cut(c:TC):Bool:=c.l==5||c.l==6
def TC.n(c:TC)(i:Nat):NV:=nd c.b i
def TC.m(c:TC)(i:Nat):Int:=c.ng.getD i (-1)
def od(c:TC)(s:eF):Option SD:=
 (List.range c.b.length).findSome? λ(i:Nat)=>
  if fw s i=true then
   if (c.n i).op=2 then some ⟨s,1,i,0,[]⟩
   else if fw s (c.m i)=true then some ⟨s,1,i,c.m i,[]⟩else none
  else none
def kV(c:TC)(s:eF):Option (SD×List eF):=
 match (List.range c.b.length).findSome? (λ(i:Nat)=>
   let x:=bW (c.n i).x;let y:=bW (c.n i).y
   if fw s i=true/\(c.n i).op=5/\s &&& (x|||y)≠x|||y then some (SD.mk s 2 i 0 [],[s|||x|||y])
   else if fw s i=true/\(c.n i).op=9/\c.BA=true/\s &&& x=0#64 then some (SD.mk s 5 i 0 [],[s|||x])else none)with
 |some r=>some r
 |none=>(List.range c.b.length).findSome? (λ(i:Nat)=>
   let x:=bW (c.n i).x;let y:=bW (c.n i).y
   if fw s i=true/\(c.n i).op=6/\s &&& (x|||y)=0#64 then some (SD.mk s 3 i 0 [],[s|||x,s|||y])
   else if c.cut=true/\(c.n i).op=9/\fw s i=false/\fw s (c.m i)=false then some (SD.mk s 4 i (c.m i) [],[s|||bW i,s|||bW (c.m i)])else none)
def jx(c:TC)(s:eF):List (SD×eF):=
 ((List.range c.b.length).filterMap λ(i:Nat)=>if fw s i=true/\(c.n i).op=10 then some (SD.mk s 6 i 0 [],bW (c.n i).x|||lp c.l c.b s (c.n i).i)else none)++
 ((List.range 4).filterMap λ(a:Nat)=>if c.ag.getLsbD a=true/\(c.l=1\/c.l=5)then some (SD.mk s 7 a 0 [],lp c.l c.b s a)else none)
def pw(rec:TS->eF->Option ((Int×Int)×TS)):List eF->ar->TS->Option ((Sum Int ar)×TS)
 |[],fr,σ=>some (.inr fr,σ)
 |x::xs,fr,σ=>match rec σ x with
  |none=>none
  |some ((n,low),σ1)=>if n<0 then some (.inl low,σ1)else pw rec xs (fr++[n]) σ1
def o7(rec:TS->eF->Option ((Int×Int)×TS)):List (SD×eF)->Int->TS->Option ((Sum Int SD)×TS)
 |[],low,σ=>some (.inl low,σ)
 |(y,x)::xs,low,σ=>match rec σ x with
  |none=>none
  |some ((n,lw),σ1)=>if 0<=n then some (.inr {y with fr:=[n]},σ1)else o7 rec xs (min low lw) σ1
def jE(c:TC)(rec:TS->eF->Option ((Int×Int)×TS))(d:Nat)(s:eF)(σ:TS):Option ((Int×Int)×TS):=
 match kV c s with
 |some (y,xs)=>match pw rec xs [] σ with
  |none=>none
  |some (.inl low,σ1)=>some ((-1,low),σ1)
  |some (.inr fr,σ1)=>some (((σ1.ss.length:Int),(d:Int)),⟨σ1.ss++[{y with fr:=fr}],σ1.op⟩)
 |none=>match o7 rec (jx c s) (d+1) σ with
  |none=>none
  |some (.inl low,σ1)=>some ((-1,low),σ1)
  |some (.inr y,σ1)=>some (((σ1.ss.length:Int),(d:Int)),⟨σ1.ss++[y],σ1.op⟩)
def nG(ss:List SD)(s:eF):ah:=ss.findIdx? (λx=>x.set==s)
def gx(c:TC):Nat->List eF->TS->eF->Option ((Int×Int)×TS)
 |0,_,_,_=>none
 |k+1,path,σ,s=>
  match nG σ.ss s with
  |some n=>some (((n:Int),(path.length:Int)),σ)
  |none=>if s∈σ.op then some ((-1,(path.length:Int)),σ)else
   match path.findIdx? (·==s)with
   |some at_=>some ((-1,(at_:Int)),σ)
   |none=>match od c s with
    |some y=>some (((σ.ss.length:Int),(path.length:Int)),⟨σ.ss++[y],σ.op⟩)
    |none=>match jE c (gx c k (path++[s])) path.length s σ with
     |none=>none
     |some ((n,low),σ1)=>some ((n,low),if n<0/\(path.length:Int)<=low then⟨σ1.ss,σ1.op++[s]⟩else σ1)
section
variable{c:TC}{r r':TS->eF->Option ((Int×Int)×TS)}
end
structure yK (c:TC):Prop where
  log:0<=c.l/\c.l<=6
  base:eX c.b
  ng:∀i,i<c.b.length->c.m i=jP c.b i
  kn:∀i,i<c.b.length->(c.n i).op=9->0<=c.m i/\c.m i<c.b.length
structure o8 (c:TC) (ss:List SD):Prop where
  nR:∀(k:Nat) (hk:k<ss.length),ir c.l c.b ss k ss[k]
  nd:(ss.map SD.set).Nodup
section
variable{l:Int}{b:List NV}{ss ys:List SD}
theorem rL{k:Int}(h:k.toNat<ss.length):fN (ss++ys) k=fN ss k:=by
 unfold fN;rw[dF,aY,aY,bt (by simpa using h)]
theorem m8:∀{fs:ar} {us:List eF} {k:Nat},k<=ss.length->jQ ss k fs us->jQ (ss++ys) k fs us
 |[],[],_,_,_=>ez
 |f::fs,u::us,k,hk,h=>⟨⟨h.1.1,by rw[rL (by have:=h.1.1;omega)];exact h.1.2⟩,m8 hk h.2⟩
 |[],_::_,_,_,h=>h.elim
 |_::_,[],_,_,h=>h.elim
theorem zP{k:Nat}{x:SD}(hk:k<=ss.length)(h:ir l b ss k x):ir l b (ss++ys) k x:=by
 refine⟨h.1,?_⟩;rcases h.2 with h|⟨a,b1,c,d⟩|⟨a,b1,c,d⟩|⟨a,b1,c,d,e⟩|⟨a,b1,c,d,e⟩|⟨a,b1,c,d⟩|⟨a,b1,c,d,e⟩;exact .inl h;exact .inr (.inl ⟨a,b1,c,m8 hk d⟩);exact .inr (.inr (.inl ⟨a,b1,c,m8 hk d⟩));exact .inr (.inr (.inr (.inl ⟨a,b1,c,d,m8 hk e⟩)));exact .inr (.inr (.inr (.inr (.inl ⟨a,b1,c,d,m8 hk e⟩))));exact .inr (.inr (.inr (.inr (.inr (.inl ⟨a,b1,c,m8 hk d⟩)))));exact .inr (.inr (.inr (.inr (.inr (.inr ⟨a,b1,c,d,m8 hk e⟩)))))
end
theorem o8.add{c:TC}{ss:List SD}(h:o8 c ss){x:SD}(hx:ir c.l c.b ss ss.length x)(hn:∀y∈ss,y.set≠x.set):o8 c (ss++[x]):=by
 refine⟨λk hk=>?_,?_⟩;by_cases e:k<ss.length;rw[bJ e];exact zP aH (h.nR k e);have:k=ss.length:=by simp at hk;omega
 subst this;rw[bB (dZ _)];simp only[dW,List.getElem_cons_zero];exact zP (dZ _) hx;rw[dF,de];refine⟨h.nd,by simp,λa ha b' hb=>?_⟩;obtain⟨y,hy,rfl⟩:=dU.1 ha;simp only[dR,List.map_nil,cS]at hb;subst hb;exact hn y hy
def yO(ss:List SD):ar->List eF->Prop
 |[],[]=>True
 |n::ns,x::xs=>(0<=n/\n<ss.length/\fN ss n=x)/\yO ss ns xs
 |_,_=>False
theorem yO.app{ss ys:List SD}:∀{ns:ar} {xs:List eF},yO ss ns xs->yO (ss++ys) ns xs
 |[],[],_=>ez
 |n::ns,x::xs,h=>⟨⟨h.1.1,by have:=h.1.2.1;simp;omega,by rw[rL (by have:=h.1;omega)];exact h.1.2.2⟩,yO.app h.2⟩
 |[],_::_,h=>h.elim
 |_::_,[],h=>h.elim
theorem yO.snoc{ss:List SD}{n:Int}{x:eF}(hx:0<=n/\n<ss.length/\fN ss n=x):∀{ns:ar} {xs:List eF},yO ss ns xs->yO ss (ns++[n]) (xs++[x])
 |[],[],_=>⟨hx,ez⟩
 |_::_,_::_,h=>⟨h.1,yO.snoc hx h.2⟩
 |[],_::_,h=>h.elim
 |_::_,[],h=>h.elim
theorem yO.pre{ss:List SD}:∀{ns:ar} {xs:List eF},yO ss ns xs->jQ ss ss.length ns xs
 |[],[],_=>ez
 |n::ns,x::xs,h=>⟨⟨⟨h.1.1,h.1.2.1⟩,by rw[h.1.2.2];simp⟩,yO.pre h.2⟩
 |[],_::_,h=>h.elim
 |_::_,[],h=>h.elim
structure Kept (c:TC) (path:List eF) (σ σ1:TS):Prop where
  ok:o8 c σ1.ss
  ext:∃ys:List SD,σ1.ss=σ.ss++ys/\∀y∈ys,y.set∉path
theorem Kept.refl{c:TC}{path:List eF}{σ:TS}(h:o8 c σ.ss):Kept c path σ σ:=⟨h,[],by simp,by simp⟩
theorem Kept.trans{c:TC}{path:List eF}{σ σ1 σ2:TS}(h:Kept c path σ σ1)(h2:Kept c path σ1 σ2):Kept c path σ σ2:=by
 obtain⟨ys,e1,h1⟩:=h.ext;obtain⟨zs,e2,h3⟩:=h2.ext;exact⟨h2.ok,ys++zs,by rw[e2,e1,c9],λy hy=>(dG.1 hy).elim (h1 y) (h3 y)⟩
def PQ(ss:List SD)(n:Int)(s:eF):Prop:=n=-1\/(0<=n/\n<ss.length/\fN ss n=s)
abbrev xC(c:TC)(path:List eF)(r:TS->eF->Option ((Int×Int)×TS)):Prop:=
 ∀σ s n low σ1,o8 c σ.ss->iA c.b s->r σ s=some ((n,low),σ1)->Kept c path σ σ1/\PQ σ1.ss n s
section
variable{c:TC}{path:List eF}{r:TS->eF->Option ((Int×Int)×TS)}
theorem Cz(hr:xC c path r):∀{xs done:List eF} {fr:ar} {σ σ1:TS} {z},o8 c σ.ss->(∀x∈xs,iA c.b x)->yO σ.ss fr done->pw r xs fr σ=some (z,σ1)->
  Kept c path σ σ1/\∀fs,z=.inr fs->yO σ1.ss fs (done++xs)
 |[],done,fr,σ,σ1,z,h,_,hg,e=>by
  unfold pw at e;cases e;exact⟨.refl h,λfs e=>by cases e;simpa using hg⟩
 |x::xs,done,fr,σ,σ1,z,h,hx,hg,e=>by
  unfold pw at e;cases e1:r σ x with
  |none=>rw[e1]at e;cases e
  |some q=>
   obtain⟨⟨n,low⟩,σ2⟩:=q;rw[e1]at e;simp only at e;obtain⟨k1,a1⟩:=hr _ _ _ _ _ h (hx x aF) e1;by_cases hn:n<0;rw[if_pos hn]at e;cases e;exact⟨k1,λfs e=>by cases e⟩;rw[if_neg hn]at e;obtain⟨ys,ey,_⟩:=k1.ext;have hg2:yO σ2.ss (fr++[n]) (done++[x]):=by
    rcases a1 with a1|a1;omega;exact yO.snoc a1 (by rw[ey];exact hg.app)
   obtain⟨k2,a2⟩:=Cz hr k1.ok (λy hy=>hx y (cy _ hy)) hg2 e;exact⟨k1.trans k2,λfs e=>by have:=a2 fs e;simpa using this⟩
theorem Cw(hr:xC c path r):∀{xs:List (SD×eF)} {low:Int} {σ σ1:TS} {z},o8 c σ.ss->(∀x∈xs,iA c.b x.2)->o7 r xs low σ=some (z,σ1)->
  Kept c path σ σ1/\∀y,z=.inr y->∃y0 n x,(y0,x)∈xs/\y={y0 with fr:=[n]}/\yO σ1.ss [n] [x]
 |[],low,σ,σ1,z,h,_,e=>by
  unfold o7 at e;cases e;exact⟨.refl h,λy e=>by cases e⟩
 |(y0,x)::xs,low,σ,σ1,z,h,hx,e=>by
  unfold o7 at e;cases e1:r σ x with
  |none=>rw[e1]at e;cases e
  |some q=>
   obtain⟨⟨n,lw⟩,σ2⟩:=q;rw[e1]at e;simp only at e;obtain⟨k1,a1⟩:=hr _ _ _ _ _ h (hx (y0,x) aF) e1;by_cases hn:0<=n;rw[if_pos hn]at e;cases e;refine⟨k1,λy e=>?_⟩;cases e;refine⟨y0,n,x,aF,rfl,?_,ez⟩;rcases a1 with a1|a1;omega;exact a1;rw[if_neg hn]at e;obtain⟨k2,a2⟩:=Cw hr k1.ok (λy hy=>hx y (cy _ hy)) e;refine⟨k1.trans k2,λy e=>?_⟩;obtain⟨y1,n1,x1,h1,h2,h3⟩:=a2 y e;exact⟨y1,n1,x1,cy _ h1,h2,h3⟩
end
section
variable{b:List NV}{y:SD}
section
variable{c:TC}{s:eF}
theorem nP {s t:eF}(hs:iA b s)(ht:iA b t):iA b (s|||t):=λk h=>by
 rw[BitVec.getLsbD_or,dB]at h;exact h.elim (hs k) (ht k)
theorem mQ (hb:b.length<=64){i:Int}(h:0<=i/\i<b.length):iA b (bW i):=λk hk=>by
 have:=(oZ aH).1 hk;omega
theorem zx {l:Int}(hb:eX b){s:eF}{ag:Int}:iA b (lp l b s ag):=λk hk=>by
 obtain⟨i,h1,h2,h3,h4⟩:=(my hb).1 hk;rcases h4 with⟨h4,h5⟩|⟨h4,h5⟩;have:=hb.x h1 aH;omega;omega
theorem zS(hc:yK c)(hs:iA c.b s) (e:od c s=some y)(ss:List SD):y.set=s/\ir c.l c.b ss ss.length y:=by
 unfold od at e;obtain⟨i,hi,e⟩:=aT e;have hi:=dO.1 hi;by_cases h:fw s i=true;rw[if_pos h]at e;by_cases h2:(c.n i).op=2;rw[if_pos h2]at e;cases e;exact⟨rfl,hs,.inl ⟨rfl,rfl,.inl ⟨⟨by simpa using hi,h,h2⟩,rfl⟩⟩⟩;rw[if_neg h2]at e;by_cases h3:fw s (c.m i)=true;rw[if_pos h3]at e;cases e;exact⟨rfl,hs,.inl ⟨rfl,rfl,.inr ⟨h,by simpa using hi,h3,(hc.ng i hi).symm⟩⟩⟩;rw[if_neg h3]at e;cases e;rw[if_neg h]at e;cases e
theorem vH(hc:yK c)(hs:iA c.b s) {xs:List eF}(e:kV c s=some (y,xs)):y.set=s/\(∀x∈xs,iA c.b x)/\∀(ss:List SD) fs,yO ss fs xs->ir c.l c.b ss ss.length {y with fr:=fs}:=by
 have hl:=hc.base.len;unfold kV at e;split at e;rename_i r er;cases e;obtain⟨i,hi,e⟩:=aT er;have hi:=dO.1 hi;simp only at e;split at e;rename_i h;cases e;have hx:=hc.base.x hi (by have:=h.2.1;unfold TC.n at this;omega);have hy:=hc.base.y hi (.inl (by have:=h.2.1;unfold TC.n at this;exact this));refine⟨rfl,λx hx'=>?_,λss fs hg=>⟨hs,.inr (.inl ⟨rfl,rfl,⟨by simpa using hi,h.1,h.2.1⟩,hg.pre⟩)⟩⟩;rw[cS]at hx';subst hx';exact nP (nP hs (mQ hl (by unfold TC.n;omega))) (mQ hl (by unfold TC.n;omega));split at e;rename_i h;cases e;have hx:=hc.base.x hi (by have:=h.2.1;unfold TC.n at this;omega);refine⟨rfl,λx hx'=>?_,λss fs hg=>⟨hs,.inr (.inr (.inr (.inr (.inl ⟨rfl,rfl,?_,⟨by simpa using hi,h.1,h.2.1⟩,hg.pre⟩))))⟩⟩;rw[cS]at hx';subst hx';exact nP hs (mQ hl (by unfold TC.n;omega));have:=h.2.2.1;simp[TC.BA]at this;omega;cases e;obtain⟨i,hi,e⟩:=aT e;have hi:=dO.1 hi;simp only at e;split at e;rename_i h;cases e;have hx:=hc.base.x hi (by have:=h.2.1;unfold TC.n at this;omega);have hy:=hc.base.y hi (.inr (by have:=h.2.1;unfold TC.n at this;exact this));refine⟨rfl,λx hx'=>?_,λss fs hg=>⟨hs,.inr (.inr (.inl ⟨rfl,rfl,⟨by simpa using hi,h.1,h.2.1⟩,hg.pre⟩))⟩⟩;rcases dS.1 hx' with rfl|hx';exact nP hs (mQ hl (by unfold TC.n;omega));rw[cS]at hx';subst hx';exact nP hs (mQ hl (by unfold TC.n;omega));split at e;rename_i h;cases e;have hk:=hc.kn i hi h.2.1
 refine⟨rfl,λx hx'=>?_,λss fs hg=>⟨hs,.inr (.inr (.inr (.inl ⟨rfl,⟨by simp,by simpa using hi⟩,hk.1,(hc.ng i hi).symm,hg.pre⟩)))⟩⟩;rcases dS.1 hx' with rfl|hx';exact nP hs (mQ hl aH);rw[cS]at hx';subst hx';exact nP hs (mQ hl aH);cases e
theorem p7(hc:yK c)(hs:iA c.b s) {x:eF}(h:(y,x)∈jx c s):y.set=s/\iA c.b x/\∀(ss:List SD) n,yO ss [n] [x]->ir c.l c.b ss ss.length {y with fr:=[n]}:=by
 have hl:=hc.base.len;unfold jx at h;rcases dG.1 h with h|h;obtain⟨i,hi,e⟩:=cR.1 h;have hi:=dO.1 hi;split at e;rename_i hh;cases e;have hx:=hc.base.x hi (by have:=hh.2;unfold TC.n at this;omega);exact⟨rfl,nP (mQ hl (by unfold TC.n;omega)) (zx hc.base),λss n hg=>⟨hs,.inr (.inr (.inr (.inr (.inr (.inl ⟨rfl,rfl,⟨by simpa using hi,hh.1,hh.2⟩,hg.pre⟩)))))⟩⟩;cases e;obtain⟨a,ha,e⟩:=cR.1 h;have ha:=dO.1 ha;split at e;rename_i hh;cases e;exact⟨rfl,zx hc.base,λss n hg=>⟨hs,.inr (.inr (.inr (.inr (.inr (.inr ⟨rfl,rfl,hh.2,⟨by simp,by show(a:Int)<4;omega⟩,hg.pre⟩)))))⟩⟩;cases e
end
end
section
variable{ss:List SD}{s:eF}
theorem tj {y:SD}:fN (ss++[y]) (ss.length:Int)=y.set:=by
 unfold fN;rw[dF,aY,aZ aL];simp
theorem C1  {n:Nat}(h:nG ss s=some n):n<ss.length/\fN ss n=s:=by
 unfold nG at h;obtain⟨h1,h2,_⟩:=List.findIdx?_eq_some_iff_getElem.1 h;refine⟨h1,?_⟩;unfold fN;rw[aY,dc];simpa[h1]using h2
theorem wZ  (h:nG ss s=none):∀y∈ss,y.set≠s:=λy hy e=>by
 unfold nG at h;rw[br]at h;have:=h y hy;simp[e]at this
section
variable{c:TC}
theorem Kept.add{path:List eF}{s:eF}{σ σ1:TS}{y:SD}(h:Kept c (path++[s]) σ σ1)(hy:y.set=s)(hn:∀x∈σ.ss,x.set≠s)(hp:s∉path)(hcor:ir c.l c.b σ1.ss σ1.ss.length y)(op:List eF):Kept c path σ ⟨σ1.ss++[y],op⟩:=by
 obtain⟨ys,e,h1⟩:=h.ext;refine⟨h.ok.add hcor (λx hx=>?_),ys++[y],by rw[e,c9],λx hx=>?_⟩;rw[hy];rw[e]at hx;rcases dG.1 hx with hx|hx;exact hn x hx;exact λe=>h1 x hx (by rw[e];simp);rcases dG.1 hx with hx|hx;exact λhm=>h1 x hx (cx _ hm);rw[cS]at hx;rw[hx,hy];exact hp
theorem Kept.Mg{path:List eF} {σ σ1:TS}(h:Kept c (path++[s]) σ σ1)(op:List eF):Kept c path σ ⟨σ1.ss,op⟩:=by
 obtain⟨ys,e,h1⟩:=h.ext;exact⟨h.ok,ys,e,λy hy hm=>h1 y hy (cx _ hm)⟩
theorem AW(hc:yK c){path:List eF}{r:TS->eF->Option ((Int×Int)×TS)} (hr:xC c (path++[s]) r){σ σ1:TS}{d:Nat}{n low:Int}(h:o8 c σ.ss)(hs:iA c.b s)(hn:∀x∈σ.ss,x.set≠s)(hp:s∉path)
  (e:jE c r d s σ=some ((n,low),σ1)):Kept c path σ σ1/\PQ σ1.ss n s:=by
 unfold jE at e;cases e1:kV c s with
 |some q=>
  obtain⟨y,xs⟩:=q;rw[e1]at e;simp only at e;obtain⟨hy,hx,hcor⟩:=vH hc hs e1;cases e2:pw r xs [] σ with
  |none=>rw[e2]at e;cases e
  |some q=>
   obtain⟨z,σ2⟩:=q;rw[e2]at e;obtain⟨k1,g1⟩:=Cz hr h hx (fr:=[]) (done:=[]) (by exact True.intro) e2;cases z with
   |inl lw=>simp only at e;cases e;exact⟨k1.Mg _,.inl rfl⟩
   |inr fs=>
    simp only at e;cases e;refine⟨k1.add (by exact hy) hn hp (hcor _ _ (by simpa using g1 fs rfl)) _,.inr ⟨by simp,by simp;omega,?_⟩⟩;rw[tj];exact hy
 |none=>
  rw[e1]at e;simp only at e;cases e2:o7 r (jx c s) (d+1) σ with
  |none=>rw[e2]at e;cases e
  |some q=>
   obtain⟨z,σ2⟩:=q;rw[e2]at e;obtain⟨k1,g1⟩:=Cw hr h (λx hx=>(p7 hc hs (show(x.1,x.2)∈_ from hx)).2.1) e2;cases z with
   |inl lw=>simp only at e;cases e;exact⟨k1.Mg _,.inl rfl⟩
   |inr y=>
    simp only at e;cases e;obtain⟨y0,m,x,hm,rfl,hg⟩:=g1 y rfl;obtain⟨hy,_,hcor⟩:=p7 hc hs hm;refine⟨k1.add (by exact hy) hn hp (hcor _ _ hg) _,.inr ⟨by simp,by simp;omega,?_⟩⟩;rw[tj];exact hy
theorem l9(hc:yK c):∀(k:Nat) (path:List eF),xC c path (gx c k path)
 |0,_,_,_,_,_,_,_,_,e=>by cases e
 |k+1,path,σ,s,n,low,σ1,h,hs,e=>by
  rw[gx]at e;cases e1:nG σ.ss s with
  |some m=>
   rw[e1]at e;simp only at e;cases e;have:=C1 e1;exact⟨.refl h,.inr ⟨by simp,by simpa using this.1,this.2⟩⟩
  |none=>
   rw[e1]at e;simp only at e;by_cases h1:s∈σ.op;rw[if_pos h1]at e;cases e;exact⟨.refl h,.inl rfl⟩;rw[if_neg h1]at e;cases e2:path.findIdx? (·==s)with
   |some a=>rw[e2]at e;simp only at e;cases e;exact⟨.refl h,.inl rfl⟩
   |none=>
    rw[e2]at e;simp only at e;have hp:s∉path:=λhm=>by
     rw[br]at e2;have:=e2 s hm;simp at this
    have hn:=wZ e1;cases e3:od c s with
    |some y=>
     rw[e3]at e;simp only at e;cases e;obtain⟨hy,hcor⟩:=zS hc hs e3 σ.ss;exact⟨(Kept.refl (path:=path++[s]) h).add hy hn hp hcor _,.inr ⟨by simp,by simp;omega,by rw[tj];exact hy⟩⟩
    |none=>
     rw[e3]at e;simp only at e;cases e4:jE c (gx c k (path++[s])) path.length s σ with
     |none=>rw[e4]at e;cases e
     |some q=>
      obtain⟨⟨m,lw⟩,σ2⟩:=q;rw[e4]at e;simp only at e;cases e;obtain⟨k1,a1⟩:=AW hc (l9 hc k (path++[s])) h hs hn hp e4;split;exact⟨⟨k1.ok,k1.ext⟩,a1⟩;exact⟨k1,a1⟩
theorem HZ{b:List NV} (h:iA b s):s.toNat<2^b.length:=
 Nat.lt_pow_two_of_testBit _ λi hi=>by
  cases e:s.toNat.testBit i with
  |false=>rfl
  |true=>have:=h i (by rw[BitVec.getLsbD];exact e);omega
theorem vj{b:List NV}{l:List eF}(hn:l.Nodup)(hi:∀s∈l,iA b s):l.length<=2^b.length:=by
 have h1:(l.map BitVec.toNat).Nodup:=List.pairwise_map.2 (hn.imp λh e=>h (BitVec.eq_of_toNat_eq e));have:=h1.length_le_of_subset (l₂:=List.range (2^b.length)) (λx hx=>by
  obtain⟨s,hs,rfl⟩:=dU.1 hx;exact dO.2 (HZ (hi s hs)));simpa using this
theorem xz{path:List eF}{r:TS->eF->Option ((Int×Int)×TS)}(hk:xC c path r)(hr:∀σ s,o8 c σ.ss->iA c.b s->∃z,r σ s=some z):∀{xs:List eF} {fr:ar} {σ:TS},o8 c σ.ss->(∀x∈xs,iA c.b x)->∃z,pw r xs fr σ=some z
 |[],_,_,_,_=>⟨_,rfl⟩
 |x::xs,fr,σ,h,hx=>by
  obtain⟨⟨⟨n,low⟩,σ1⟩,e⟩:=hr σ x h (hx x aF);unfold pw;rw[e];simp only;by_cases hn:n<0;rw[if_pos hn];exact⟨_,rfl⟩;rw[if_neg hn];exact xz hk hr (hk _ _ _ _ _ h (hx x aF) e).1.ok (λy hy=>hx y (cy _ hy))
theorem xy{path:List eF}{r:TS->eF->Option ((Int×Int)×TS)}(hk:xC c path r)(hr:∀σ s,o8 c σ.ss->iA c.b s->∃z,r σ s=some z):∀{xs:List (SD×eF)} {low:Int} {σ:TS},o8 c σ.ss->(∀x∈xs,iA c.b x.2)->∃z,o7 r xs low σ=some z
 |[],_,_,_,_=>⟨_,rfl⟩
 |(y,x)::xs,low,σ,h,hx=>by
  obtain⟨⟨⟨n,lw⟩,σ1⟩,e⟩:=hr σ x h (hx (y,x) aF);unfold o7;rw[e];simp only;by_cases hn:0<=n;rw[if_pos hn];exact⟨_,rfl⟩;rw[if_neg hn];exact xy hk hr (hk _ _ _ _ _ h (hx (y,x) aF) e).1.ok (λz hz=>hx z (cy _ hz))
theorem rP(hc:yK c):∀(m:Nat) (path:List eF),path.Nodup->(∀p∈path,iA c.b p)->2^c.b.length<path.length+m->∀σ s,o8 c σ.ss->iA c.b s->∃z,gx c m path σ s=some z
 |0,path,hn,hi,hm,_,_,_,_=>by have:=vj hn hi;omega
 |m+1,path,hn,hi,hm,σ,s,h,hs=>by
  rw[gx];cases e1:nG σ.ss s with
  |some n=>exact⟨_,rfl⟩
  |none=>
   simp only;by_cases h1:s∈σ.op;rw[if_pos h1];exact⟨_,rfl⟩;rw[if_neg h1];cases e2:path.findIdx? (·==s)with
   |some a=>exact⟨_,rfl⟩
   |none=>
    simp only;have hp:s∉path:=λhm=>by
     rw[br]at e2;have:=e2 s hm;simp at this
    cases e3:od c s with
    |some y=>exact⟨_,rfl⟩
    |none=>
     simp only;have hr:=rP hc m (path++[s]) (by rw[de];exact⟨hn,by simp,λa ha b hb=>by rw[cS]at hb;rw[hb];exact λe=>hp (e ▸ ha)⟩)
      (λp hp=>by rcases dG.1 hp with hp|hp;exact hi p hp;rw[cS]at hp;rw[hp];exact hs) aN;have hk:=l9 hc m (path++[s]);have:∃z,jE c (gx c m (path++[s])) path.length s σ=some z:=by
      unfold jE;cases e4:kV c s with
      |some q=>
       obtain⟨y,xs⟩:=q;obtain⟨⟨z,σ1⟩,e5⟩:=xz hk hr (fr:=[]) h (vH hc hs e4).2.1;simp only[e5];cases z<;>exact⟨_,rfl⟩
      |none=>
       obtain⟨⟨z,σ1⟩,e5⟩:=xy hk hr (low:=(path.length:Int)+1) h (λx hx=>(p7 hc hs (show(x.1,x.2)∈jx c s from hx)).2.1);simp only[e5];cases z<;>exact⟨_,rfl⟩
     obtain⟨⟨⟨n,low⟩,σ1⟩,e4⟩:=this;rw[e4];exact⟨_,rfl⟩
end
end
section
variable{k:Nat}
noncomputable def DI(ss:List SD)(x:SD):SD:={x with fr:=x.fr.map (λj=>((ff (gj ss) j.toNat:Nat):Int))}
noncomputable def tz(ss:List SD):Nat->List SD
 |0=>[]
 |k+1=>match ss[k]? with
  |some x=>if gj ss k=true then tz ss k++[DI ss x]else tz ss k
  |none=>tz ss k
noncomputable def tB(ss:List SD):List SD:=tz ss ss.length
section
variable{l:Int}{b:List NV}{ss:List SD}
theorem qy (hk:k<ss.length):tz ss (k+1)=if gj ss k=true then tz ss k++[DI ss ss[k]]else tz ss k:=by
 rw[tz,bH hk]
theorem pH:∀{k:Nat},k<=ss.length->(tz ss k).length=ff (gj ss) k
 |0,_=>by simp[tz,ff]
 |k+1,h=>by
  have h1:=pH (k:=k) aH;rw[qy aH,jw];split<;>simp[h1]
theorem BM{j:Nat}(hn:gj ss j=true):∀{k:Nat},k<=ss.length->j<k->∀hj:j<ss.length,(tz ss k)[ff (gj ss) j]?=some (DI ss ss[j])
 |0,_,h,_=>aH
 |k+1,h,h2,hj=>by
  rw[qy aH];by_cases e:j=k;subst e;rw[if_pos hn,aZ (by rw[pH aH];exact dZ _),pH aH];simp;have h3:=BM hn (k:=k) aH aH hj;split;rw[bt (bu.1 h3).1];exact h3;exact h3
theorem BN:(tB ss).length=ff (gj ss) ss.length:=pH (dZ _)
theorem Ez (hk:k<ss.length)(hn:gj ss k=true):∃hc:ff (gj ss) k<(tB ss).length,(tB ss)[ff (gj ss) k]=DI ss ss[k]:=
 bu.1 (BM hn (dZ _) hk hk)
theorem Kj{q:Nat}(hq:q<(tB ss).length):∃(k:Nat) (hk:k<ss.length),gj ss k=true/\ff (gj ss) k=q/\(tB ss)[q]=DI ss ss[k]:=by
 rw[BN]at hq;obtain⟨k,h1,h2,h3⟩:=FF hq;subst h3;exact⟨k,h1,h2,rfl,(Ez h1 h2).2⟩
theorem By (hk:k<ss.length)(hn:gj ss k=true):fN (tB ss) (ff (gj ss) k:Nat)=fN ss k:=by
 obtain⟨h1,h2⟩:=Ez hk hn;rw[gG h1,h2,gG hk];rfl
theorem BD{k:Nat}:∀{fs:ar} {us:List eF},(∀j∈fs,0<=j->j.toNat<k->j.toNat<ss.length/\gj ss j.toNat=true/\ff (gj ss) j.toNat<ff (gj ss) k)->jQ ss k fs us->
  jQ (tB ss) (ff (gj ss) k) (fs.map (λj=>((ff (gj ss) j.toNat:Nat):Int))) us
 |[],[],_,_=>ez
 |f::fs,u::us,hf,h=>by
  obtain⟨h1,h2,h3⟩:=hf f aF h.1.1.1 (by have:=h.1.1;omega);refine⟨⟨⟨by show(0:Int)<=(ff (gj ss) f.toNat:Nat);omega,by show((ff (gj ss) f.toNat:Nat):Int)<_;omega⟩,?_⟩,BD (λj hj=>hf j (cy _ hj)) h.2⟩;rw[By h1 h2];have:=h.1.2;rwa[show((f.toNat:Nat):Int)=f by have:=h.1.1;omega]
 |[],_::_,_,h=>h.elim
 |_::_,[],_,h=>h.elim
theorem Ki(hc:∀(k:Nat) (hk:k<ss.length),ir l b ss k ss[k]) (hk:k<ss.length)(hn:gj ss k=true):ir l b (tB ss) (ff (gj ss) k) (DI ss ss[k]):=by
 have h:=hc k hk;have hp:∀us,jQ ss k ss[k].fr us->jQ (tB ss) (ff (gj ss) k) (DI ss ss[k]).fr us:=λus h=>by
  refine BD (λj hj h0 hlt=>?_) h;have h1:gj ss j.toNat=true:=jB.2 (.fr hk (jB.1 hn) (by rwa[show((j.toNat:Nat):Int)=j by omega]));exact⟨aH,h1,Ch hlt h1⟩
 refine⟨h.1,?_⟩;rcases h.2 with⟨h1,h2,h3⟩|⟨a,b1,c,d⟩|⟨a,b1,c,d⟩|⟨a,b1,c,d,e⟩|⟨a,b1,c,d,e⟩|⟨a,b1,c,d⟩|⟨a,b1,c,d,e⟩;exact .inl ⟨h1,by unfold DI;simp[h2],h3⟩;exact .inr (.inl ⟨a,b1,c,hp _ d⟩);exact .inr (.inr (.inl ⟨a,b1,c,hp _ d⟩));exact .inr (.inr (.inr (.inl ⟨a,b1,c,d,hp _ e⟩)));exact .inr (.inr (.inr (.inr (.inl ⟨a,b1,c,d,hp _ e⟩))));exact .inr (.inr (.inr (.inr (.inr (.inl ⟨a,b1,c,hp _ d⟩)))));exact .inr (.inr (.inr (.inr (.inr (.inr ⟨a,b1,c,d,hp _ e⟩)))))
theorem MN(hl:0<=l/\l<=6)(hb:eX b)(hc:∀(k:Nat) (hk:k<ss.length),ir l b ss k ss[k])(h0:0<ss.length)(hm:(tB ss).length<=4096):iT l b (tB ss)/\fN (tB ss) ((tB ss).length - 1:Nat)=fN ss (ss.length - 1:Nat):=by
 have hlast:gj ss (ss.length - 1)=true:=jB.2 (.last aH);have hlen:(tB ss).length=ff (gj ss) (ss.length - 1)+1:=by
  rw[BN,show ss.length=ss.length - 1+1 by omega,jw,if_pos (by simpa using hlast)];simp
 refine⟨⟨hl,hb,aH,hm,λq hq=>?_⟩,?_⟩;obtain⟨k,hk,hn,rfl,e⟩:=Kj hq;rw[e];exact Ki hc hk hn;rw[hlen];exact By aH hlast
theorem Dl{n:Nat}(hk:k<n)(hn:n<=ss.length){x:SD}(h:ir l b ss k x):ir l b (ss.take n) k x:=by
 have hp:∀us,jQ ss k x.fr us->jQ (ss.take n) k x.fr us:=by
  intro us;generalize x.fr=fs
  induction fs generalizing us with
  |nil=>cases us with
   |nil=>exact λh=>h
   |cons _ _=>exact λh=>h.elim
  |cons f fs ih=>cases us with
   |nil=>exact λh=>h.elim
   |cons u us=>
    intro h;refine⟨⟨h.1.1,?_⟩,ih us h.2⟩;have h2:=h.1.2;have h3:f.toNat<(ss.take n).length:=by have:=h.1.1;simp;omega
    have:=rL (ss:=ss.take n) (ys:=ss.drop n) (k:=f) h3;rw[List.take_append_drop]at this;rwa[<-this]
 refine⟨h.1,?_⟩;rcases h.2 with h|⟨a,b1,c,d⟩|⟨a,b1,c,d⟩|⟨a,b1,c,d,e⟩|⟨a,b1,c,d,e⟩|⟨a,b1,c,d⟩|⟨a,b1,c,d,e⟩;exact .inl h;exact .inr (.inl ⟨a,b1,c,hp _ d⟩);exact .inr (.inr (.inl ⟨a,b1,c,hp _ d⟩));exact .inr (.inr (.inr (.inl ⟨a,b1,c,d,hp _ e⟩)));exact .inr (.inr (.inr (.inr (.inl ⟨a,b1,c,d,hp _ e⟩))));exact .inr (.inr (.inr (.inr (.inr (.inl ⟨a,b1,c,hp _ d⟩)))));exact .inr (.inr (.inr (.inr (.inr (.inr ⟨a,b1,c,d,hp _ e⟩)))))
end
end
end Go.Proofs.Wit
