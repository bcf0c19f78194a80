/- Laws of walks, each under its own conditions. -/
import Derived.Test.YtaamcaiglooemaaGreatDoorXP25
set_option maxRecDepth 100000
set_option maxHeartbeats 40000000
namespace Go.Proofs.Wit
open Go
structure KM where
  n:Nat
  R:Nat->Nat->Nat->Prop
  V:Nat->Nat->Prop
  lt:∀k w u,w<n->R k w u->u<n
def KM.Gr(M:KM)(g:Nat)(w u:Nat):Prop:=∃k,k<4/\gb g k=1/\M.R k w u
inductive KM.PY (M:KM) (g:Nat) (c:Nat->Bool):Nat->Nat->Prop
  |one {w u:Nat}:M.Gr g w u->c u=true->KM.PY M g c w u
  |step {w u v:Nat}:KM.PY M g c w u->M.Gr g u v->c v=true->KM.PY M g c w v
section
variable{M:KM}
structure RC (M:KM) (l:Int):Prop where
  t:iU l 3=true->∀k w,w<M.n->M.R k w w
  f:iU l 4=true->∀k w u v,w<M.n->M.R k w u->M.R k u v->M.R k w v
  v:iU l 5=true->∀k w u v,w<M.n->M.R k w u->M.R k w v->M.R k u v
  d:iU l 6=true->∀k w,w<M.n->∃u,M.R k w u
end
end Go.Proofs.Wit
namespace Go.Proofs.Wit
open Go Go.RowKit
section
variable{n:Nat}{val:List fC}{rel:List (List fC)}
structure Q4 (n:Nat) (val:List fC) (rel:List (List fC)) (f:List NV) (t:Tr):Prop where
  nG:fX f=0
  fit:Oj f rel.length val.length=true
  Rv:qB (re (eT f)) 1=0
  can:eT f=iD t
  top:gA f=t
  hold:Od (n:Int) val rel f=0
  ok:t.ok
end
end Go.Proofs.Wit
namespace Go.Proofs.Wit
open Go
structure RF (n1:Nat) (v1:List fC) (r1:List (List fC)) (n:Nat) (v:List fC) (r:List (List fC)) (e:Nat->Nat):Prop where
  QI:n<=64
  QH:n1<=64
  lt:∀x,x<n1->e x<n
  val:∀i x,x<n1->((v.getD i 0#64).getLsbD (e x)=true↔(v1.getD i 0#64).getLsbD x=true)
  fwd:∀i x y,x<n1->Rl (r1.getD i []) x y->Rl (r.getD i []) (e x) (e y)
  bwd:∀i x z,x<n1->Rl (r.getD i []) (e x) z->∃y,y<n1/\z=e y/\Rl (r1.getD i []) x y
  Rp:∀i x y,Rl (r1.getD i []) x y->y<n1
section
variable{n1 n:Nat}{v1 v:List fC}{r1 r:List (List fC)}{e:Nat->Nat}
end
section
variable{na nb:Nat}{va vb:List fC}{ra rb:List (List fC)}
structure RA (na nb:Nat) (va vb:List fC) (ra rb:List (List fC)):Prop where
  a:OH (na:Int) va ra
  b:OH (nb:Int) vb rb
  rl:ra.length=rb.length
  vl:va.length=vb.length
  le:na+nb<=64
end
end Go.Proofs.Wit
namespace Go.Proofs.Wit
open Go Go.RowKit
section
variable{n:Nat}{val:List fC}{rel:List (List fC)}
theorem Jn{op:Int}(ho:1<=op/\op<=21):qB (ED op).toNat 11=0↔op<=11\/op=13:=
 FD (p:=λop=>qB (ED op).toNat 11=0↔op<=11\/op=13) aI ho
theorem wY{f:List NV}:mO f=0↔fX f=0/\pN (λop _ _=>op<=11\/op=13) (gA f):=by
 unfold mO;by_cases h1:fX f=0;rw[if_neg (by simp[h1]),jN h1,<-Jl (fA.1 h1).top Jn];constructor;intro h;refine⟨h1,bh (λh2=>?_)⟩;rw[if_pos h2]at h;exact absurd h aI;intro h;rw[if_neg (by simp[h.2])];rw[if_pos h1];exact⟨λh=>absurd h h1,λh=>absurd h.1 h1⟩
end
theorem rE{l:Int}{ls:List LV}:m7 l ls=0↔(0<=l/\l<=6)/\0<ls.length/\ls.length<=400/\∀(k:Nat) (hk:k<ls.length),kf l ls k ls[k]=0:=by
 have hs:∀{k:Nat},jF l ls k=0->∀hk:k<ls.length,jF l ls (k+1)=kf l ls k ls[k]:=λ{k} h hk=>by
  show(if jF l ls k≠0 then jF l ls k else match ls[k]? with|some x=>kf l ls k x|none=>0)=_;rw[if_neg (by simp[h]),bG hk]
 have hb:∀{k:Nat},jF l ls k≠0->jF l ls (k+1)=jF l ls k:=λ{k} h=>by
  show(if jF l ls k≠0 then jF l ls k else _)=_;rw[if_pos h]
 have key:∀k,k<=ls.length->(jF l ls k=0↔∀(j:Nat) (hj:j<ls.length),j<k->kf l ls j ls[j]=0):=by
  intro k
  induction k with
  |zero=>exact λ_=>⟨λ_ j _ h=>absurd h (dV _),λ_=>rfl⟩
  |succ k ih=>
   intro hk;have ih:=ih aH;constructor;intro h;have h0:jF l ls k=0:=bh (λhne=>hne (by rw[<-hb hne];exact h));intro j hj hjk;by_cases e:j=k;subst e;rw[<-hs h0 hj];exact h;exact ih.1 h0 j hj aH;intro h;have h0:=ih.2 (λj hj hjk=>h j hj aH);rw[hs h0 aH];exact h k aH aH
 unfold m7;by_cases h1:¬(0<=l/\l<=6);rw[if_pos h1];exact⟨λh=>absurd h aI,λh=>absurd h.1 h1⟩;rw[if_neg h1];by_cases h2:ls.length=0;rw[if_pos h2];exact⟨λh=>absurd h aI,λh=>absurd h.2.1 aH⟩;rw[if_neg h2];by_cases h3:400<ls.length;rw[if_pos h3];exact⟨λh=>absurd h aI,λh=>absurd h.2.2.1 aH⟩;rw[if_neg h3,key _ (eG _)];exact⟨λh=>⟨Classical.not_not.1 h1,aH,aH,λk hk=>h k hk hk⟩,λh j hj _=>h.2.2.2 j hj⟩
section
variable{k:Nat}{p:Nat->Bool}
structure LD where
  f:List NV
  r:Int
  a:Int
  b:Int
  g:Int
def LV.d(x:LV):LD:=⟨x.f.f,x.r,x.a,x.b,x.g⟩
def LD.v(x:LD):LV:=⟨⟨none,0,x.f⟩,x.r,x.a,x.b,x.g⟩
section
variable{l:Int}{ls ls':List LV}
theorem Jy(h:ls.map LV.d=ls'.map LV.d):ls.length=ls'.length:=by have:=eK List.length h;simpa using this
theorem My(h:ls.map LV.d=ls'.map LV.d) (hk:k<ls.length)(hk':k<ls'.length):ls[k].d=ls'[k].d:=by
 have h1:(ls.map LV.d)[k]'(by simpa using hk)=(ls'.map LV.d)[k]'(by simpa using hk'):=by simp only[h]
 simpa using h1
theorem I5(h:ls.map LV.d=ls'.map LV.d)(k:Int):yY ls k=yY ls' k:=by
 have e:ls.map (λx=>gA x.f.f)=ls'.map (λx=>gA x.f.f):=by
  have h1:∀l:List LV,l.map (λx=>gA x.f.f)=(l.map LV.d).map (λx=>gA x.f):=λl=>by rw[ez];rfl
  rw[h1,h1,h]
 unfold yY;rw[e]
theorem HD(h:ls.map LV.d=ls'.map LV.d){x y:LV}(e:x.d=y.d):pP ls x↔pP ls' y:=by
 obtain⟨⟨xa,xc,xf⟩,xr,x1,x2,x3⟩:=x;obtain⟨⟨ya,yc,yf⟩,yr,y1,y2,y3⟩:=y;simp only[LV.d,LD.mk.injEq]at e;obtain⟨rfl,rfl,rfl,rfl,rfl⟩:=e;unfold pP;simp only[I5 h]
theorem Ea(h:ls.map LV.d=ls'.map LV.d){i:Nat}{x y:LV}(e:x.d=y.d):kf l ls i x=kf l ls' i y:=by
 have h2:=HD h e;have en:oC i x=oC i y:=by
  obtain⟨⟨xa,xc,xf⟩,xr,x1,x2,x3⟩:=x;obtain⟨⟨ya,yc,yf⟩,yr,y1,y2,y3⟩:=y;simp only[LV.d,LD.mk.injEq]at e;obtain⟨rfl,rfl,rfl,rfl,rfl⟩:=e;rfl
 have ef:x.f.f=y.f.f:=eK LD.f e;have er:x.r=y.r:=eK LD.r e;unfold kf;rw[en,ef,er];by_cases k:pP ls x;rw[if_pos k,if_pos (h2.1 k)];rw[if_neg k,if_neg (λk'=>k (h2.2 k'))]
theorem B1(h:ls.map LV.d=ls'.map LV.d)(h0:m7 l ls=0):m7 l ls'=0:=by
 obtain⟨h1,h2,h3,h4⟩:=rE.1 h0;have hl:=Jy h;exact rE.2 ⟨h1,aH,aH,λk hk=>by
  have:=h4 k aH;rw[<-Ea h (My h aH hk)];exact this⟩
end
theorem sX{l:Int}{ls:List LV}{i:Nat}{x:LV}:kf l ls i x=0↔mO x.f.f=0/\(1<=x.r/\x.r<=12)/\oC i x=0/\iU l x.r=true/\pP ls x:=by
 constructor
 ·intro h
  unfold kf at h;by_cases h1:mO x.f.f=0
  rotate_left
  rw[if_pos h1]at h;exact absurd h h1;rw[if_neg (by simp[h1])]at h;by_cases h2:x.r<1\/12<x.r;rw[if_pos h2]at h;exact absurd h aI;rw[if_neg h2]at h;by_cases h3:oC i x=0
  rotate_left
  rw[if_pos h3]at h;exact absurd h h3;rw[if_neg (by simp[h3])]at h;by_cases h4:iU l x.r=false;rw[if_pos h4]at h;exact absurd h aI;rw[if_neg h4]at h;by_cases h5:pP ls x
  rotate_left
  rw[if_neg h5]at h;exact absurd h aI;exact⟨h1,aH,h3,by simpa using h4,h5⟩
 rintro ⟨h1,h2,h3,h4,h5⟩;exact F8 h1 h2 h3 h4 h5
theorem xw{i:Int}{x:LV}(h1:1<=x.r)(h12:x.r<=12):oC i x=0↔¬wG x/\¬wF i x/\0<=x.g/\x.g<4:=by
 constructor;intro h;have k1:¬wG x:=λk=>by rw[FE h1 h12 (.inl k)]at h;exact absurd h aI
 have k2:¬wF i x:=λk=>by rw[FE h1 h12 (.inr k)]at h;exact absurd h aI
 rw[FF h1 h12 k1 k2]at h;refine⟨k1,k2,?_⟩;by_cases h3:x.g<0\/x.g>=4;rw[if_pos h3]at h;exact absurd h aI;omega;rintro ⟨k1,k2,k3⟩;rw[FF h1 h12 k1 k2,if_neg aH]
inductive Nj (ls:List LV):Nat->Prop
  |last {k:Nat}:k+1=ls.length->Nj ls k
  |a {k:Nat} (hk:k<ls.length):Nj ls k->10<=ls[k].r->Nj ls ls[k].a.toNat
  |b {k:Nat} (hk:k<ls.length):Nj ls k->ls[k].r=10->Nj ls ls[k].b.toNat
def gL(p:Nat->Bool)(k:Nat):Nat:=((List.range k).filter p).length
theorem nF  :gL p (k+1)=gL p k+(if p k=true then 1 else 0):=by
 unfold gL;rw[dT,List.filter_append,dc];cases h:p k<;>simp[h]
theorem v5{p:Nat->Bool}:∀{k:Nat},gL p k<=k
 |0=>eG _
 |k+1=>by have:=v5 (p:=p) (k:=k);rw[nF];split<;>omega
theorem En {j:Nat}(h:j<=k):gL p j<=gL p k:=by
 induction h with
 |refl=>exact eG _
 |step _ ih=>rw[nF];omega
theorem JB {j:Nat}(h:j<k)(hp:p j=true):gL p j<gL p k:=by
 have:=En (p:=p) (show j+1<=k from h);rw[nF,if_pos hp]at this;omega
theorem MB {n q:Nat}(h:q<gL p n):∃j,j<n/\p j=true/\gL p j=q:=by
 induction n with
 |zero=>exact absurd h (dV _)
 |succ n ih=>
  rw[nF]at h;by_cases h1:q<gL p n;obtain⟨j,h2,h3⟩:=ih h1;exact⟨j,aH,h3⟩;by_cases h2:p n=true;rw[if_pos h2]at h;exact⟨n,aH,h2,aH⟩;rw[if_neg h2]at h;omega
section
variable{l:Int}{ls:List LV}
end
end
section
variable{ei:Bool}{from_:aq}
theorem uc{t:Tr}:Fit t↔bT t≠[]:=by unfold Fit;exact KA.symm
open Classical in
noncomputable def kk(t:Tr):Tr:=if Fit (fH t)then(fB t).2 else fH t
theorem qO{t:Tr}(h:t.ok):(kk t).ok:=by
 unfold kk;split;exact(oT h).2;exact gF h
structure TL where
  t:Tr
  r:Int
  a:Nat
  b:Nat
  g:Int
def TL.v(x:TL):LV:=⟨⟨none,0,bT x.t⟩,x.r,x.a,x.b,x.g⟩
structure Sg where
  ls:List TL
  bad:Bool
def l6(σ:Sg)(n:Nat):Tr:=(σ.ls.map TL.t).getD n (.leaf 0 0 0 0)
def gQ(ts:List Tr)(g:Tr):Tr:=ts.foldr fO g
theorem mG:∀{ts:List Tr} {g:Tr},(∀u∈ts,u.ok)->g.ok->(gQ ts g).ok
 |[],_,_,h=>h
 |t::ts,_,h,hg=>iS (h t aF) (mG (ts:=ts) (λu hu=>h u (cF _ hu)) hg)
section
variable(T:Tr->Prop)
open Classical in
noncomputable def gq(t:Tr)(r:Int)(a b:Nat)(g:Int)(σ:Sg):Nat×Sg:=
 if σ.bad=true\/¬Fit t\/400<=σ.ls.length\/(r=1/\¬T t)then(0,⟨σ.ls,true⟩)else(σ.ls.length,⟨σ.ls++[⟨t,r,a,b,g⟩],false⟩)
noncomputable def ph(g:Tr):List (Nat×Tr)->Nat->Sg->Nat×Sg
 |[],n,σ=>(n,σ)
 |p::ps,n,σ=>ph g ps (gq T (gQ (ps.map (·.2)) g) 10 p.1 n 0 σ).1 (gq T (gQ (ps.map (·.2)) g) 10 p.1 n 0 σ).2
noncomputable def ga(g:Tr)(from_:aq)(σ:Sg):Nat×Sg:=
 if σ.bad=true then(0,σ)else
  ph T g (from_.map (λn=>(n,l6 σ n))) (gq T (gQ (from_.map (l6 σ)) g) 1 0 0 0 σ).1 (gq T (gQ (from_.map (l6 σ)) g) 1 0 0 0 σ).2
noncomputable def kW(i:Int)(p q:Tr)(σ:Sg):Nat×Sg:=gq T (fO (fe i (fO p q)) (fO (fe i p) (fe i q))) 2 0 0 0 σ
noncomputable def mn(i:Int)(p q:Tr)(line:Nat)(σ:Sg):Nat×Sg:=
 let n:=gq T (fe i (fO p q)) 11 line 0 i σ
 let k:=kW T i p q n.2
 gq T (fO (fe i p) (fe i q)) 10 n.1 k.1 0 k.2
noncomputable def jU(i:Int)(v:Tr)(σ:Sg):Nat×Sg:=gq T (sZ (l8 i v) (fH (fe i (fH v)))) 7 0 0 0 σ
noncomputable def pK(ei:Bool)(t:Tr):Tr:=if ei=true then .bin 6 0 0 0 t (kk t)else fH (oI t (kk t))
noncomputable def uT(op:Int)(a:Tr):Tr:=if op=9 then a else kk a
noncomputable def vT(op:Int)(a:Tr):Tr:=if op=9 then kk a else a
noncomputable def uL(ei:Bool)(op:Int)(a:Tr):Tr:=if ei=true then fH (vT op a)else uT op a
noncomputable def uI(ei:Bool)(op:Int)(a:Tr):Tr:=if ei=true then uT op a else fH (vT op a)
noncomputable def uR(ei:Bool)(op i:Int)(a t:Tr)(x:Nat)(σ:Sg):Nat×Sg:=
 let l:=ga T (fO (uL ei op a) (uI ei op a)) [x] σ
 let d:=mn T i (uL ei op a) (uI ei op a) l.1 l.2
 let s:=jU T i (vT op a) d.2
 ga T (pK ei t) [d.1,s.1] s.2
noncomputable def fF(ei:Bool):Tr->Sg->Nat×Sg
 |.leaf op i e g,σ=>ga T (pK ei (.leaf op i e g)) [] σ
 |.un op i e g a,σ=>if op=9\/op=10 then uR T ei op i a (.un op i e g a) (fF ei a σ).1 (fF ei a σ).2 else ga T (pK ei (.un op i e g a)) [] σ
 |.bin op i e g a b,σ=>ga T (pK ei (.bin op i e g a b)) [(fF ei a σ).1,(fF ei b (fF ei a σ).2).1] (fF ei b (fF ei a σ).2).2
noncomputable def nH(i:Int)(f:Tr)(σ:Sg):Nat×Sg:=
 match f with
 |.un 10 _ _ _ z=>
  let nz:=fH (fe i (fH z))
  let s:=jU T i z σ
  let f5:=gq T (fO nz (fe i nz)) 5 0 0 0 s.2
  let bk:=ga T (fO nz f) [s.1] f5.2
  let kn:=mn T i nz f bk.1 bk.2
  ga T (fO f (fe i f)) [s.1,f5.1,kn.1] kn.2
 |_=>gq T (fO f (fe i f)) 4 0 0 0 σ
end
structure Sg.Le (σ σ':Sg):Prop where
  pre:σ.ls<+:σ'.ls
  ok:σ'.bad=false->σ.bad=false
theorem Sg.Le.refl(σ:Sg):σ.Le σ:=⟨dF _,id⟩
theorem Sg.Le.trans{σ σ' σ'':Sg}(h:σ.Le σ')(g:σ'.Le σ''):σ.Le σ'':=⟨h.pre.trans g.pre,λe=>h.ok (g.ok e)⟩
def jm(σ:Sg)(n:Nat)(t:Tr):Prop:=σ.bad=false->n<σ.ls.length/\l6 σ n=t
theorem Ia{σ σ':Sg}(h:σ.Le σ'){n:Nat}(hn:n<σ.ls.length):l6 σ' n=l6 σ n:=by
 obtain⟨u,hu⟩:=h.pre;unfold l6;rw[<-hu,dO];simp[aX,br (show n<(σ.ls.map TL.t).length by simpa using hn)]
theorem jm.le{σ σ':Sg}{n:Nat}{t:Tr}(h:jm σ n t)(g:σ.Le σ'):jm σ' n t:=λe=>by
 obtain⟨h1,h2⟩:=h (g.ok e);exact⟨dg h1 g.pre.length_le,by rw[Ia g h1];exact h2⟩
section
variable{T:Tr->Prop}{t g:Tr}{r i:Int}{a b n:Nat}{σ:Sg}
theorem lC(h:σ.bad=true){gg:Int}:gq T t r a b gg σ=(0,σ):=by
 rw[gq,if_pos (.inl h),<-h]
theorem je{gg:Int}:σ.Le (gq T t r a b gg σ).2:=by
 unfold gq;split;exact⟨dF _,λe=>by cases e⟩;rename_i h;exact⟨df _ _,λ_=>by
  cases hb:σ.bad with
  |false=>rfl
  |true=>exact absurd (.inl hb) h⟩
theorem ib{gg:Int}:jm (gq T t r a b gg σ).2 (gq T t r a b gg σ).1 t:=by
 unfold gq;split;intro e;cases e;intro _;exact⟨by simp,by simp[l6,aX]⟩
theorem FR{ps:List (Nat×Tr)}:∀{n:Nat},σ.bad=true->ph T g ps n σ=(if ps=[]then n else 0,σ):=by
 induction ps with
 |nil=>intro n _;rfl
 |cons p ps ih=>
  intro n h;rw[ph,lC h,ih h];split<;>rfl
theorem I0{ps:List (Nat×Tr)}:∀{n:Nat} {σ:Sg},σ.Le (ph T g ps n σ).2:=by
 induction ps with
 |nil=>intro n σ;exact Sg.Le.refl _
 |cons p ps ih=>intro n σ;exact je.trans ih
theorem jq :σ.Le (ga T g from_ σ).2:=by
 unfold ga;split;exact Sg.Le.refl _;exact je.trans I0
theorem FQ{ps:List (Nat×Tr)}:∀{n:Nat} {σ:Sg},jm σ n (gQ (ps.map (·.2)) g)->jm (ph T g ps n σ).2 (ph T g ps n σ).1 g:=by
 induction ps with
 |nil=>intro n σ h;exact h
 |cons p ps ih=>intro n σ _;exact ih ib
theorem jM :jm (ga T g from_ σ).2 (ga T g from_ σ).1 g:=by
 unfold ga;split;rename_i h;intro e;rw[h]at e;cases e;refine FQ ?_;rw[ez];exact ib
theorem lS (h:σ.bad=true):ga T g from_ σ=(0,σ):=by rw[ga,if_pos h]
theorem wS{p q:Tr}:σ.Le (kW T i p q σ).2:=je
theorem qS{p q:Tr}{l:Nat}:σ.Le (mn T i p q l σ).2:=je.trans (je.trans je)
theorem oY{p q:Tr}{l:Nat}:jm (mn T i p q l σ).2 (mn T i p q l σ).1 (fO (fe i p) (fe i q)):=ib
theorem GN{p q:Tr}{l:Nat}(h:σ.bad=true):mn T i p q l σ=(0,σ):=by simp only[mn,kW];rw[lC h];dsimp only;rw[lC h];dsimp only;rw[lC h]
theorem nM{v:Tr}:σ.Le (jU T i v σ).2:=je
theorem I2 {op:Int}{a t:Tr}{x:Nat}:σ.Le (uR T ei op i a t x σ).2:=jq.trans (qS.trans (nM.trans jq))
theorem FU {op:Int}{a t:Tr}{x:Nat}(h:σ.bad=true):uR T ei op i a t x σ=(0,σ):=by
 simp only[uR];rw[lS h];dsimp only;rw[GN h];dsimp only;rw[jU,lC h];dsimp only;rw[lS h]
theorem FT {op:Int}{a t:Tr}{x:Nat}:jm (uR T ei op i a t x σ).2 (uR T ei op i a t x σ).1 (pK ei t):=jM
theorem qe{ei:Bool}:∀{t:Tr} {σ:Sg},σ.bad=true->fF T ei t σ=(0,σ)
 |.leaf op i e g,σ,h=>by rw[fF,lS h]
 |.un op i e g a,σ,h=>by
  rw[fF];split;rw[qe (t:=a) h,FU h];rw[lS h]
 |.bin op i e g a b,σ,h=>by rw[fF,qe (t:=a) h];dsimp only;rw[qe (t:=b) h];dsimp only;rw[lS h]
theorem mx{ei:Bool}:∀{t:Tr} {σ:Sg},σ.Le (fF T ei t σ).2
 |.leaf op i e g,σ=>by rw[fF];exact jq
 |.un op i e g a,σ=>by
  rw[fF];split;exact(mx (t:=a)).trans I2;exact jq
 |.bin op i e g a b,σ=>by rw[fF];exact(mx (t:=a)).trans ((mx (t:=b)).trans jq)
theorem jA :∀{t:Tr} {σ:Sg},jm (fF T ei t σ).2 (fF T ei t σ).1 (pK ei t)
 |.leaf op i e g,σ=>by rw[fF];exact jM
 |.un op i e g a,σ=>by
  rw[fF];split;exact FT;exact jM
 |.bin op i e g a b,σ=>by rw[fF];exact jM
theorem uk{f:Tr}:σ.Le (nH T i f σ).2:=by
 unfold nH;split;exact nM.trans (je.trans (jq.trans (qS.trans jq)));exact je
theorem um{f:Tr}:jm (nH T i f σ).2 (nH T i f σ).1 (fO f (fe i f)):=by
 unfold nH;split;exact jM;exact ib
end
end
section
variable{k:Nat}{a b t:Tr}{r:Tr->Bool}
def eR(t:Tr):Prop:=∃l:List Tr,l.Nodup/\(∀u,u∈l↔u∈ov t)/\l.length<=10
def lD(t:Tr):Prop:=t.ok/\pN (λop _ _=>op<=11\/op=13) t
theorem lD.im (h:lD a)(g:lD b):lD (fO a b):=⟨iS h.1 g.1,.inl aI,h.2,g.2⟩
theorem lD.ad (h:lD a)(g:lD b):lD (oI a b):=⟨lZ h.1 g.1,.inl aI,h.2,g.2⟩
theorem lD.or (h:lD a)(g:lD b):lD (.bin 6 0 0 0 a b):=⟨mJ h.1 g.1,.inl aI,h.2,g.2⟩
theorem lD.if (h:lD a)(g:lD b):lD (sZ a b):=⟨yg h.1 g.1,.inl aI,h.2,g.2⟩
theorem lD.nt (h:lD a):lD (fH a):=⟨gF h.1,.inl aI,h.2⟩
theorem lD.kw {i:Int}(hi:0<=i/\i<4)(h:lD a):lD (fe i a):=⟨gk hi h.1,.inl aI,h.2⟩
theorem lD.po {i:Int}(hi:0<=i/\i<4)(h:lD a):lD (l8 i a):=⟨mZ (.inr rfl) hi h.1,.inl aI,h.2⟩
theorem lD.ch:∀{ts:List Tr} {g:Tr},(∀u∈ts,lD u)->lD g->lD (gQ ts g)
 |[],_,_,h=>h
 |t::ts,_,h,hg=>(h t aF).im (lD.ch (ts:=ts) (λu hu=>h u (cF _ hu)) hg)
def uz:Tr->Prop
 |.leaf op _ _ _=>op<=3
 |.un op _ _ _ a=>(op=4/\∃i e g,a=.leaf 3 i e g)\/((op=9\/op=10)/\uz a)
 |.bin op _ _ _ a b=>(op=5\/op=6)/\uz a/\uz b
theorem uz.AF:∀{t:Tr},uz t->pN (λop _ _=>op<=11\/op=13) t
 |.leaf op _ _ _,h=>.inl (by have:op<=3:=h;omega)
 |.un op _ _ _ a,h=>by
  rcases h with⟨h1,i,e,g,rfl⟩|⟨h1,h2⟩;exact⟨.inl aH,.inl aI⟩;exact⟨.inl aH,h2.AF⟩
 |.bin op _ _ _ a b,h=>⟨.inl (by have:=h.1;omega),h.2.1.AF,h.2.2.AF⟩
theorem CT:∀{t:Tr},uz t->t.ok->lD (fB t).2
 |.leaf op i e g,h,hok=>by
  have ho:op<=3:=h;rw[fB];dsimp only;split;exact⟨⟨aI,rfl,aI⟩,.inl aI⟩;split;exact⟨⟨aI,rfl,aI⟩,.inl aI⟩;exact lD.nt ⟨hok,.inl aH⟩
 |.un op i e g a,h,hok=>by
  rcases h with⟨rfl,j,e',g',rfl⟩|⟨h1,h2⟩;rw[fB,if_pos rfl];exact⟨(oT hok.2.2.2.2).1,.inl aI⟩;have hf:=CT h2 hok.2.2.2.2;have hi:=(qW hok h1).1;rcases h1 with rfl|rfl;rw[fB,if_neg aI,if_pos rfl];exact hf.po hi;rw[fB,if_neg aI,if_neg aI,if_pos rfl];exact hf.kw hi
 |.bin op i e g a b,h,hok=>by
  have ha:=CT h.2.1 hok.2.2.2.1;have hb:=CT h.2.2 hok.2.2.2.2;rcases h.1 with rfl|rfl;rw[fB,if_pos rfl];exact ha.or hb;rw[fB,if_neg aI,if_pos rfl];exact ha.ad hb
theorem uz.fr{t:Tr}(h:uz t)(hok:t.ok):lD t:=⟨hok,h.AF⟩
theorem uz.op (h:uz t)(hok:t.ok):lD (kk t):=by
 unfold kk;split;exact CT h hok;exact(h.fr hok).nt
theorem vw  :iG r (fO a b)=(!iG r a||iG r b):=rfl
theorem Py  :iG r (oI a b)=(iG r a && iG r b):=rfl
theorem Ol  {i e g:Int}:iG r (.bin 6 i e g a b)=(iG r a||iG r b):=rfl
theorem Jt  :iG r (sZ a b)=(iG r a==iG r b):=rfl
theorem xz  :iG r (fH a)=!iG r a:=rfl
theorem BX{r:Tr->Bool}:∀{ts:List Tr} {g:Tr},iG r (gQ ts g)=true↔((∀u∈ts,iG r u=true)->iG r g=true)
 |[],g=>by simp[gQ]
 |t::ts,g=>by
  show iG r (fO t (gQ ts g))=true↔_;rw[vw,dK,BX];cases ht:iG r t with
  |false=>simp[ht]
  |true=>simp[ht]
def P9(l:Int)(σ:Sg)(t:Tr)(r:Int)(a b:Nat)(g:Int):Prop:=
 lD t/\iU l r=true/\((r=1/\a=0/\b=0/\g=0/\∀v,iG v t=true)\/(2<=r/\r<10/\a=0/\b=0/\g=0/\vn r t)\/(r=10/\g=0/\∃A,jm σ a A/\jm σ b (fO A t))\/(r=11/\b=0/\(0<=g/\g<4)/\∃A,jm σ a A/\t=fe g A))
structure Good (l:Int) (σ:Sg):Prop where
  len:σ.ls.length<=400
  tok:∀(k:Nat) (hk:k<σ.ls.length),σ.ls[k].t.ok
  ok:∀(k:Nat) (hk:k<(σ.ls.map TL.v).length),kf l (σ.ls.map TL.v) k (σ.ls.map TL.v)[k]=0
structure zw (l:Int) (P:(Tr->Prop)->Sg->Nat×Sg) (σ:Sg):Prop where
  same:P eR σ=P eZ σ
  jZ:Good l (P eR σ).2
theorem D9{l:Int}{ls:List LV}{i:Nat}{x:LV}(us:List LV)(hi:i<=ls.length)(h:kf l ls i x=0):kf l (ls++us) i x=0:=by
 rw[sX]at h⊢;obtain⟨h1,h2,h3,h4,h5⟩:=h;refine⟨h1,h2,h3,h4,?_⟩;have hp:=rp h2.1 h2.2;obtain⟨n1,n2,_⟩:=xS h3;have hget:∀k:Int,0<=k->k<i->yY (ls++us) k=yY ls k:=λk h0 hk=>by
  unfold yY;rw[dO];simp only[aX];rw[br (by rw[dM];omega)]
 unfold pP at h5⊢;split at h5;rename_i e;rw[if_pos e];have ha:=pB n1 aH;have hb:=pB n2 aH;rw[hget _ hb.1 hb.2,hget _ ha.1 ha.2];exact h5;rename_i e;rw[if_neg e];split at h5;rename_i e1;rw[if_pos e1,hget _ (pB n1 aH).1 (pB n1 aH).2];exact h5;rename_i e1;rw[if_neg e1];split at h5;rename_i e2;rw[if_pos e2,hget _ (pB n1 aH).1 (pB n1 aH).2];exact h5;rename_i e2;rw[if_neg e2];exact h5
theorem vE (h:t.ok)(hf:Fit t):gA (bT t)=t:=(pR h (uc.1 hf)).top
theorem Gz (h:lD t)(hf:Fit t):mO (bT t)=0:=wY.2 ⟨(pR h.1 (uc.1 hf)).nG,by rw[vE h.1 hf];exact h.2⟩
section
variable{l:Int}{σ:Sg}
theorem Good.line(h:Good l σ) (hk:k<σ.ls.length):lD σ.ls[k].t/\Fit σ.ls[k].t:=by
 have h1:=h.ok k (by simpa using hk);have h2:mO (bT σ.ls[k].t)=0:=by
  have:=(sX.1 h1).1;simpa[TL.v]using this
 have hc:=wY.1 h2;have hne:bT σ.ls[k].t≠[]:=λe=>by rw[e]at h2;exact absurd h2 aI
 have hfit:=uc.2 hne;refine⟨?_,hfit⟩;have htop:gA (bT σ.ls[k].t)=σ.ls[k].t:=vE (h.tok k hk) hfit;exact⟨h.tok k hk,by rw[<-htop];exact hc.2⟩
theorem Cm (hk:k<σ.ls.length):l6 σ k=σ.ls[k].t:=by simp[l6,aX,hk]
theorem Good.has(h:Good l σ)(hb:σ.bad=false){n:Nat} (ht:jm σ n t):lD t/\Fit t:=by
 obtain⟨h1,h2⟩:=ht hb;rw[<-h2,Cm h1];exact h.line h1
theorem BF(h:Good l σ) (hk:k<σ.ls.length){us:List LV}:yY (σ.ls.map TL.v++us) (k:Int)=l6 σ k:=by
 rw[tW (k:=k) aN rfl,bH (by simpa using hk),Cm hk];simp only[List.getElem_map,TL.v];exact vE (h.line hk).1.1 (h.line hk).2
theorem Jo{ls:List LV}{x:LV} (ht:gA x.f.f=t)(h:(x.r=10/\yY ls x.b=fO (yY ls x.a) t)\/(x.r=11/\t=fe x.g (yY ls x.a))\/(x.r<10/\vn x.r t)):pP ls x:=by
 subst ht;unfold pP;rcases h with⟨h1,h2⟩|⟨h1,h2⟩|⟨h1,h2⟩;rw[if_pos h1];exact h2;rw[if_neg aH,if_pos h1];exact h2;rw[if_neg aH,if_neg aH,if_neg aH];exact h2
theorem m8 {r g:Int}{a b:Nat}(h:Good l σ)(ha:σ.bad=false->Fit t->P9 l σ t r a b g):zw l (λT=>gq T t r a b g) σ:=by
 have hsame:gq eR t r a b g σ=gq eZ t r a b g σ:=by
  cases hb:σ.bad with
  |true=>rw[lC hb,lC hb]
  |false=>
   by_cases hf:Fit t
   ·obtain⟨_,_,hc⟩:=ha hb hf
    by_cases hr:r=1
    ·have:eR t=eZ t:=by
      rcases hc with⟨h1,_,_,_,h2⟩|⟨h1,_⟩|⟨h1,_⟩|⟨h1,_⟩;exact propext ⟨λh=>⟨h,h2⟩,λh=>h.1⟩
      all_goals omega
     unfold gq;rw[this]
    have e:∀T:Tr->Prop,(σ.bad=true\/¬Fit t\/400<=σ.ls.length\/(r=1/\¬T t))↔(400<=σ.ls.length):=λT=>
     ⟨λh=>by
      rcases h with h|h|h|h;rw[hb]at h;cases h;exact absurd hf h;exact h;exact absurd h.1 hr,λh=>.inr (.inr (.inl h))⟩;unfold gq;by_cases h4:400<=σ.ls.length;rw[if_pos ((e _).2 h4),if_pos ((e _).2 h4)];rw[if_neg (λh=>h4 ((e _).1 h)),if_neg (λh=>h4 ((e _).1 h))]
   unfold gq;rw[if_pos (.inr (.inl hf)),if_pos (.inr (.inl hf))]
 refine⟨hsame,?_⟩;unfold gq;split;exact⟨h.len,h.tok,h.ok⟩;rename_i hn;have hb:σ.bad=false:=by
  cases e:σ.bad with
  |false=>rfl
  |true=>exact absurd (.inl e) hn
 have hf:Fit t:=bh λe=>hn (.inr (.inl e));have hlen:σ.ls.length<400:=by
  have:¬400<=σ.ls.length:=λe=>hn (.inr (.inr (.inl e)));omega
 have hT:r=1->eR t:=λe=>bh λe'=>hn (.inr (.inr (.inr ⟨e,e'⟩)));obtain⟨hfr,hl,hc⟩:=ha hb hf;refine⟨by simp;omega,λk hk=>?_,λk hk=>?_⟩;by_cases hkl:k<σ.ls.length;rw[bH hkl];exact h.tok k hkl;rw[List.getElem_append_right aH];simp only[dc,dC,List.length_nil]at hk;have:k - σ.ls.length=0:=aH;simp only[this,List.getElem_cons_zero];exact hfr.1;simp only[dO,ep,List.map_nil]at hk⊢;simp only[dc,dM,dC,List.length_nil]at hk;by_cases hkl:k<σ.ls.length;rw[bH (by simpa using hkl)];exact D9 _ aN (h.ok k (by simpa using hkl));have hke:k=σ.ls.length:=aH;subst hke;rw[List.getElem_append_right aL];simp only[dM,eD,List.getElem_cons_zero];have htop:gA (TL.v ⟨t,r,a,b,g⟩).f.f=t:=vE hfr.1 hf;rw[sX];refine⟨Gz hfr hf,?_,?_,hl,?_⟩;show 1<=r/\r<=12;rcases hc with⟨h1,_⟩|⟨h1,h2,_⟩|⟨h1,_⟩|⟨h1,_⟩<;>omega
 rw[xw (by show 1<=r;rcases hc with⟨h1,_⟩|⟨h1,h2,_⟩|⟨h1,_⟩|⟨h1,_⟩<;>omega) (by show r<=12;rcases hc with⟨h1,_⟩|⟨h1,h2,_⟩|⟨h1,_⟩|⟨h1,_⟩<;>omega)];unfold wG wF;simp only[TL.v];rcases hc with⟨h1,h2,h3,h4,_⟩|⟨h1,h2,h3,h4,h5,_⟩|⟨h1,h2,A,hA,hB⟩|⟨h1,h2,h3,A,hA,_⟩;subst h2 h3 h4 h1;omega;subst h3 h4 h5;omega;have:=(hA hb).1;have:=(hB hb).1;omega;have:=(hA hb).1;omega;refine Jo htop ?_;rcases hc with⟨h1,h2,h3,h4,h5⟩|⟨h1,h2,h3,h4,h5,h6⟩|⟨h1,h2,A,hA,hB⟩|⟨h1,h2,h3,A,hA,h4⟩;refine .inr (.inr ⟨show r<10 by omega,?_⟩);show vn r t;rw[h1];exact⟨hT h1,h5⟩;exact .inr (.inr ⟨h2,h6⟩);refine .inl ⟨h1,?_⟩;show yY _ (b:Int)=fO (yY _ (a:Int)) t;rw[BF h (hA hb).1,BF h (hB hb).1,(hA hb).2,(hB hb).2];refine .inr (.inl ⟨h1,?_⟩);show t=fe g (yY _ (a:Int));rw[BF h (hA hb).1,(hA hb).2];exact h4
theorem CX{g:Tr}(hg:lD g):∀{ps:List (Nat×Tr)} {n:Nat} {σ:Sg},Good l σ->iU l 10=true->(∀p∈ps,jm σ p.1 p.2)->jm σ n (gQ (ps.map (·.2)) g)->zw l (λT=>ph T g ps n) σ
 |[],n,σ,h,_,_,_=>⟨rfl,h⟩
 |p::ps,n,σ,h,h10,hps,hn=>by
  have hadm:σ.bad=false->Fit (gQ (ps.map (·.2)) g)->P9 l σ (gQ (ps.map (·.2)) g) 10 p.1 n 0:=λhb _=>
   ⟨lD.ch (λu hu=>by
    obtain⟨q,hq,rfl⟩:=eA.1 hu;exact(h.has hb (hps q (cF _ hq))).1) hg,h10,.inr (.inr (.inl ⟨rfl,rfl,p.2,hps p aF,hn⟩))⟩;have h1:=m8 h hadm;have h2:=CX hg (ps:=ps) (n:=(gq eR (gQ (ps.map (·.2)) g) 10 p.1 n 0 σ).1) h1.jZ h10 (λq hq=>(hps q (cF _ hq)).le je) ib;refine⟨?_,h2.jZ⟩;show ph eR g ps _ _=ph eZ g ps _ _;have e:=h1.same;rw[<-e];exact h2.same
theorem Mn(l:Int){r:Int}(h:r=1\/r=2\/r=7\/r=10\/r=11):iU l r=true:=by
 unfold iU;rw[if_neg aH,if_neg aH,if_neg aH,if_neg aH]
theorem ku{g:Tr}{from_:aq}(h:Good l σ)(hg:lD g)(hf:σ.bad=false->∀n∈from_,n<σ.ls.length)(ht:σ.bad=false->Fit g->∀v,(∀n∈from_,iG v (l6 σ n)=true)->iG v g=true):zw l (λT=>ga T g from_) σ:=by
 cases hb:σ.bad with
 |true=>exact⟨by rw[lS hb,lS hb],by rw[lS hb];exact h⟩
 |false=>
  have hhas:∀n∈from_,jm σ n (l6 σ n):=λn hn=>λ_=>⟨hf hb n hn,rfl⟩;have hfit:∀ts:List Tr,Fit (gQ ts g)->Fit g:=λts=>by
   induction ts with
   |nil=>exact id
   |cons t ts ih=>exact λh=>ih (Fit.r h)
  have hadm:σ.bad=false->Fit (gQ (from_.map (l6 σ)) g)->P9 l σ (gQ (from_.map (l6 σ)) g) 1 0 0 0:=λ_ hft=>
   ⟨lD.ch (λu hu=>by
    obtain⟨q,hq,rfl⟩:=eA.1 hu;exact(h.has hb (hhas q hq)).1) hg,Mn l (.inl rfl),.inl ⟨rfl,rfl,rfl,rfl,λv=>BX.2 λhall=>ht hb (hfit _ hft) v (λn hn=>hall _ (cQ hn))⟩⟩;have h1:=m8 h hadm;have h2:=CX hg (ps:=from_.map (λn=>(n,l6 σ n))) (n:=(gq eR (gQ (from_.map (l6 σ)) g) 1 0 0 0 σ).1) h1.jZ (Mn l aH) (λq hq=>by
   obtain⟨n,hn,rfl⟩:=eA.1 hq;exact(hhas n hn).le je) (by rw[ez];exact ib);have e:=h1.same;have e2:=h2.same;have g2:=h2.jZ;constructor;unfold ga;rw[if_neg (by rw[hb];decide),if_neg (by rw[hb];decide),<-e];exact e2;unfold ga;rw[if_neg (by rw[hb];decide)];exact g2
theorem Kr{i:Int}{p q:Tr}(hi:0<=i/\i<4)(h:Good l σ)(hp:lD p)(hq:lD q):zw l (λT=>kW T i p q) σ:=
 m8 h (λ_ _=>⟨(hp.im hq|>.kw hi).im ((hp.kw hi).im (hq.kw hi)),Mn l aH,.inr (.inl ⟨aI,aI,rfl,rfl,rfl,⟨i,p,q,rfl⟩⟩)⟩)
theorem yQ{i:Int}{v:Tr}(hi:0<=i/\i<4)(h:Good l σ)(hv:lD v):zw l (λT=>jU T i v) σ:=
 m8 h (λ_ _=>⟨(hv.po hi).if (hv.nt.kw hi).nt,Mn l aH,.inr (.inl ⟨aI,aI,rfl,rfl,rfl,⟨i,v,rfl⟩⟩)⟩)
theorem Dd{i:Int}{p q:Tr}{n:Nat}(hi:0<=i/\i<4)(h:Good l σ)(hp:lD p)(hq:lD q)(hn:jm σ n (fO p q)):zw l (λT=>mn T i p q n) σ:=by
 have h1:zw l (λT=>gq T (fe i (fO p q)) 11 n 0 i) σ:=m8 h (λ_ _=>⟨(hp.im hq).kw hi,Mn l aH,.inr (.inr (.inr ⟨rfl,rfl,hi,_,hn,rfl⟩))⟩);have h2:=Kr (i:=i) (p:=p) (q:=q) hi h1.jZ hp hq;have a1:jm _ _ (fe i (fO p q)):=ib (T:=eR) (σ:=σ) (t:=fe i (fO p q)) (r:=11) (a:=n) (b:=0) (gg:=i);have a2:jm _ _ (fO (fe i (fO p q)) (fO (fe i p) (fe i q))):=ib (T:=eR) (σ:=(gq eR (fe i (fO p q)) 11 n 0 i σ).2) (t:=fO (fe i (fO p q)) (fO (fe i p) (fe i q))) (r:=2) (a:=0) (b:=0) (gg:=0);have h3:=m8 (t:=fO (fe i p) (fe i q)) (r:=10) (a:=(gq eR (fe i (fO p q)) 11 n 0 i σ).1) (b:=(kW eR i p q (gq eR (fe i (fO p q)) 11 n 0 i σ).2).1) (g:=0) h2.jZ (λ_ _=>⟨(hp.kw hi).im (hq.kw hi),Mn l aH,.inr (.inr (.inl ⟨rfl,rfl,_,a1.le wS,a2⟩))⟩);have e1:=h1.same;have e2:=h2.same;have e3:=h3.same;constructor;simp only[mn];rw[<-e1,<-e2];exact e3;exact h3.jZ
end
end
section
variable{ei:Bool}{t:Tr}{v:Tr->Bool}
theorem vL (h:Fit (kk t)):Fit (fH t)/\kk t=(fB t).2:=by
 unfold kk at*;split at h;rename_i hf;rw[if_pos hf];exact⟨hf,rfl⟩;rename_i hf;exact absurd h hf
theorem BV{c:Tr}(h:Fit (fH t))(hc:c∈kids t):Fit (fH c):=by
 have h1:=o8 hc;have h2:(iD (fH t)).length=(iD t).length+1:=v7;have h3:(iD (fH c)).length=(iD c).length+1:=v7;unfold Fit at*;omega
theorem wE (h:Fit (fH t)):kk t=(fB t).2:=if_pos h
theorem zm  (h:Fit (pK ei t)):Fit (kk t):=by
 unfold pK at h;split at h;exact Fit.r h;exact Fit.r (Fit.u h)
theorem vi   :iG v (pK ei t)=if ei=true then(iG v t||iG v (kk t))else !(iG v t && iG v (kk t)):=by
 unfold pK;split<;>rfl
theorem GU   (h:iG v (kk t)=!iG v t):iG v (pK ei t)=true:=by
 rw[vi,h];cases iG v t<;>cases ei<;>rfl
theorem Di  (h:uz t)(hok:t.ok):lD (pK ei t):=by
 unfold pK;split;exact(h.fr hok).or (h.op hok);exact((h.fr hok).ad (h.op hok)).nt
theorem FO{op i e g:Int} (h:op<=3)(h1:1<=op):iG v (fB (.leaf op i e g)).2=!iG v (.leaf op i e g):=by
 rw[fB];dsimp only;rcases(by omega:op=1\/op=2\/op=3)with rfl|rfl|rfl;rw[if_pos rfl];rfl;rw[if_neg aI,if_pos rfl];rfl;rw[if_neg aI,if_neg aI];rfl
section
variable{l:Int}{σ:Sg}
theorem I1 {op i e g:Int}{a:Tr}{x:Nat}(ho:op=9\/op=10)(ha:uz a)(hok:(Tr.un op i e g a).ok)(h:Good l σ)(hx:jm σ x (pK ei a)):zw l (λT=>uR T ei op i a (.un op i e g a) x) σ:=by
 obtain⟨hi,rfl,rfl⟩:=qW hok ho;have hao:a.ok:=hok.2.2.2.2;have fa:=ha.fr hao;have fo:=ha.op hao;have fu:lD (uT op a):=by unfold uT;split<;>assumption
 have fv:lD (vT op a):=by unfold vT;split<;>assumption
 have fp:lD (uL ei op a):=by
  unfold uL;split;exact fv.nt;exact fu
 have fq:lD (uI ei op a):=by
  unfold uI;split;exact fu;exact fv.nt
 have h1:zw l (λT=>ga T (fO (uL ei op a) (uI ei op a)) [x]) σ:=ku h (fp.im fq) (λhb n hn=>by rw[de.1 hn];exact(hx hb).1) (λhb hf v hv=>by
  have h2:=hv x (de.2 rfl);rw[(hx hb).2,vi]at h2;rw[vw];unfold uL uI uT vT;rcases ho with rfl|rfl;simp only[eN];cases ei;simp only[cX,eL,xz]at h2⊢;cases e1:iG v a<;>cases e2:iG v (kk a)<;>simp_all
  simp only[eN,xz]at h2⊢;cases e1:iG v a<;>cases e2:iG v (kk a)<;>simp_all
  simp only[show ¬(10:Int)=9 from aI,eL];cases ei;simp only[cX,eL,xz]at h2⊢;cases e1:iG v a<;>cases e2:iG v (kk a)<;>simp_all
  simp only[eN,xz]at h2⊢;cases e1:iG v a<;>cases e2:iG v (kk a)<;>simp_all);have h2:=Dd (i:=i) (p:=uL ei op a) (q:=uI ei op a) (n:=(ga eR (fO (uL ei op a) (uI ei op a)) [x] σ).1) hi h1.jZ fp fq jM;have h3:=yQ (i:=i) (v:=vT op a) hi h2.jZ fv;have k1:jm _ _ (fO (fe i (uL ei op a)) (fe i (uI ei op a))):=oY (T:=eR) (i:=i) (p:=uL ei op a) (q:=uI ei op a) (l:=(ga eR (fO (uL ei op a) (uI ei op a)) [x] σ).1) (σ:=(ga eR (fO (uL ei op a) (uI ei op a)) [x] σ).2);have k2:jm _ _ (sZ (l8 i (vT op a)) (fH (fe i (fH (vT op a))))):=ib (T:=eR) (t:=sZ (l8 i (vT op a)) (fH (fe i (fH (vT op a))))) (r:=7) (a:=0) (b:=0) (gg:=0) (σ:=(mn eR i (uL ei op a) (uI ei op a) (ga eR (fO (uL ei op a) (uI ei op a)) [x] σ).1 (ga eR (fO (uL ei op a) (uI ei op a)) [x] σ).2).2);have k1':=k1.le (nM (T:=eR) (i:=i) (v:=vT op a));have hnf:uz (.un op i 0 0 a):=.inr ⟨ho,ha⟩;have h4:=ku (g:=pK ei (.un op i 0 0 a)) (from_:=[(mn eR i (uL ei op a) (uI ei op a) (ga eR (fO (uL ei op a) (uI ei op a)) [x] σ).1 (ga eR (fO (uL ei op a) (uI ei op a)) [x] σ).2).1,(jU eR i (vT op a) (mn eR i (uL ei op a) (uI ei op a) (ga eR (fO (uL ei op a) (uI ei op a)) [x] σ).1 (ga eR (fO (uL ei op a) (uI ei op a)) [x] σ).2).2).1]) h3.jZ (Di hnf hok) (λhb n hn=>by
   simp only[ew,dE,eM]at hn;rcases hn with rfl|rfl;exact(k1' hb).1;exact(k2 hb).1) (λhb hf v hv=>by
  have e1:=hv _ aF;have e2:=hv _ (cF _ aF);have g1:=(k1' hb).2;have g2:=(k2 hb).2;rw[g1]at e1;have e2:iG v (sZ (l8 i (vT op a)) (fH (fe i (fH (vT op a)))))=true:=g2 ▸ e2;obtain⟨f1,f2⟩:=vL (zm hf);have f3:kk a=(fB a).2:=wE (BV f1 aF);rw[vi,f2];rw[vw]at e1;rw[Jt,xz]at e2;rcases ho with rfl|rfl;have f4:(fB (.un 9 i 0 0 a)).2=l8 i (kk a):=by rw[fB,if_neg aI,if_pos rfl,f3]
  rw[f4];have u1:uT 9 a=a:=if_pos rfl;have u2:vT 9 a=kk a:=if_pos rfl;unfold uL uI at e1;rw[u2]at e2;rw[u1,u2]at e1;cases ei;simp only[cX,eL]at e1⊢;cases x1:iG v (.un 9 i 0 0 a)<;>cases x2:iG v (l8 i (kk a))<;>cases x3:iG v (fe i (fH (kk a)))<;>simp_all
  simp only[eN]at e1⊢;cases x1:iG v (.un 9 i 0 0 a)<;>cases x2:iG v (l8 i (kk a))<;>cases x3:iG v (fe i (fH (kk a)))<;>simp_all
  have f4:(fB (.un 10 i 0 0 a)).2=fe i (kk a):=by rw[fB,if_neg aI,if_neg aI,if_pos rfl,f3]
  rw[f4];have u1:uT 10 a=kk a:=if_neg aI;have u2:vT 10 a=a:=if_neg aI;unfold uL uI at e1;rw[u2]at e2;rw[u1,u2]at e1;cases ei;simp only[cX,eL]at e1⊢;cases x1:iG v (.un 10 i 0 0 a)<;>cases x2:iG v (fe i (kk a))<;>cases x3:iG v (fe i (fH a))<;>simp_all
  simp only[eN]at e1⊢;cases x1:iG v (.un 10 i 0 0 a)<;>cases x2:iG v (fe i (kk a))<;>cases x3:iG v (fe i (fH a))<;>simp_all);have s1:=h1.same;have s2:=h2.same;have s3:=h3.same;have s4:=h4.same;constructor;simp only[uR];rw[<-s1,<-s2,<-s3];exact s4;exact h4.jZ
theorem r0{ei:Bool}:∀{t:Tr},uz t->t.ok->∀{σ:Sg},Good l σ->zw l (λT=>fF T ei t) σ
 |.leaf op i e g,hn,hok,σ,h=>by
  have h1:zw l (λT=>ga T (pK ei (.leaf op i e g)) []) σ:=ku h (Di hn hok) (λ_ n hn=>by cases hn) (λ_ hf v _=>GU (by
   rw[(vL (zm hf)).2];exact FO hn hok.1.1));exact⟨by simp only[fF];exact h1.same,by simp only[fF];exact h1.jZ⟩
 |.un op i e g a,hn,hok,σ,h=>by
  by_cases ho:op=9\/op=10;have ha:uz a:=by
   rcases hn with⟨h1,_⟩|⟨_,h1⟩;omega;exact h1
  have h1:=r0 (ei:=ei) ha hok.2.2.2.2 h;have h2:=I1 (ei:=ei) (i:=i) (e:=e) (g:=g) (x:=(fF eR ei a σ).1) ho ha hok h1.jZ jA;have s1:=h1.same;have s2:=h2.same;constructor;simp only[fF];rw[if_pos ho,if_pos ho,<-s1];exact s2;simp only[fF];rw[if_pos ho];exact h2.jZ;have h1:zw l (λT=>ga T (pK ei (.un op i e g a)) []) σ:=ku h (Di hn hok) (λ_ n hn=>by cases hn) (λ_ hf v _=>GU (by
   rw[(vL (zm hf)).2];rcases hn with⟨rfl,j,e',g',rfl⟩|⟨h1,_⟩;rw[fB,if_pos rfl,fB];show _=!(!_);rw[Bool.not_not];exact absurd h1 ho));exact⟨by simp only[fF];rw[if_neg ho,if_neg ho];exact h1.same,by simp only[fF];rw[if_neg ho];exact h1.jZ⟩
 |.bin op i e g a b,hn,hok,σ,h=>by
  have h1:=r0 (ei:=ei) hn.2.1 hok.2.2.2.1 h;have h2:=r0 (ei:=ei) hn.2.2 hok.2.2.2.2 h1.jZ;have k1:jm _ _ (pK ei a):=jA (T:=eR) (ei:=ei) (t:=a) (σ:=σ);have k2:jm _ _ (pK ei b):=jA (T:=eR) (ei:=ei) (t:=b) (σ:=(fF eR ei a σ).2);have k1':=k1.le (mx (T:=eR) (ei:=ei) (t:=b));have h3:=ku (g:=pK ei (.bin op i e g a b)) (from_:=[(fF eR ei a σ).1,(fF eR ei b (fF eR ei a σ).2).1]) h2.jZ (Di hn hok) (λhb n hn=>by
   simp only[ew,dE,eM]at hn;rcases hn with rfl|rfl;exact(k1' hb).1;exact(k2 hb).1) (λhb hf v hv=>by
   have e1:=hv _ aF;have e2:=hv _ (cF _ aF);rw[(k1' hb).2,vi]at e1;rw[(k2 hb).2,vi]at e2;obtain⟨f1,f2⟩:=vL (zm hf);have fa:kk a=(fB a).2:=wE (BV f1 aF);have fb:kk b=(fB b).2:=wE (BV f1 (cF _ aF));rw[vi,f2];rcases hn.1 with rfl|rfl;have f4:(fB (.bin 5 i e g a b)).2=.bin 6 0 0 0 (kk a) (kk b):=by rw[fB,if_pos rfl,fa,fb]
   have f5:iG v (.bin 5 i e g a b)=(iG v a && iG v b):=rfl;rw[f4,Ol,f5];cases ei<;>cases x1:iG v a<;>cases x2:iG v b<;>cases x3:iG v (kk a)<;>cases x4:iG v (kk b)<;>simp_all
   have f4:(fB (.bin 6 i e g a b)).2=oI (kk a) (kk b):=by rw[fB,if_neg aI,if_pos rfl,fa,fb]
   rw[f4,Ol,Py];cases ei<;>cases x1:iG v a<;>cases x2:iG v b<;>cases x3:iG v (kk a)<;>cases x4:iG v (kk b)<;>simp_all);have s1:=h1.same;have s2:=h2.same;have s3:=h3.same;constructor;simp only[fF];rw[<-s1,<-s2];exact s3;simp only[fF];exact h3.jZ
theorem JG{i:Int}{f z:Tr}(hi:0<=i/\i<4)(hz:lD z)(hf:(f=fe i z/\iU l 4=true)\/(f=l8 i z/\iU l 5=true))(h:Good l σ):zw l (λT=>nH T i f) σ:=by
 rcases hf with⟨rfl,h4⟩|⟨rfl,h5⟩;exact m8 h (λ_ _=>⟨(hz.kw hi).im ((hz.kw hi).kw hi),h4,.inr (.inl ⟨aI,aI,rfl,rfl,rfl,⟨i,z,rfl⟩⟩)⟩);have fnz:lD (fH (fe i (fH z))):=(hz.nt.kw hi).nt;have h1:=yQ (i:=i) (v:=z) hi h hz;have k1:jm _ _ (sZ (l8 i z) (fH (fe i (fH z)))):=ib (T:=eR) (t:=sZ (l8 i z) (fH (fe i (fH z)))) (r:=7) (a:=0) (b:=0) (gg:=0) (σ:=σ);have h2:=m8 (t:=fO (fH (fe i (fH z))) (fe i (fH (fe i (fH z))))) (r:=5) (a:=0) (b:=0) (g:=0) h1.jZ (λ_ _=>⟨fnz.im (fnz.kw hi),h5,.inr (.inl ⟨aI,aI,rfl,rfl,rfl,⟨i,fH z,rfl⟩⟩)⟩);have k2:=ib (T:=eR) (t:=fO (fH (fe i (fH z))) (fe i (fH (fe i (fH z))))) (r:=5) (a:=0) (b:=0) (gg:=0) (σ:=(jU eR i z σ).2);obtain⟨σ1,e1⟩:∃s,s=jU eR i z σ:=⟨_,rfl⟩;obtain⟨σ2,e2⟩:∃s,s=gq eR (fO (fH (fe i (fH z))) (fe i (fH (fe i (fH z))))) 5 0 0 0 σ1.2:=⟨_,rfl⟩;have k1a:jm σ1.2 σ1.1 (sZ (l8 i z) (fH (fe i (fH z)))):=by rw[e1];exact k1
 have g1:Good l σ1.2:=by rw[e1];exact h1.jZ
 have le2:σ1.2.Le σ2.2:=by rw[e2];exact je
 have k2a:jm σ2.2 σ2.1 (fO (fH (fe i (fH z))) (fe i (fH (fe i (fH z))))):=by rw[e2,e1];exact k2
 have g2:Good l σ2.2:=by rw[e2,e1];exact h2.jZ
 have h3:=ku (g:=fO (fH (fe i (fH z))) (l8 i z)) (from_:=[σ1.1]) g2 (fnz.im (hz.po hi)) (λhb n hn=>by rw[de.1 hn];exact((k1a.le le2) hb).1) (λhb _ v hv=>by
  have q:=hv _ (de.2 rfl);rw[((k1a.le le2) hb).2,Jt]at q;rw[vw];cases x1:iG v (l8 i z)<;>cases x2:iG v (fH (fe i (fH z)))<;>simp_all);obtain⟨σ3,e3⟩:∃s,s=ga eR (fO (fH (fe i (fH z))) (l8 i z)) [σ1.1] σ2.2:=⟨_,rfl⟩;have le3:σ2.2.Le σ3.2:=by rw[e3];exact jq
 have g3:Good l σ3.2:=by rw[e3];exact h3.jZ
 have k3:jm σ3.2 σ3.1 (fO (fH (fe i (fH z))) (l8 i z)):=by rw[e3];exact jM
 have h4:=Dd (i:=i) (p:=fH (fe i (fH z))) (q:=l8 i z) (n:=σ3.1) hi g3 fnz (hz.po hi) k3;obtain⟨σ4,e4⟩:∃s,s=mn eR i (fH (fe i (fH z))) (l8 i z) σ3.1 σ3.2:=⟨_,rfl⟩;have le4:σ3.2.Le σ4.2:=by rw[e4];exact qS
 have g4:Good l σ4.2:=by rw[e4];exact h4.jZ
 have k4:jm σ4.2 σ4.1 (fO (fe i (fH (fe i (fH z)))) (fe i (l8 i z))):=by rw[e4];exact oY
 have k1b:=k1a.le (le2.trans (le3.trans le4));have k2b:=k2a.le (le3.trans le4);have h5':=ku (g:=fO (l8 i z) (fe i (l8 i z))) (from_:=[σ1.1,σ2.1,σ4.1]) g4 ((hz.po hi).im ((hz.po hi).kw hi)) (λhb n hn=>by
  simp only[ew,dE,eM]at hn;rcases hn with rfl|rfl|rfl;exact(k1b hb).1;exact(k2b hb).1;exact(k4 hb).1) (λhb _ v hv=>by
  have q1:=hv _ aF;have q2:=hv _ (cF _ aF);have q3:=hv _ (cF _ (cF _ aF));rw[(k1b hb).2,Jt]at q1;rw[(k2b hb).2,vw]at q2;rw[(k4 hb).2,vw]at q3;rw[vw];cases x1:iG v (l8 i z)<;>cases x2:iG v (fH (fe i (fH z)))<;>cases x3:iG v (fe i (fH (fe i (fH z))))<;>cases x4:iG v (fe i (l8 i z))<;>simp_all);have s1:=h1.same;have s2:=h2.same;have s3:=h3.same;have s4:=h4.same;have s5:=h5'.same;rw[<-e1]at s1 s2;rw[<-e2]at s2;rw[<-e3]at s3;rw[<-e4]at s4;constructor;simp only[nH];rw[<-s1,<-e1,<-s2,<-e2,<-s3,<-e3,<-s4,<-e4];exact s5;simp only[nH];rw[<-e1,<-e2,<-e3,<-e4];exact h5'.jZ
end
end
section
variable{i:Int}{b:List NV}{k:Nat}
structure SD where
  set:fC
  eW:Int
  on:Int
  e:Int
  fr:ar
structure SV where
  d:SD
  fa:ae
  fc:Nat
def nd(b:List NV)(i:Int):NV:=b.getD i.toNat ⟨0,0,0,0,0,0⟩
def tA(b:List NV)(i:Int):Tr:=eP b i.toNat
def jl(s:fC)(i:Int):Bool:=decide (0<=i/\i<64) && s.getLsbD i.toNat
def bW(i:Int):fC:=1#64<<<i.toNat
theorem lR{s:fC}{i:Nat}:jl s i=true↔s.getLsbD i=true:=by
 unfold jl;simp only[dx,du,di];exact⟨λh=>h.2,λh=>⟨⟨aH,by have:=cu h;omega⟩,h⟩⟩
theorem jT{s:fC} :jl s i=true↔∃k:Nat,i=k/\k<64/\s.getLsbD k=true:=by
 unfold jl;simp only[dx,du];exact⟨λh=>⟨i.toNat,aH,aH,h.2⟩,λ⟨k,h1,h2,h3⟩=>⟨aH,by subst h1;exact h3⟩⟩
theorem rI  (h:0<=i/\i<64):(bW i).getLsbD k=true↔(k:Int)=i:=by
 unfold bW;rw[CM aH];omega
noncomputable def oi(b:List NV)(i:Int):Int:=match (List.range b.length).find? (λj=>decide (eP b j=kk (tA b i)))with
 |some j=>(j:Int)
 |none=>-1
theorem uQ  {j:Nat}(hj:j<b.length)(h:eP b j=kk (tA b i))(hf:∀k,k<j->eP b k≠kk (tA b i)):oi b i=j:=by
 have:(List.range b.length).find? (λj=>decide (eP b j=kk (tA b i)))=some j:=by
  rw[List.find?_range_eq_some];exact⟨by simpa using h,by simpa using hj,λk hk=>by simpa using hf k hk⟩
 unfold oi;rw[this]
theorem xV  (hf:∀k,k<b.length->eP b k≠kk (tA b i)):oi b i=-1:=by
 have:(List.range b.length).find? (λj=>decide (eP b j=kk (tA b i)))=none:=by
  rw[List.find?_eq_none];intro k hk;simpa using hf k (ec.1 hk)
 unfold oi;rw[this]
theorem yU  (h:0<=oi b i):∃j:Nat,oi b i=j/\j<b.length/\eP b j=kk (tA b i):=by
 cases e:(List.range b.length).find? (λj=>decide (eP b j=kk (tA b i)))with
 |none=>unfold oi at h;rw[e]at h;exact absurd h aI
 |some j=>
  have h1:=List.mem_of_find?_eq_some e;have h2:=List.find?_some e;exact⟨j,by unfold oi;rw[e],ec.1 h1,by simpa using h2⟩
def vt(l:Int):Prop:=l=3\/l=4\/l=5\/l=6
def zg(l:Int):Prop:=l=5\/l=6
instance{l:Int}:Decidable (vt l):=by unfold vt;infer_instance
instance{l:Int}:Decidable (zg l):=by unfold zg;infer_instance
def zo(l:Int)(b:List NV)(i:Int):fC:=(if (nd b i).op=9 then bW (nd b i).x else 0#64)|||(if ((nd b i).op=9/\vt l)\/((nd b i).op=10/\zg l)then bW i else 0#64)
def oy(l:Int)(b:List NV)(s:fC)(ag:Int):Nat->fC
 |0=>0#64
 |k+1=>if jl s k=true/\(nd b k).i=ag then oy l b s ag k|||zo l b k else oy l b s ag k
def pL(l:Int)(b:List NV)(s:fC)(ag:Int):fC:=oy l b s ag b.length
def lJ(b:List NV)(s:fC):Prop:=∀k,s.getLsbD k=true->k<b.length
def jk(ss:List SD)(k:Int):fC:=(ss.map SD.set).getD k.toNat 0#64
def lp(ss:List SD)(k:Nat):ar->List fC->Prop
 |[],[]=>True
 |f::fs,s::us=>((0<=f/\f<k)/\jk ss f &&& ~~~ s=0#64)/\lp ss k fs us
 |_,_=>False
def Cc(b:List NV)(x:SD)(op:Int):Prop:=x.on<b.length/\jl x.set x.on=true/\(nd b x.on).op=op
def jJ(l:Int)(b:List NV)(ss:List SD)(k:Nat)(x:SD):Prop:=
 lJ b x.set/\(
 (x.eW=1/\x.fr=[]/\((Cc b x 2/\x.e=0)\/(jl x.set x.on=true/\x.on<b.length/\jl x.set x.e=true/\oi b x.on=x.e)))\/
 (x.eW=2/\x.e=0/\Cc b x 5/\lp ss k x.fr [x.set|||bW (nd b x.on).x|||bW (nd b x.on).y])\/
 (x.eW=3/\x.e=0/\Cc b x 6/\lp ss k x.fr [x.set|||bW (nd b x.on).x,x.set|||bW (nd b x.on).y])\/
 (x.eW=4/\(0<=x.on/\x.on<b.length)/\0<=x.e/\oi b x.on=x.e/\lp ss k x.fr [x.set|||bW x.on,x.set|||bW x.e])\/
 (x.eW=5/\x.e=0/\(l=2\/l=4\/l=6)/\Cc b x 9/\lp ss k x.fr [x.set|||bW (nd b x.on).x])\/
 (x.eW=6/\x.e=0/\Cc b x 10/\lp ss k x.fr [bW (nd b x.on).x|||pL l b x.set (nd b x.on).i])\/
 (x.eW=7/\x.e=0/\(l=1\/l=5)/\(0<=x.on/\x.on<4)/\lp ss k x.fr [pL l b x.set x.on]))
def jD(b:List NV)(n:NV):Prop:=(n.op=1\/n.op=2\/n.op=3\/n.op=5\/n.op=6\/n.op=9\/n.op=10)\/(n.op=4/\(nd b n.x).op=3)
open Classical in
noncomputable def mq(b:List NV):Int:=if fX b≠0 then fX b else if 64<b.length then 8 else if ∀n∈b,jD b n then 0 else 10
noncomputable def jv(l:Int)(b:List NV)(m:Nat):Int:=if ¬(0<=l/\l<=6)then 2 else if mq b≠0 then mq b else if m=0\/4096<m then 3 else 0
open Classical in
noncomputable def rf(l:Int)(b:List NV)(ss:List SD):Int:=if jv l b ss.length≠0 then jv l b ss.length else if ∀(k:Nat) (hk:k<ss.length),jJ l b ss k ss[k]then 0 else 13
theorem pd :mq b=0↔fX b=0/\b.length<=64/\∀n∈b,jD b n:=by
 unfold mq;by_cases h2:fX b=0;rw[if_neg (by simp[h2])];by_cases h3:64<b.length;rw[if_pos h3];exact⟨λh=>absurd h aI,λh=>aH⟩;rw[if_neg h3];by_cases h4:∀n∈b,jD b n;rw[if_pos h4];exact⟨λ_=>⟨h2,aH,h4⟩,λ_=>rfl⟩;rw[if_neg h4];exact⟨λh=>absurd h aI,λh=>absurd h.2.2 h4⟩;rw[if_pos h2];exact⟨λh=>absurd h h2,λh=>absurd h.1 h2⟩
theorem qR{l:Int} {m:Nat}:jv l b m=0↔(0<=l/\l<=6)/\mq b=0/\0<m/\m<=4096:=by
 unfold jv;by_cases h1:0<=l/\l<=6;rw[if_neg (by simp[h1])];by_cases h2:mq b=0;rw[if_neg (by simp[h2])];by_cases h3:m=0\/4096<m;rw[if_pos h3];exact⟨λh=>absurd h aI,λh=>aH⟩;rw[if_neg h3];exact⟨λ_=>⟨h1,h2,aH⟩,λ_=>rfl⟩;rw[if_pos h2];exact⟨λh=>absurd h h2,λh=>absurd h.2.1 h2⟩;rw[if_pos h1];exact⟨λh=>absurd h aI,λh=>absurd h.1 h1⟩
theorem Fi{l:Int} {ss:List SD}:rf l b ss=0↔(0<=l/\l<=6)/\(fX b=0/\b.length<=64/\∀n∈b,jD b n)/\(0<ss.length/\ss.length<=4096)/\∀(k:Nat) (hk:k<ss.length),jJ l b ss k ss[k]:=by
 unfold rf;by_cases h1:jv l b ss.length=0;rw[if_neg (by simp[h1])];have h2:=qR.1 h1;have h3:=pd.1 h2.2.1;by_cases h6:∀(k:Nat) (hk:k<ss.length),jJ l b ss k ss[k];rw[if_pos h6];exact⟨λ_=>⟨h2.1,h3,h2.2.2,h6⟩,λ_=>rfl⟩;rw[if_neg h6];exact⟨λh=>absurd h aI,λh=>absurd h.2.2.2 h6⟩;rw[if_pos h1];exact⟨λh=>absurd h h1,λ⟨a,c,d,_⟩=>absurd (qR.2 ⟨a,pd.2 c,d⟩) h1⟩
def jo(b:List NV)(s:fC)(ag:Int)(n:Nat):Nat:=((List.range b.length).find? (λi=>s.getLsbD i && ((nd b i).op==9 && ((nd b i).i==ag && (nd b i).x==(n:Int))))).getD n
def zP(b:List NV)(s:fC)(ag:Int)(p:fC):fC:=(jK p).foldl (λo n=>o|||1#64<<<jo b s ag n) 0#64
def mg(b:List NV)(x:SD)(bf:List fC):fC:=
 let p:=bf.getD (x.fr.getD 0 0).toNat 0#64
 let q:=bf.getD (x.fr.getD 1 0).toNat 0#64
 let n:=nd b x.on
 if x.eW=1 then(if n.op=2 then bW x.on else bW x.on|||bW x.e)
 else if x.eW=4 then p &&& ~~~ bW x.on|||q &&& ~~~ bW x.e
 else if x.eW=7 then zP b x.set x.on p
 else if x.eW=2 then p &&& ~~~ (bW n.x|||bW n.y)|||bW x.on
 else if x.eW=3 then p &&& ~~~ bW n.x|||q &&& ~~~ bW n.y|||bW x.on
 else if x.eW=5 then p &&& ~~~ bW n.x|||bW x.on
 else zP b x.set n.i (p &&& ~~~ bW n.x)|||bW x.on
def ji(b:List NV)(ss:List SD):Nat->List fC
 |0=>[]
 |k+1=>match ss[k]? with
  |some x=>ji b ss k++[mg b x (ji b ss k)]
  |none=>ji b ss k
theorem pV {ss:List SD} (hk:k<ss.length):ji b ss (k+1)=ji b ss k++[mg b ss[k] (ji b ss k)]:=by
 rw[ji,bG hk]
theorem nT{b:List NV}{ss:List SD}:∀{k:Nat},k<=ss.length->(ji b ss k).length=k
 |0,_=>rfl
 |k+1,h=>by rw[pV aH,dc,nT aH];rfl
theorem zE{b:List NV}{ss:List SD}{j:Nat}:∀{k:Nat},j<=k->k<=ss.length->ji b ss j<+:ji b ss k
 |0,h,_=>by rw[show j=0 by omega];exact dF _
 |k+1,h,h2=>by
  by_cases e:j=k+1;rw[e];exact dF _;rw[pV aH];exact(zE aH aH).trans (df _ _)
def sw(b:List NV)(ss:List SD)(k:Nat):fC:=(ji b ss ss.length).getD k 0#64
theorem pW {ss:List SD}{j:Nat}(hj:j<k)(hk:k<=ss.length):(ji b ss k).getD j 0#64=sw b ss j:=by
 obtain⟨u,hu⟩:=zE (b:=b) (ss:=ss) hk (eG _);unfold sw;rw[<-hu,aX,aX,br (by rw[nT hk];exact hj)]
theorem KQ {ss:List SD} (hk:k<ss.length):sw b ss k=mg b ss[k] (ji b ss k):=by
 rw[<-pW (dH k) aH,pV hk,aX,aY (by rw[nT aH];exact eG _)];simp[nT (Nat.le_of_lt hk)]
inductive HO (ss:List SD):Nat->Prop
  |last {k:Nat}:k+1=ss.length->HO ss k
  |fr {k j:Nat} (hk:k<ss.length):HO ss k->(j:Int)∈ss[k].fr->HO ss j
open Classical in
noncomputable def jz(ss:List SD)(k:Nat):Bool:=decide (HO ss k)
theorem mY{ss:List SD} :jz ss k=true↔HO ss k:=by unfold jz;exact @decide_eq_true_iff _ (Classical.propDecidable _)
noncomputable def mI(b:List NV)(ss:List SD)(k:Nat)(x:SD):SD:=
 ⟨sw b ss k,x.eW,x.on,if x.eW=1/\(nd b x.on).op=2 then 0 else x.e,x.fr.map (λj=>((gL (jz ss) j.toNat:Nat):Int))⟩
noncomputable def sQ(b:List NV)(ss:List SD):Nat->List SD
 |0=>[]
 |k+1=>match ss[k]? with
  |some x=>if jz ss k=true then sQ b ss k++[mI b ss k x]else sQ b ss k
  |none=>sQ b ss k
noncomputable def iE(b:List NV)(ss:List SD):List SD:=sQ b ss ss.length
theorem oN {ss:List SD} (hk:k<ss.length):sQ b ss (k+1)=if jz ss k=true then sQ b ss k++[mI b ss k ss[k]]else sQ b ss k:=by
 rw[sQ,bG hk]
theorem pY{b:List NV}{ss:List SD}:∀{k:Nat},k<=ss.length->(sQ b ss k).length=gL (jz ss) k
 |0,_=>by simp[sQ,gL]
 |k+1,h=>by
  have h1:=pY (b:=b) (ss:=ss) (k:=k) aH;rw[oN aH,nF];split<;>simp[h1]
theorem Cl{b:List NV}{ss:List SD}{j:Nat}(hn:jz ss j=true):∀{k:Nat},k<=ss.length->j<k->∀hj:j<ss.length,(sQ b ss k)[gL (jz ss) j]?=some (mI b ss j ss[j])
 |0,_,h,_=>aH
 |k+1,h,h2,hj=>by
  rw[oN aH];by_cases e:j=k;subst e;rw[if_pos hn,aY (by rw[pY aH];exact eG _),pY aH];simp;have h3:=Cl (b:=b) hn (k:=k) aH aH hj;split;rw[br (bA.1 h3).1];exact h3;exact h3
end
section
variable{k:Nat}{s t:fC}
theorem tG :s &&& ~~~ t=0#64↔∀k,s.getLsbD k=true->t.getLsbD k=true:=by
 constructor;intro h k hk;have:=eK (λx=>x.getLsbD k) h;simp only[cS,BitVec.getLsbD_not,hk,BitVec.getLsbD_zero,Bool.true_and]at this;have h64:=cu hk;simpa[h64]using this;intro h;apply BitVec.eq_of_getLsbD_eq;intro i hi;simp only[cS,BitVec.getLsbD_not,BitVec.getLsbD_zero];cases hs:s.getLsbD i with
 |false=>rfl
 |true=>simp[h i hs]
theorem jC  :(s|||t).getLsbD k=true↔s.getLsbD k=true\/t.getLsbD k=true:=by simp
theorem lQ  :(s &&& ~~~ t).getLsbD k=true↔s.getLsbD k=true/\¬t.getLsbD k=true:=by
 simp only[cS,BitVec.getLsbD_not,dx,du,dh,Bool.not_eq_true];exact⟨λh=>⟨h.1,h.2.2⟩,λh=>⟨h.1,cu h.1,h.2⟩⟩
structure fY (b:List NV):Prop where
  nG:fX b=0
  len:b.length<=64
  IU:∀n∈b,jD b n
section
variable{l:Int}{b:List NV}{ss:List SD}
theorem gN{i:Nat}(hi:i<b.length):nd b i=b[i]:=by simp[nd,aX,hi]
theorem fY.x(h:fY b){i:Nat}(hi:i<b.length)(hX:4<=(nd b i).op):0<=(nd b i).x/\(nd b i).x<i:=by
 rw[gN hi]at*;have ho:=(fA.1 h.nG).nodes i hi;have h1:=h.IU _ (dB hi);have hu:jd b[i].op=true:=by unfold jd;unfold jD at h1;simp;omega
 have:=ho.x hu;omega
theorem fY.y(h:fY b){i:Nat}(hi:i<b.length)(hX:(nd b i).op=5\/(nd b i).op=6):0<=(nd b i).y/\(nd b i).y<i:=by
 rw[gN hi]at*;have ho:=(fA.1 h.nG).nodes i hi;have hu:iH b[i].op=true:=by unfold iH;rcases hX with e|e<;>rw[e]<;>rfl
 have:=ho.y hu;omega
theorem jX {ag:Int}{n:Nat}:(∃i,jo b s ag n=i/\i<b.length/\s.getLsbD i=true/\(nd b i).op=9/\(nd b i).i=ag/\(nd b i).x=n/\∀j,j<i->s.getLsbD j=true->(nd b j).op=9->(nd b j).i=ag->(nd b j).x≠n)\/(jo b s ag n=n/\∀j,j<b.length->s.getLsbD j=true->(nd b j).op=9->(nd b j).i=ag->(nd b j).x≠n):=by
 cases e:(List.range b.length).find? (λi=>s.getLsbD i && ((nd b i).op==9 && ((nd b i).i==ag && (nd b i).x==(n:Int))))with
 |none=>
  refine .inr ⟨by unfold jo;rw[e];rfl,λj hj h1 h2 h3 h4=>?_⟩;rw[List.find?_eq_none]at e;exact e j (ec.2 hj) (by simp[h1,h2,h3,h4])
 |some i=>
  rw[List.find?_range_eq_some]at e;obtain⟨e1,e2,e3⟩:=e;simp only[dx,eJ]at e1;refine .inl ⟨i,?_,ec.1 e2,e1.1,e1.2.1,e1.2.2.1,e1.2.2.2,λj hj h1 h2 h3 h4=>?_⟩;have:(List.range b.length).find? (λi=>s.getLsbD i && ((nd b i).op==9 && ((nd b i).i==ag && (nd b i).x==(n:Int))))=some i:=by
   rw[List.find?_range_eq_some];exact⟨by simp[e1],e2,e3⟩
  unfold jo;rw[this];rfl;have:=e3 j hj;simp[h1,h2,h3,h4]at this
theorem Ik(hl:b.length<=64) {ag:Int}{n:Nat}(hn:n<64):jo b s ag n<64:=by
 rcases jX (b:=b) (s:=s) (ag:=ag) (n:=n)with⟨i,h1,h2,_⟩|⟨h1,_⟩;omega;omega
theorem CK{f:Nat->Nat}:∀{ns:aq} {o:fC} {k:Nat},(∀n∈ns,f n<64)->((ns.foldl (λo n=>o|||1#64<<<f n) o).getLsbD k=true↔o.getLsbD k=true\/∃n∈ns,f n=k)
 |[],o,k,_=>by simp
 |n::ns,o,k,h=>by
  rw[List.foldl_cons,CK (λm hm=>h m (cF _ hm)),jC,CM (h n aF)];simp only[ew,exists_eq_or_imp];constructor;rintro ((h1|h1)|h1);exact .inl h1;exact .inr (.inl h1.symm);exact .inr (.inr h1);rintro (h1|h1|h1);exact .inl (.inl h1);exact .inl (.inr h1.symm);exact .inr h1
theorem gZ  :k∈jK s↔s.getLsbD k=true:=by
 unfold jK;rw[dQ,ec];exact⟨λh=>h.2,λh=>⟨cu h,h⟩⟩
theorem zO(hl:b.length<=64){p:fC}{ag:Int} :(zP b s ag p).getLsbD k=true↔∃n,p.getLsbD n=true/\jo b s ag n=k:=by
 unfold zP;rw[CK (λn hn=>Ik hl (cu (gZ.1 hn)))];simp only[BitVec.getLsbD_zero,cX,false_or,gZ]
theorem u4(h:fY b){s:fC}{ag:Int}{k:Nat}:∀{m:Nat},m<=b.length->((oy l b s ag m).getLsbD k=true↔∃i:Nat,i<m/\s.getLsbD i=true/\(nd b i).i=ag/\(((nd b i).op=9/\(nd b i).x=k)\/(k=i/\(((nd b i).op=9/\vt l)\/((nd b i).op=10/\zg l)))))
 |0,_=>by simp[oy]
 |m+1,hm=>by
  have hcn:(zo l b m).getLsbD k=true↔(((nd b m).op=9/\(nd b m).x=k)\/(k=m/\(((nd b m).op=9/\vt l)\/((nd b m).op=10/\zg l)))):=by
   unfold zo;rw[jC];apply or_congr;by_cases h9:(nd b m).op=9;have:=h.x (i:=m) aH aH;have:=h.len;rw[if_pos h9,rI aH];exact⟨λe=>⟨h9,e.symm⟩,λe=>e.2.symm⟩;rw[if_neg h9];simp[h9];by_cases h9:((nd b m).op=9/\vt l)\/((nd b m).op=10/\zg l);have:=h.len;rw[if_pos h9,rI aH];exact⟨λe=>⟨aH,h9⟩,λe=>aH⟩;rw[if_neg h9];simp[h9]
  rw[oy];by_cases h1:jl s m=true/\(nd b m).i=ag;rw[if_pos h1,jC,u4 h aH,hcn];constructor;rintro (⟨i,h2,h3⟩|h2);exact⟨i,aH,h3⟩;exact⟨m,aH,lR.1 h1.1,h1.2,h2⟩;rintro ⟨i,h2,h3,h4,h5⟩;by_cases e:i=m;subst e;exact .inr h5;exact .inl ⟨i,aH,h3,h4,h5⟩;rw[if_neg h1,u4 h aH];constructor;rintro ⟨i,h2,h3⟩;exact⟨i,aH,h3⟩;rintro ⟨i,h2,h3,h4,h5⟩;by_cases e:i=m;subst e;exact absurd ⟨lR.2 h3,h4⟩ h1;exact⟨i,aH,h3,h4,h5⟩
theorem oZ(h:fY b) {ag:Int} :(pL l b s ag).getLsbD k=true↔∃i:Nat,i<b.length/\s.getLsbD i=true/\(nd b i).i=ag/\(((nd b i).op=9/\(nd b i).x=k)\/(k=i/\(((nd b i).op=9/\vt l)\/((nd b i).op=10/\zg l)))):=u4 h (eG _)
theorem lp.one {fs:ar} (h:lp ss k fs [s]):∃j:Nat,fs=[(j:Int)]/\j<k/\∀n,(jk ss j).getLsbD n=true->s.getLsbD n=true:=by
 cases fs with
 |nil=>exact h.elim
 |cons f fs=>
  cases fs with
  |cons _ _=>exact h.2.elim
  |nil=>
   obtain⟨⟨h1,h2⟩,_⟩:=h;refine⟨f.toNat,by rw[show((f.toNat:Nat):Int)=f by omega],aH,?_⟩;rw[show((f.toNat:Nat):Int)=f by omega];exact tG.1 h2
theorem lp.two {fs:ar}{u:fC}(h:lp ss k fs [s,u]):∃j i:Nat,fs=[(j:Int),(i:Int)]/\j<k/\i<k/\(∀n,(jk ss j).getLsbD n=true->s.getLsbD n=true)/\∀n,(jk ss i).getLsbD n=true->u.getLsbD n=true:=by
 cases fs with
 |nil=>exact h.elim
 |cons f fs=>
  obtain⟨⟨h1,h2⟩,h3⟩:=h;obtain⟨i,rfl,hi,hu⟩:=lp.one h3;refine⟨f.toNat,i,by rw[show((f.toNat:Nat):Int)=f by omega],aH,hi,?_,hu⟩;rw[show((f.toNat:Nat):Int)=f by omega];exact tG.1 h2
theorem rM{j:Nat} (hj:j<k)(h:∀n,(jk ss j).getLsbD n=true->s.getLsbD n=true):lp ss k [(j:Int)] [s]:=⟨⟨aH,tG.2 h⟩,eO⟩
theorem A3{j i:Nat}{u:fC}(hj:j<k)(hi:i<k)(h:∀n,(jk ss j).getLsbD n=true->s.getLsbD n=true)(h2:∀n,(jk ss i).getLsbD n=true->u.getLsbD n=true):lp ss k [(j:Int),(i:Int)] [s,u]:=⟨⟨aH,tG.2 h⟩,rM hi h2⟩
theorem jJ.py {x:SD}(h:jJ l b ss k x){f:Int}(hf:f∈x.fr):0<=f/\f<k:=by
 have one:∀{s:fC},lp ss k x.fr [s]->0<=f/\f<k:=λh=>by
  obtain⟨j,e,hj,_⟩:=h.one;rw[e,de]at hf;omega
 have two:∀{s u:fC},lp ss k x.fr [s,u]->0<=f/\f<k:=λh=>by
  obtain⟨j,i,e,hj,hi,_⟩:=h.two;rw[e]at hf;simp only[ew,dE,eM]at hf;omega
 rcases h.2 with⟨_,h,_⟩|⟨_,_,_,h⟩|⟨_,_,_,h⟩|⟨_,_,_,_,h⟩|⟨_,_,_,_,h⟩|⟨_,_,_,h⟩|⟨_,_,_,_,h⟩;rw[h]at hf;cases hf;exact one h;exact two h;exact two h;exact one h;exact one h;exact one h
theorem Cc.nat(_h:fY b){x:SD}{op:Int}(g:Cc b x op):∃o:Nat,x.on=o/\o<b.length/\x.set.getLsbD o=true/\(nd b x.on).op=op:=by
 obtain⟨h1,h2,h3⟩:=g;obtain⟨k,h4,h5,h6⟩:=jT.1 h2;exact⟨k,h4,aH,h6,h3⟩
end
end
section
variable{k n:Nat}{s:fC}
section
variable{l:Int}{b:List NV}{ss:List SD}
abbrev Us(b:List NV)(ss:List SD)(k n:Nat):Prop:=(sw b ss k).getLsbD n=true
inductive xD (l:Int) (b:List NV) (ss:List SD) (k:Nat) (x:SD):Prop
  |Jp (o:Nat):x.eW=1->x.fr=[]->x.on=o->o<b.length->x.set.getLsbD o=true->(nd b o).op=2->(∀n,Us b ss k n↔n=o)->xD l b ss k x
  |neg (o e:Nat):x.eW=1->x.fr=[]->x.on=o->o<b.length->x.set.getLsbD o=true->(nd b o).op≠2->x.e=e->e<b.length->x.set.getLsbD e=true->oi b o=e->eP b e=kk (eP b o)->(∀n,Us b ss k n↔n=o\/n=e)->xD l b ss k x
  |and (o j:Nat):x.eW=2->x.e=0->x.fr=[(j:Int)]->j<k->x.on=o->o<b.length->x.set.getLsbD o=true->(nd b o).op=5->(∀n:Nat,(jk ss j).getLsbD n=true->x.set.getLsbD n=true\/(n:Int)=(nd b o).x\/(n:Int)=(nd b o).y)->(∀n:Nat,Us b ss k n↔(Us b ss j n/\(n:Int)≠(nd b o).x/\(n:Int)≠(nd b o).y)\/n=o)->xD l b ss k x
  |or (o j i:Nat):x.eW=3->x.e=0->x.fr=[(j:Int),(i:Int)]->j<k->i<k->x.on=o->o<b.length->x.set.getLsbD o=true->(nd b o).op=6->(∀n:Nat,(jk ss j).getLsbD n=true->x.set.getLsbD n=true\/(n:Int)=(nd b o).x)->(∀n:Nat,(jk ss i).getLsbD n=true->x.set.getLsbD n=true\/(n:Int)=(nd b o).y)->(∀n:Nat,Us b ss k n↔(Us b ss j n/\(n:Int)≠(nd b o).x)\/(Us b ss i n/\(n:Int)≠(nd b o).y)\/n=o)->xD l b ss k x
  |cut (o e j i:Nat):x.eW=4->x.fr=[(j:Int),(i:Int)]->j<k->i<k->x.on=o->o<b.length->x.e=e->e<b.length->oi b o=e->eP b e=kk (eP b o)->(∀n:Nat,(jk ss j).getLsbD n=true->x.set.getLsbD n=true\/n=o)->(∀n:Nat,(jk ss i).getLsbD n=true->x.set.getLsbD n=true\/n=e)->(∀n:Nat,Us b ss k n↔(Us b ss j n/\n≠o)\/(Us b ss i n/\n≠e))->xD l b ss k x
  |t (o j:Nat):x.eW=5->x.e=0->(l=2\/l=4\/l=6)->x.fr=[(j:Int)]->j<k->x.on=o->o<b.length->x.set.getLsbD o=true->(nd b o).op=9->(∀n:Nat,(jk ss j).getLsbD n=true->x.set.getLsbD n=true\/(n:Int)=(nd b o).x)->(∀n:Nat,Us b ss k n↔(Us b ss j n/\(n:Int)≠(nd b o).x)\/n=o)->xD l b ss k x
  |k (o j:Nat):x.eW=6->x.e=0->x.fr=[(j:Int)]->j<k->x.on=o->o<b.length->x.set.getLsbD o=true->(nd b o).op=10->(∀n:Nat,(jk ss j).getLsbD n=true->(pL l b x.set (nd b o).i).getLsbD n=true\/(n:Int)=(nd b o).x)->(∀n:Nat,Us b ss k n↔(∃m,Us b ss j m/\(m:Int)≠(nd b o).x/\jo b x.set (nd b o).i m=n)\/n=o)->xD l b ss k x
  |d (j:Nat):x.eW=7->x.e=0->(l=1\/l=5)->x.fr=[(j:Int)]->j<k->(0<=x.on/\x.on<4)->(∀n:Nat,(jk ss j).getLsbD n=true->(pL l b x.set x.on).getLsbD n=true)->(∀n:Nat,Us b ss k n↔∃m,Us b ss j m/\jo b x.set x.on m=n)->xD l b ss k x
theorem K7(hb:fY b) (hk:k<ss.length)(h:jJ l b ss k ss[k]):xD l b ss k ss[k]:=by
 obtain⟨x,hx⟩:∃x,x=ss[k]:=⟨_,rfl⟩;have hu:=KQ (b:=b) hk;rw[<-hx]at h hu⊢;have hlen:=hb.len;have hbw:∀{i:Int} {n:Nat},0<=i->i<64->((bW i).getLsbD n=true↔(n:Int)=i):=λh1 h2=>rI ⟨h1,h2⟩;have hp0:∀{j:Nat} {fs:ar},j<k->x.fr=(j:Int)::fs->(ji b ss k).getD (x.fr.getD 0 0).toNat 0#64=sw b ss j:=λhj e=>by
  rw[e];exact pW hj (Nat.le_of_lt hk)
 have hp1:∀{j i:Nat},i<k->x.fr=[(j:Int),(i:Int)]->(ji b ss k).getD (x.fr.getD 1 0).toNat 0#64=sw b ss i:=λhj e=>by
  rw[e];exact pW hj (Nat.le_of_lt hk)
 rcases h.2 with⟨h1,h2,h3⟩|⟨h1,h2,h3,h4⟩|⟨h1,h2,h3,h4⟩|⟨h1,h2,h3,h4,h5⟩|⟨h1,h2,h3,h4,h5⟩|⟨h1,h2,h3,h4⟩|⟨h1,h2,h3,h4,h5⟩;unfold mg at hu;rw[if_pos h1]at hu;rcases h3 with⟨h3,h4⟩|⟨h3,h4,h5,h6⟩;obtain⟨o,e1,e2,e3,e4⟩:=h3.nat hb;rw[if_pos e4]at hu;rw[e1]at e4;exact .Jp o h1 h2 e1 e2 e3 e4 (λn=>by unfold Us;rw[hu,e1,hbw aH aH];omega);obtain⟨o,e1,e2,e3⟩:=jT.1 h3;obtain⟨e,f1,f2,f3⟩:=jT.1 h5;have ho:o<b.length:=aH;obtain⟨j,g1,g2,g3⟩:=yU (b:=b) (i:=x.on) aH;have hje:j=e:=aH;subst hje;by_cases h2':(nd b x.on).op=2;rw[if_pos h2']at hu;rw[e1]at h2';exact .Jp o h1 h2 e1 ho e3 h2' (λn=>by unfold Us;rw[hu,e1,hbw aH aH];omega);rw[if_neg h2']at hu;rw[e1]at h2' g3 g1;refine .neg o j h1 h2 e1 ho e3 h2' f1 g2 f3 g1 (by rw[g3];rfl) (λn=>?_);unfold Us;rw[hu,jC,e1,f1,hbw aH aH,hbw aH aH];omega;obtain⟨o,e1,e2,e3,e4⟩:=h3.nat hb;obtain⟨j,f1,f2,f3⟩:=h4.one;rw[e1]at e4 f3;have hx1:=hb.x e2 aH;have hy1:=hb.y e2 aH;unfold mg at hu;rw[if_neg aH,if_neg aH,if_neg aH,if_pos h1,hp0 f2 f1,e1]at hu;refine .and o j h1 h2 f1 f2 e1 e2 e3 e4 (λn hn=>?_) (λn=>?_);have:=f3 n hn;rw[jC,jC,hbw aH aH,hbw aH aH]at this;rcases this with(h|h)|h;exact .inl h;exact .inr (.inl h);exact .inr (.inr h);unfold Us;rw[hu,jC,lQ,jC,hbw aH aH,hbw aH aH,hbw aH aH,not_or];exact or_congr Iff.rfl aH;obtain⟨o,e1,e2,e3,e4⟩:=h3.nat hb;obtain⟨j,i,f1,f2,f3,f4,f5⟩:=h4.two;rw[e1]at e4 f4 f5;have hx1:=hb.x e2 aH;have hy1:=hb.y e2 aH;unfold mg at hu
 rw[if_neg aH,if_neg aH,if_neg aH,if_neg aH,if_pos h1,hp0 f2 f1,hp1 f3 f1,e1]at hu;refine .or o j i h1 h2 f1 f2 f3 e1 e2 e3 e4 (λn hn=>?_) (λn hn=>?_) (λn=>?_);have:=f4 n hn;rwa[jC,hbw aH aH]at this;have:=f5 n hn;rwa[jC,hbw aH aH]at this;unfold Us;rw[hu,jC,jC,lQ,lQ,hbw aH aH,hbw aH aH,hbw aH aH,or_assoc];exact or_congr Iff.rfl (or_congr Iff.rfl aH);obtain⟨j,i,f1,f2,f3,f4,f5⟩:=h5.two;obtain⟨e,g1,g2,g3⟩:=yU (b:=b) (i:=x.on) aH;obtain⟨o,e1⟩:∃o:Nat,x.on=o:=⟨x.on.toNat,aH⟩;have ee:x.e=e:=aH;rw[e1]at h2 h4 f4 g1 g3;rw[ee]at f5;unfold mg at hu;rw[if_neg aH,if_pos h1,hp0 f2 f1,hp1 f3 f1,e1,ee]at hu;refine .cut o e j i h1 f1 f2 f3 e1 aH ee g2 g1 (by rw[g3];rfl) (λn hn=>?_) (λn hn=>?_) (λn=>?_);have:=f4 n hn;rw[jC,hbw aH aH]at this;exact this.imp id (λh=>aH);have:=f5 n hn;rw[jC,hbw aH aH]at this;exact this.imp id (λh=>aH);unfold Us;rw[hu,jC,lQ,lQ,hbw aH aH,hbw aH aH];exact or_congr (and_congr Iff.rfl aH) (and_congr Iff.rfl aH);obtain⟨o,e1,e2,e3,e4⟩:=h4.nat hb;obtain⟨j,f1,f2,f3⟩:=h5.one;rw[e1]at e4 f3;have hx1:=hb.x e2 aH;unfold mg at hu;rw[if_neg aH,if_neg aH,if_neg aH,if_neg aH,if_neg aH,if_pos h1,hp0 f2 f1,e1]at hu;refine .t o j h1 h2 h3 f1 f2 e1 e2 e3 e4 (λn hn=>?_) (λn=>?_);have:=f3 n hn;rwa[jC,hbw aH aH]at this;unfold Us;rw[hu,jC,lQ,hbw aH aH,hbw aH aH];exact or_congr Iff.rfl aH;obtain⟨o,e1,e2,e3,e4⟩:=h3.nat hb;obtain⟨j,f1,f2,f3⟩:=h4.one;rw[e1]at e4 f3;have hx1:=hb.x e2 aH;unfold mg at hu
 rw[if_neg aH,if_neg aH,if_neg aH,if_neg aH,if_neg aH,if_neg aH,hp0 f2 f1,e1]at hu;refine .k o j h1 h2 f1 f2 e1 e2 e3 e4 (λn hn=>?_) (λn=>?_);have:=f3 n hn;rw[jC,hbw aH aH]at this;exact this.symm;unfold Us;rw[hu,jC,zO hlen,hbw aH aH];refine or_congr (exists_congr λm=>?_) aH;rw[lQ,hbw aH aH];exact and_assoc;obtain⟨j,f1,f2,f3⟩:=h5.one;unfold mg at hu;rw[if_neg aH,if_neg aH,if_pos h1,hp0 f2 f1]at hu;refine .d j h1 h2 h3 f1 f2 h4 f3 (λn=>?_);unfold Us;rw[hu,zO hlen]
theorem jy{j:Nat}(hj:j<ss.length):jk ss j=ss[j].set:=by simp[jk,aX,hj]
structure mr (l:Int) (b:List NV) (ss:List SD):Prop where
  log:0<=l/\l<=6
  base:fY b
  pos:0<ss.length
  len:ss.length<=4096
  ou:∀(k:Nat) (hk:k<ss.length),jJ l b ss k ss[k]
theorem nV:rf l b ss=0↔mr l b ss:=by
 rw[Fi];exact⟨λ⟨h1,⟨h2,h3,h4⟩,⟨h5,h6⟩,h7⟩=>⟨h1,⟨h2,h3,h4⟩,h5,h6,h7⟩,λh=>⟨h.log,⟨h.base.nG,h.base.len,h.base.IU⟩,⟨h.pos,h.len⟩,h.ou⟩⟩
theorem mr.Nc(h:mr l b ss) (hk:k<ss.length):xD l b ss k ss[k]:=K7 h.base hk (h.ou k hk)
theorem EX(hb:fY b) {ag:Int} (hn:(pL l b s ag).getLsbD n=true):s.getLsbD (jo b s ag n)=true:=by
 rcases jX (b:=b) (s:=s) (ag:=ag) (n:=n)with⟨i,h1,h2,h3,_⟩|⟨h1,h2⟩;rw[h1];exact h3;rw[h1];obtain⟨i,g1,g2,g3,g4⟩:=(oZ hb).1 hn;rcases g4 with⟨g4,g5⟩|⟨g4,g5⟩;exact absurd g5 (h2 i g1 g2 g4 g3);rw[g4];exact g2
theorem mr.sub(h:mr l b ss):∀(k:Nat) (hk:k<ss.length) (n:Nat),Us b ss k n->ss[k].set.getLsbD n=true:=by
 intro k
 induction k using Nat.strongRecOn with
 |_ k ih=>
 intro hk n hn;have ihS:∀(j:Nat),j<k->∀m,Us b ss j m->(jk ss j).getLsbD m=true:=λj hj m hm=>by
  rw[jy aH];exact ih j hj aH m hm
 cases h.Nc hk with
 |Jp o h1 h2 h3 h4 h5 h6 h7=>rw[(h7 n).1 hn];exact h5
 |neg o e h1 h2 h3 h4 h5 h6 h7 h8 h9 h10 h11 h12=>
  rcases(h12 n).1 hn with e|e;rw[e];exact h5;rw[e];exact h9
 |and o j h1 h2 h3 h4 h5 h6 h7 h8 h9 h10=>
  rcases(h10 n).1 hn with⟨e1,e2,e3⟩|e;rcases h9 n (ihS j h4 n e1)with g|g|g;exact g;exact absurd g e2;exact absurd g e3;rw[e];exact h7
 |or o j i h1 h2 h3 h4 h5 h6 h7 h8 h9 h10 h11 h12=>
  rcases(h12 n).1 hn with⟨e1,e2⟩|⟨e1,e2⟩|e;exact(h10 n (ihS j h4 n e1)).resolve_right e2;exact(h11 n (ihS i h5 n e1)).resolve_right e2;rw[e];exact h8
 |cut o e j i h1 h2 h3 h4 h5 h6 h7 h8 h9 h10 h11 h12 h13=>
  rcases(h13 n).1 hn with⟨e1,e2⟩|⟨e1,e2⟩;exact(h11 n (ihS j h3 n e1)).resolve_right e2;exact(h12 n (ihS i h4 n e1)).resolve_right e2
 |t o j h1 h2 h3 h4 h5 h6 h7 h8 h9 h10 h11=>
  rcases(h11 n).1 hn with⟨e1,e2⟩|e;exact(h10 n (ihS j h5 n e1)).resolve_right e2;rw[e];exact h8
 |k o j h1 h2 h3 h4 h5 h6 h7 h8 h9 h10=>
  rcases(h10 n).1 hn with⟨m,e1,e2,e3⟩|e;rw[<-e3];exact EX h.base ((h9 m (ihS j h4 m e1)).resolve_right e2);rw[e];exact h7
 |d j h1 h2 h3 h4 h5 h6 h7 h8=>
  obtain⟨m,e1,e2⟩:=(h8 n).1 hn;rw[<-e2];exact EX h.base (h7 m (ihS j h5 m e1))
theorem vD:(iE b ss).length=gL (jz ss) ss.length:=pY (eG _)
theorem yH (hk:k<ss.length)(hn:jz ss k=true):∃hc:gL (jz ss) k<(iE b ss).length,(iE b ss)[gL (jz ss) k]=mI b ss k ss[k]:=by
 have:=Cl (b:=b) hn (eG _) hk hk;exact bA.1 this
theorem yG{q:Nat}(hq:q<(iE b ss).length):∃(k:Nat) (hk:k<ss.length),jz ss k=true/\gL (jz ss) k=q/\(iE b ss)[q]=mI b ss k ss[k]:=by
 rw[vD]at hq;obtain⟨k,h1,h2,h3⟩:=MB hq;subst h3;exact⟨k,h1,h2,rfl,(yH h1 h2).2⟩
theorem vG (hk:k<ss.length)(hn:jz ss k=true):jk (iE b ss) (gL (jz ss) k:Nat)=sw b ss k:=by
 obtain⟨h1,h2⟩:=yH (b:=b) hk hn;rw[jy h1,h2];rfl
theorem mr.pre(h:mr l b ss){j:Nat}(hk:k<ss.length)(hn:jz ss k=true)(hj:(j:Int)∈ss[k].fr):jz ss j=true/\j<k/\gL (jz ss) j<gL (jz ss) k:=by
 have h1:jz ss j=true:=mY.2 (.fr hk (mY.1 hn) hj);have h2:=(h.ou k hk).py hj;exact⟨h1,aH,JB aH h1⟩
theorem EV{u:fC}{ag:Int} (hs:∀m,u.getLsbD m=true->s.getLsbD m=true)(hu:u.getLsbD (jo b s ag n)=true):jo b u ag n=jo b s ag n:=by
 rcases jX (b:=b) (s:=u) (ag:=ag) (n:=n)with⟨i,h1,h2,h3,h4,h5,h6,h7⟩|⟨h1,h2⟩;rcases jX (b:=b) (s:=s) (ag:=ag) (n:=n)with⟨j,g1,g2,g3,g4,g5,g6,g7⟩|⟨g1,g2⟩;have:¬i<j:=λhlt=>g7 i hlt (hs _ h3) h4 h5 h6;rw[h1,g1];rw[g1]at hu;by_cases e:i=j;exact e;exact absurd g6 (h7 j aH hu g4 g5);exact absurd h6 (g2 i h2 (hs _ h3) h4 h5);rcases jX (b:=b) (s:=s) (ag:=ag) (n:=n)with⟨j,g1,g2,g3,g4,g5,g6,g7⟩|⟨g1,g2⟩;rw[g1]at hu;exact absurd g6 (h2 j g2 hu g4 g5);rw[h1,g1]
theorem G0(hb:fY b){u:fC}{ag:Int} (hn:(pL l b s ag).getLsbD n=true)(hu:u.getLsbD (jo b s ag n)=true):(pL l b u ag).getLsbD n=true:=by
 rw[oZ hb];rcases jX (b:=b) (s:=s) (ag:=ag) (n:=n)with⟨j,g1,g2,g3,g4,g5,g6,g7⟩|⟨g1,g2⟩;rw[g1]at hu;exact⟨j,g2,hu,g5,.inl ⟨g4,g6⟩⟩;rw[g1]at hu;obtain⟨i,k1,k2,k3,k4⟩:=(oZ hb).1 hn;rcases k4 with⟨k4,k5⟩|⟨k4,k5⟩;exact absurd k5 (g2 i k1 k2 k4 k3);subst k4;exact⟨n,k1,hu,k3,.inr ⟨rfl,k5⟩⟩
theorem mr.KW(h:mr l b ss) (hk:k<ss.length)(hn:jz ss k=true):jJ l b (iE b ss) (gL (jz ss) k) (mI b ss k ss[k]):=by
 have hb:=h.base;have hlen:=hb.len;have hbw:∀{i:Int} {n:Nat},0<=i->i<64->((bW i).getLsbD n=true↔(n:Int)=i):=λh1 h2=>rI ⟨h1,h2⟩;have hsub:=h.sub k hk;have hsb:∀(j:Nat),(j:Int)∈ss[k].fr->∀m,Us b ss j m->(jk ss j).getLsbD m=true:=λj hj m hm=>by
  have:=(h.pre hk hn hj).2.1;rw[jy aH];exact h.sub j aH m hm
 have hset:∀(j:Nat),(j:Int)∈ss[k].fr->jk (iE b ss) (gL (jz ss) j:Nat)=sw b ss j:=λj hj=>
  vG (by have:=(h.pre hk hn hj).2.1;omega) (h.pre hk hn hj).1;refine⟨λn hn=>(h.ou k hk).1 n (hsub n hn),?_⟩;have hin:∀{o:Nat},Us b ss k o->jl (mI b ss k ss[k]).set o=true:=λh=>lR.2 h;cases h.Nc hk with
 |Jp o h1 h2 h3 h4 h5 h6 h7=>
  have e0:(nd b ss[k].on).op=2:=by rw[h3];exact h6
  refine .inl ⟨h1,by simp[mI,h2],.inl ⟨⟨by show ss[k].on<_;omega,by show jl _ ss[k].on=true;rw[h3];exact hin ((h7 o).2 rfl),e0⟩,?_⟩⟩;show(if _ then _ else _)=_;rw[if_pos ⟨h1,e0⟩]
 |neg o e h1 h2 h3 h4 h5 h6 h7 h8 h9 h10 h11 h12=>
  have e0:¬(nd b ss[k].on).op=2:=by rw[h3];exact h6
  have ee:(mI b ss k ss[k]).e=e:=by
   show(if _ then _ else _)=_;rw[if_neg (λh=>e0 h.2)];exact h7
  have eo:(mI b ss k ss[k]).on=o:=h3;refine .inl ⟨h1,by simp[mI,h2],.inr ⟨?_,?_,?_,?_⟩⟩;rw[eo];exact hin ((h12 o).2 (.inl rfl));rw[eo];omega;rw[ee];exact hin ((h12 e).2 (.inr rfl));rw[eo,ee];exact h10
 |and o j h1 h2 h3 h4 h5 h6 h7 h8 h9 h10=>
  have hm:(j:Int)∈ss[k].fr:=by rw[h3];exact de.2 rfl
  have ee:(mI b ss k ss[k]).e=0:=by show(if _ then _ else _)=_;rw[if_neg aH];exact h2
  have eo:(mI b ss k ss[k]).on=o:=h5;have ef:(mI b ss k ss[k]).fr=[((gL (jz ss) j:Nat):Int)]:=by simp[mI,h3]
  have hx1:=hb.x h6 aH;have hy1:=hb.y h6 aH;refine .inr (.inl ⟨h1,ee,⟨by rw[eo];omega,by rw[eo];exact hin ((h10 o).2 (.inr rfl)),by rw[eo];exact h8⟩,?_⟩);rw[ef,eo];refine rM (h.pre hk hn hm).2.2 (λn hn=>?_);rw[hset j hm]at hn;rw[jC,jC,hbw aH aH,hbw aH aH];by_cases c1:(n:Int)=(nd b o).x;exact .inl (.inr c1);by_cases c2:(n:Int)=(nd b o).y;exact .inr c2;exact .inl (.inl ((h10 n).2 (.inl ⟨hn,c1,c2⟩)))
 |or o j i h1 h2 h3 h4 h5 h6 h7 h8 h9 h10 h11 h12=>
  have hm:(j:Int)∈ss[k].fr:=by rw[h3];simp
  have hm2:(i:Int)∈ss[k].fr:=by rw[h3];simp
  have ee:(mI b ss k ss[k]).e=0:=by show(if _ then _ else _)=_;rw[if_neg aH];exact h2
  have eo:(mI b ss k ss[k]).on=o:=h6;have ef:(mI b ss k ss[k]).fr=[((gL (jz ss) j:Nat):Int),((gL (jz ss) i:Nat):Int)]:=by simp[mI,h3]
  have hx1:=hb.x h7 aH;have hy1:=hb.y h7 aH;refine .inr (.inr (.inl ⟨h1,ee,⟨by rw[eo];omega,by rw[eo];exact hin ((h12 o).2 (.inr (.inr rfl))),by rw[eo];exact h9⟩,?_⟩));rw[ef,eo];refine A3 (h.pre hk hn hm).2.2 (h.pre hk hn hm2).2.2 (λn hn=>?_) (λn hn=>?_);rw[hset j hm]at hn;rw[jC,hbw aH aH];by_cases c1:(n:Int)=(nd b o).x;exact .inr c1;exact .inl ((h12 n).2 (.inl ⟨hn,c1⟩));rw[hset i hm2]at hn;rw[jC,hbw aH aH];by_cases c1:(n:Int)=(nd b o).y;exact .inr c1;exact .inl ((h12 n).2 (.inr (.inl ⟨hn,c1⟩)))
 |cut o e j i h1 h2 h3 h4 h5 h6 h7 h8 h9 h10 h11 h12 h13=>
  have hm:(j:Int)∈ss[k].fr:=by rw[h2];simp
  have hm2:(i:Int)∈ss[k].fr:=by rw[h2];simp
  have ee:(mI b ss k ss[k]).e=e:=by show(if _ then _ else _)=_;rw[if_neg aH];exact h7
  have eo:(mI b ss k ss[k]).on=o:=h5;have ef:(mI b ss k ss[k]).fr=[((gL (jz ss) j:Nat):Int),((gL (jz ss) i:Nat):Int)]:=by simp[mI,h2]
  refine .inr (.inr (.inr (.inl ⟨h1,by rw[eo];omega,by rw[ee];omega,by rw[eo,ee];exact h9,?_⟩)));rw[ef,eo,ee];refine A3 (h.pre hk hn hm).2.2 (h.pre hk hn hm2).2.2 (λn hn=>?_) (λn hn=>?_);rw[hset j hm]at hn;rw[jC,hbw aH aH];by_cases c1:n=o;exact .inr aH;exact .inl ((h13 n).2 (.inl ⟨hn,c1⟩));rw[hset i hm2]at hn;rw[jC,hbw aH aH];by_cases c1:n=e;exact .inr aH;exact .inl ((h13 n).2 (.inr ⟨hn,c1⟩))
 |t o j h1 h2 h3 h4 h5 h6 h7 h8 h9 h10 h11=>
  have hm:(j:Int)∈ss[k].fr:=by rw[h4];exact de.2 rfl
  have ee:(mI b ss k ss[k]).e=0:=by show(if _ then _ else _)=_;rw[if_neg aH];exact h2
  have eo:(mI b ss k ss[k]).on=o:=h6;have ef:(mI b ss k ss[k]).fr=[((gL (jz ss) j:Nat):Int)]:=by simp[mI,h4]
  have hx1:=hb.x h7 aH;refine .inr (.inr (.inr (.inr (.inl ⟨h1,ee,h3,⟨by rw[eo];omega,by rw[eo];exact hin ((h11 o).2 (.inr rfl)),by rw[eo];exact h9⟩,?_⟩))));rw[ef,eo];refine rM (h.pre hk hn hm).2.2 (λn hn=>?_);rw[hset j hm]at hn;rw[jC,hbw aH aH];by_cases c1:(n:Int)=(nd b o).x;exact .inr c1;exact .inl ((h11 n).2 (.inl ⟨hn,c1⟩))
 |k o j h1 h2 h3 h4 h5 h6 h7 h8 h9 h10=>
  have hm:(j:Int)∈ss[k].fr:=by rw[h3];exact de.2 rfl
  have ee:(mI b ss k ss[k]).e=0:=by show(if _ then _ else _)=_;rw[if_neg aH];exact h2
  have eo:(mI b ss k ss[k]).on=o:=h5;have ef:(mI b ss k ss[k]).fr=[((gL (jz ss) j:Nat):Int)]:=by simp[mI,h3]
  have hx1:=hb.x h6 aH;refine .inr (.inr (.inr (.inr (.inr (.inl ⟨h1,ee,⟨by rw[eo];omega,by rw[eo];exact hin ((h10 o).2 (.inr rfl)),by rw[eo];exact h8⟩,?_⟩)))));rw[ef,eo];refine rM (h.pre hk hn hm).2.2 (λn hn=>?_);rw[hset j hm]at hn;rw[jC,hbw aH aH];by_cases c1:(n:Int)=(nd b o).x;exact .inl c1;exact .inr (G0 hb ((h9 n (hsb j hm n hn)).resolve_right c1) ((h10 _).2 (.inl ⟨n,hn,c1,rfl⟩)))
 |d j h1 h2 h3 h4 h5 h6 h7 h8=>
  have hm:(j:Int)∈ss[k].fr:=by rw[h4];exact de.2 rfl
  have ee:(mI b ss k ss[k]).e=0:=by show(if _ then _ else _)=_;rw[if_neg aH];exact h2
  have ef:(mI b ss k ss[k]).fr=[((gL (jz ss) j:Nat):Int)]:=by simp[mI,h4]
  refine .inr (.inr (.inr (.inr (.inr (.inr ⟨h1,ee,h3,h6,?_⟩)))));rw[ef];refine rM (h.pre hk hn hm).2.2 (λn hn=>?_);rw[hset j hm]at hn;exact G0 hb (h7 n (hsb j hm n hn)) ((h8 _).2 ⟨n,hn,rfl⟩)
theorem mr.tr(h:mr l b ss):mr l b (iE b ss):=by
 have hlast:jz ss (ss.length - 1)=true:=mY.2 (.last (by have:=h.pos;omega));refine⟨h.log,h.base,?_,?_,λq hq=>?_⟩;obtain⟨h1,_⟩:=yH (b:=b) (k:=ss.length - 1) (by have:=h.pos;omega) hlast;omega;rw[vD];have:=v5 (p:=jz ss) (k:=ss.length);have:=h.len;omega;obtain⟨k,hk,h1,h2,h3⟩:=yG hq;rw[h3,<-h2];exact h.KW hk h1
end
end
section
variable{l:Int}{b:List NV}{ss:List SD}
theorem mr.Ck(h:mr l b ss):∃(h1:(iE b ss).length - 1<(iE b ss).length) (h2:ss.length - 1<ss.length),(iE b ss)[(iE b ss).length - 1]=mI b ss (ss.length - 1) ss[ss.length - 1]/\jz ss (ss.length - 1)=true:=by
 have hp:=h.pos;have hlast:jz ss (ss.length - 1)=true:=mY.2 (.last aH);have hl:ss.length - 1<ss.length:=aH;obtain⟨h1,h2⟩:=yH (b:=b) hl hlast;have e:(iE b ss).length=gL (jz ss) (ss.length - 1)+1:=by
  rw[vD]
  conv=>lhs;rw[show ss.length=(ss.length - 1)+1 by omega]
  rw[nF,if_pos hlast]
 refine⟨aH,hl,?_,hlast⟩;rw[<-h2];congr 1;omega
def zx:Tr->Bool
 |.leaf op _ _ _=>op==1
 |.un op _ _ _ a=>if op=4 then !zx a else zx a
 |.bin op _ _ _ a c=>if op=5 then zx a && zx c else zx a||zx c
theorem v3:∀{t:Tr},uz t->t.ok->zx (fB t).2=!zx t
 |.leaf op i e g,h,hok=>by
  have h1:op<=3:=h;have h2:=hok.1.1;rw[fB];dsimp only;rcases(by omega:op=1\/op=2\/op=3)with rfl|rfl|rfl;rfl;rfl;rfl
 |.un op i e g a,h,hok=>by
  rcases h with⟨rfl,j,e',g',rfl⟩|⟨h1,h2⟩;rfl;have ih:=v3 h2 hok.2.2.2.2;rcases h1 with rfl|rfl;rw[fB,if_neg aI,if_pos rfl];exact ih;rw[fB,if_neg aI,if_neg aI,if_pos rfl];exact ih
 |.bin op i e g a c,h,hok=>by
  have iha:=v3 h.2.1 hok.2.2.2.1;have ihc:=v3 h.2.2 hok.2.2.2.2;rcases h.1 with rfl|rfl;rw[fB,if_pos rfl];show(if (6:Int)=5 then _ else _)=!(if (5:Int)=5 then _ else _);rw[if_neg aI,if_pos rfl,iha,ihc];cases zx a<;>cases zx c<;>rfl
  rw[fB,if_neg aI,if_pos rfl];show(if (5:Int)=5 then _ else _)=!(if (6:Int)=5 then _ else _);rw[if_pos rfl,if_neg aI,iha,ihc];cases zx a<;>cases zx c<;>rfl
theorem fY.node(h:fY b){i:Nat}(hi:i<b.length):((nd b i).op<=3/\eP b i=.leaf (nd b i).op (nd b i).i (nd b i).e (nd b i).g)\/(((nd b i).op=4\/(nd b i).op=9\/(nd b i).op=10)/\eP b i=.un (nd b i).op (nd b i).i (nd b i).e (nd b i).g (eP b (nd b i).x.toNat))\/(((nd b i).op=5\/(nd b i).op=6)/\eP b i=.bin (nd b i).op (nd b i).i (nd b i).e (nd b i).g (eP b (nd b i).x.toNat) (eP b (nd b i).y.toNat)):=by
 rw[gN hi];have hO:=(fA.1 h.nG).nodes;have hn:=h.IU _ (dB hi);unfold jD at hn;have hX:jd b[i].op=true↔4<=b[i].op:=by
  unfold jd;simp;omega
 have hY:iH b[i].op=true↔b[i].op=5\/b[i].op=6:=by
  unfold iH;simp;omega
 rcases iB hi hO with⟨h1,h2⟩|⟨h1,h2,h3⟩|⟨h1,h2⟩;refine .inl ⟨?_,h2⟩;have:¬4<=b[i].op:=λe=>by rw[hX.2 e]at h1;cases h1
 omega;refine .inr (.inl ⟨?_,h3⟩);have:=hX.1 h1;have:¬(b[i].op=5\/b[i].op=6):=λe=>by rw[hY.2 e]at h2;cases h2
 omega;exact .inr (.inr ⟨hY.1 h1,h2⟩)
theorem fY.ok(h:fY b){i:Nat}(hi:i<b.length):(eP b i).ok:=(fA.1 h.nG).nodes.tree i hi
theorem fY.nf(h:fY b):∀(i:Nat),i<b.length->uz (eP b i):=by
 intro i
 induction i using Nat.strongRecOn with
 |_ i ih=>
 intro hi;rcases h.node hi with⟨h1,h2⟩|⟨h1,h2⟩|⟨h1,h2⟩;rw[h2];exact h1;have hx:=h.x hi aH;rw[h2];by_cases h4:(nd b i).op=4;have hn:=h.IU _ (dB hi);unfold jD at hn;rw[<-gN hi]at hn;have h3:(nd b (nd b i).x).op=3:=aH;obtain⟨k,hk⟩:∃k:Nat,(nd b i).x=k:=⟨(nd b i).x.toNat,aH⟩;rw[hk]at h3⊢;have hkl:k<b.length:=aH;rcases h.node hkl with⟨g1,g2⟩|⟨g1,g2⟩|⟨g1,g2⟩;rw[di,g2,h3];exact .inl ⟨h4,_,_,_,rfl⟩;omega;omega;exact .inr ⟨aH,ih _ aH aH⟩;have hx:=h.x hi aH;have hy:=h.y hi h1;rw[h2];exact⟨h1,ih _ aH aH,ih _ aH aH⟩
theorem fY.fit(h:fY b){i:Nat}(hi:i<b.length):Fit (fH (eP b i))/\Fit (eP b i):=by
 have h1:=sf (fA.1 h.nG).nodes.ord hi;have h2:=h.len;have h3:(iD (fH (eP b i))).length=(iD (eP b i)).length+1:=v7;unfold Fit;omega
theorem fY.GJ(h:fY b){i:Nat}(hi:i<b.length):zx (kk (eP b i))=!zx (eP b i):=by
 rw[wE (h.fit hi).1];exact v3 (h.nf i hi) (h.ok hi)
theorem mr.BW(h:mr l b ss):∀(k:Nat),k<ss.length->∃n,Us b ss k n/\zx (eP b n)=false:=by
 have hb:=h.base;intro k
 induction k using Nat.strongRecOn with
 |_ k ih=>
 intro hk;have hsrc:∀{j:Nat} {s:fC} {ag:Int} {m:Nat},j<ss.length->Us b ss j m->zx (eP b m)=false->zx (eP b (jo b s ag m))=false:=λ{j s ag m} hj hm he=>by
  rcases jX (b:=b) (s:=s) (ag:=ag) (n:=m)with⟨i,h1,h2,h3,h4,h5,h6,_⟩|⟨h1,_⟩;rw[h1];rcases hb.node h2 with⟨g1,g2⟩|⟨g1,g2⟩|⟨g1,g2⟩;omega;rw[g2,h6];show(if _ then _ else _)=_;rw[if_neg aH];exact he;omega;rw[h1];exact he
 cases h.Nc hk with
 |Jp o h1 h2 h3 h4 h5 h6 h7=>
  refine⟨o,(h7 o).2 rfl,?_⟩;rcases hb.node h4 with⟨g1,g2⟩|⟨g1,g2⟩|⟨g1,g2⟩;rw[g2,h6];rfl;omega;omega
 |neg o e h1 h2 h3 h4 h5 h6 h7 h8 h9 h10 h11 h12=>
  cases hv:zx (eP b o)with
  |false=>exact⟨o,(h12 o).2 (.inl rfl),hv⟩
  |true=>exact⟨e,(h12 e).2 (.inr rfl),by rw[h11,hb.GJ h4,hv];rfl⟩
 |and o j h1 h2 h3 h4 h5 h6 h7 h8 h9 h10=>
  obtain⟨n,hn,hv⟩:=ih j h4 aH;have hx:=hb.x h6 aH;have hy:=hb.y h6 aH;by_cases c1:(n:Int)=(nd b o).x\/(n:Int)=(nd b o).y;refine⟨o,(h10 o).2 (.inr rfl),?_⟩;rcases hb.node h6 with⟨g1,g2⟩|⟨g1,g2⟩|⟨g1,g2⟩;omega;omega;rw[g2,h8];show(if (5:Int)=5 then _ else _)=_;rw[if_pos rfl];rcases c1 with c1|c1;rw[<-c1,di,hv];rfl;rw[<-c1,di,hv,Bool.and_false];exact⟨n,(h10 n).2 (.inl ⟨hn,λe=>c1 (.inl e),λe=>c1 (.inr e)⟩),hv⟩
 |or o j i h1 h2 h3 h4 h5 h6 h7 h8 h9 h10 h11 h12=>
  obtain⟨n,hn,hv⟩:=ih j h4 aH;obtain⟨m,hm,hw⟩:=ih i h5 aH;by_cases c1:(n:Int)=(nd b o).x;by_cases c2:(m:Int)=(nd b o).y;refine⟨o,(h12 o).2 (.inr (.inr rfl)),?_⟩;rcases hb.node h7 with⟨g1,g2⟩|⟨g1,g2⟩|⟨g1,g2⟩;omega;omega;rw[g2,h9];show(if (6:Int)=5 then _ else _)=_;rw[if_neg aI,<-c1,<-c2,di,di,hv,hw];rfl;exact⟨m,(h12 m).2 (.inr (.inl ⟨hm,c2⟩)),hw⟩;exact⟨n,(h12 n).2 (.inl ⟨hn,c1⟩),hv⟩
 |cut o e j i h1 h2 h3 h4 h5 h6 h7 h8 h9 h10 h11 h12 h13=>
  obtain⟨n,hn,hv⟩:=ih j h3 aH;obtain⟨m,hm,hw⟩:=ih i h4 aH;by_cases c1:n=o;by_cases c2:m=e;subst c1 c2;rw[h10,hb.GJ h6,hv]at hw;cases hw;exact⟨m,(h13 m).2 (.inr ⟨hm,c2⟩),hw⟩;exact⟨n,(h13 n).2 (.inl ⟨hn,c1⟩),hv⟩
 |t o j h1 h2 h3 h4 h5 h6 h7 h8 h9 h10 h11=>
  obtain⟨n,hn,hv⟩:=ih j h5 aH;by_cases c1:(n:Int)=(nd b o).x;refine⟨o,(h11 o).2 (.inr rfl),?_⟩;rcases hb.node h7 with⟨g1,g2⟩|⟨g1,g2⟩|⟨g1,g2⟩;omega;rw[g2,h9,<-c1,di];show(if (9:Int)=4 then _ else _)=_;rw[if_neg aI];exact hv;omega;exact⟨n,(h11 n).2 (.inl ⟨hn,c1⟩),hv⟩
 |k o j h1 h2 h3 h4 h5 h6 h7 h8 h9 h10=>
  obtain⟨n,hn,hv⟩:=ih j h4 aH;by_cases c1:(n:Int)=(nd b o).x;refine⟨o,(h10 o).2 (.inr rfl),?_⟩;rcases hb.node h6 with⟨g1,g2⟩|⟨g1,g2⟩|⟨g1,g2⟩;omega;rw[g2,h8,<-c1,di];show(if (10:Int)=4 then _ else _)=_;rw[if_neg aI];exact hv;omega;exact⟨_,(h10 _).2 (.inl ⟨n,hn,c1,rfl⟩),hsrc (by omega:j<ss.length) hn hv⟩
 |d j h1 h2 h3 h4 h5 h6 h7 h8=>
  obtain⟨n,hn,hv⟩:=ih j h5 aH;exact⟨_,(h8 _).2 ⟨n,hn,rfl⟩,hsrc (by omega:j<ss.length) hn hv⟩
end
section
variable{last:aq}{full:fC}
def iv(b:List NV)(s:fC):Tr:=fH (nZ ((jK s).map (eP b)))
section
variable(T:Tr->Prop)
noncomputable def vy(a:Int)(h:Tr):List Tr->List Tr->Nat->Sg->Nat×Sg
 |_,[],r,σ=>(r,σ)
 |ds,t::ts,r,σ=>
  let k:=kW T a t (gQ ts h) σ
  let d:=ga T (gQ ((ds++[t]).map (fe a)) (fe a (gQ ts h))) [r,k.1] k.2
  vy a h (ds++[t]) ts d.1 d.2
noncomputable def rD(a:Int)(ts:List Tr)(h:Tr)(line:Nat)(σ:Sg):Nat×Sg:=
 let f:=ga T (gQ ts h) [line] σ
 let r:=gq T (fe a (gQ ts h)) 11 f.1 0 a f.2
 vy T a h [] ts r.1 r.2
noncomputable def jB(b:List NV)(full:fC)(a:Int):aq->Sg->aq×Sg
 |[],σ=>([],σ)
 |n::ns,σ=>if jo b full a n=n then((nH T a (eP b n) σ).1::(jB b full a ns (nH T a (eP b n) σ).2).1,(jB b full a ns (nH T a (eP b n) σ).2).2)else jB b full a ns σ
noncomputable def ru(b:List NV)(goal:Tr)(full:fC)(a:Int)(ns:aq)(tg:Nat)(own:aq)(isK:Bool)(line:Nat)(σ:Sg):Nat×Sg:=
 let c:=rD T a (ns.map (eP b)) (fH (eP b tg)) line σ
 let d:=jB T b full a own c.2
 let e:=if isK=true then jU T a (eP b tg) d.2 else gq T (fO (fe a (eP b tg)) (fH (fe a (fH (eP b tg))))) 6 0 0 0 d.2
 ga T goal (c.1::(d.1++[e.1])) e.2
noncomputable def gm(b:List NV)(tl:List SD)(full:fC)(x:SD)(last:aq)(σ:Sg):Nat×Sg:=
 let goal:=iv b x.set
 let p0:=last.getD (x.fr.getD 0 0).toNat 0
 let p1:=last.getD (x.fr.getD 1 0).toNat 0
 if x.eW=1 then(if (nd b x.on).op=2 then ga T goal [] σ else ga T goal [(fF T false (tA b x.on) σ).1] (fF T false (tA b x.on) σ).2)
 else if x.eW=2 then ga T goal [p0] σ
 else if x.eW=3 then ga T goal [p0,p1] σ
 else if x.eW=4 then ga T goal [(fF T true (tA b x.on) σ).1,p0,p1] (fF T true (tA b x.on) σ).2
 else if x.eW=5 then ga T goal [(gq T (fO (tA b x.on) (tA b (nd b x.on).x)) 3 0 0 0 σ).1,p0] (gq T (fO (tA b x.on) (tA b (nd b x.on).x)) 3 0 0 0 σ).2
 else if x.eW=6 then ru T b goal full (nd b x.on).i (jK (jk tl (x.fr.getD 0 0) &&& ~~~ bW (nd b x.on).x)) (nd b x.on).x.toNat (jK (jk tl (x.fr.getD 0 0) &&& ~~~ bW (nd b x.on).x)) true p0 σ
 else ru T b goal full x.on (jK (jk tl (x.fr.getD 0 0))).dropLast ((jK (jk tl (x.fr.getD 0 0))).getLastD 0) (jK (jk tl (x.fr.getD 0 0))) false p0 σ
noncomputable def fP(b:List NV)(tl:List SD)(fl:List fC):Nat->aq×Sg
 |0=>([],⟨[],false⟩)
 |q+1=>match tl[q]? with
  |some x=>((fP b tl fl q).1++[(gm T b tl (fl.getD q 0#64) x (fP b tl fl q).1 (fP b tl fl q).2).1],(gm T b tl (fl.getD q 0#64) x (fP b tl fl q).1 (fP b tl fl q).2).2)
  |none=>fP b tl fl q
end
noncomputable def gJ(ss:List SD):Nat->List fC
 |0=>[]
 |k+1=>match ss[k]? with
  |some x=>if jz ss k=true then gJ ss k++[x.set]else gJ ss k
  |none=>gJ ss k
noncomputable def kY(T:Tr->Prop)(b:List NV)(ss:List SD):Nat×Sg:=
 let tl:=iE b ss
 let p:=fP T b tl (gJ ss ss.length) tl.length
 let ln:=p.1.getD (tl.length - 1) 0
 if jk tl ((tl.length - 1:Nat):Int)=jk ss ((ss.length - 1:Nat):Int)then(ln,p.2)else ga T (iv b (jk ss ((ss.length - 1:Nat):Int))) [ln] p.2
section
variable{l:Int}{b:List NV}{ss:List SD}{σ:Sg}{T:Tr->Prop}
theorem GI{v:Tr->Bool}:∀{ts:List Tr},iG v (nZ ts)=true↔∀u∈ts,iG v u=true
 |[]=>⟨λ_ _ h=>(by cases h),λ_=>rfl⟩
 |t::ts=>by
  have key:∀(us:List Tr) (a:Tr),iG v (us.foldl (λa c=>.bin 5 0 0 0 a c) a)=true↔iG v a=true/\∀u∈us,iG v u=true:=by
   intro us
   induction us with
   |nil=>intro a;simp
   |cons u us ih=>
    intro a;rw[List.foldl_cons,ih,show iG v (.bin 5 0 0 0 a u)=(iG v a && iG v u)from rfl,dx];simp only[ew,forall_eq_or_imp,and_assoc]
  rw[show nZ (t::ts)=ts.foldl (λa c=>.bin 5 0 0 0 a c) t from rfl,key];simp
theorem lI{v:Tr->Bool}{s:fC}:iG v (iv b s)=true↔¬∀n,s.getLsbD n=true->iG v (eP b n)=true:=by
 unfold iv;rw[xz,dh];constructor;intro h hall;have:iG v (nZ ((jK s).map (eP b)))=true:=GI.2 (λu hu=>by
  obtain⟨n,hn,rfl⟩:=eA.1 hu;exact hall n (gZ.1 hn));rw[this]at h;cases h;intro h;cases e:iG v (nZ ((jK s).map (eP b)))with
 |false=>rfl
 |true=>exact absurd (λn hn=>GI.1 e _ (cQ (gZ.2 hn))) h
theorem zl:∀{ts:List Tr},(∀u∈ts,lD u)->lD (nZ ts)
 |[],_=>⟨⟨aI,rfl,aI⟩,.inl aI⟩
 |t::ts,h=>by
  have key:∀(us:List Tr) (a:Tr),lD a->(∀u∈us,lD u)->lD (us.foldl (λa c=>.bin 5 0 0 0 a c) a):=by
   intro us
   induction us with
   |nil=>intro a ha _;exact ha
   |cons u us ih=>intro a ha hu;exact ih _ (ha.ad (hu u aF)) (λw hw=>hu w (cF _ hw))
  exact key ts t (h t aF) (λu hu=>h u (cF _ hu))
theorem fY.fr(h:fY b){n:Nat}(hn:n<b.length):lD (eP b n):=(h.nf n hn).fr (h.ok hn)
theorem qP(h:fY b){s:fC}(hs:lJ b s):lD (iv b s):=(zl (λu hu=>by
 obtain⟨n,hn,rfl⟩:=eA.1 hu;exact h.fr (hs n (gZ.1 hn)))).nt
theorem Dk{a:Int}{h:Tr}:∀{ts ds:List Tr} {r:Nat} {σ:Sg},σ.Le (vy T a h ds ts r σ).2
 |[],_,_,σ=>Sg.Le.refl σ
 |_t::ts,_ds,_r,_σ=>wS.trans (jq.trans (Dk (ts:=ts)))
theorem JE{a:Int}{h:Tr}{ts:List Tr}{n:Nat}:σ.Le (rD T a ts h n σ).2:=jq.trans (je.trans Dk)
theorem AQ{a:Int}{h:Tr}:∀{ts ds:List Tr} {r:Nat} {σ:Sg},jm σ r (gQ (ds.map (fe a)) (fe a (gQ ts h)))->jm (vy T a h ds ts r σ).2 (vy T a h ds ts r σ).1 (gQ ((ds++ts).map (fe a)) (fe a h))
 |[],ds,r,σ,hr=>by rw[dL];exact hr
 |t::ts,ds,r,σ,_=>by
  rw[show ds++t::ts=(ds++[t])++ts by simp];exact AQ jM
theorem AP{a:Int}{h:Tr}{ts:List Tr}{n:Nat}:jm (rD T a ts h n σ).2 (rD T a ts h n σ).1 (gQ (ts.map (fe a)) (fe a h)):=AQ (ds:=[]) ib
theorem qu{full:fC}{a:Int}:∀{ns:aq} {σ:Sg},σ.Le (jB T b full a ns σ).2
 |[],σ=>Sg.Le.refl σ
 |n::ns,σ=>by
  rw[jB];split;exact uk.trans qu;exact qu
theorem u0{full:fC}{a:Int}:∀{ns:aq} {σ:Sg} (m:Nat),m∈(jB T b full a ns σ).1->∃n∈ns,jo b full a n=n/\jm (jB T b full a ns σ).2 m (fO (eP b n) (fe a (eP b n)))
 |[],σ,m,h=>by cases h
 |n::ns,σ,m,h=>by
  rw[jB]at h⊢;by_cases e:jo b full a n=n;rw[if_pos e]at h⊢;rcases ew.1 h with rfl|h;exact⟨n,aF,e,um.le qu⟩;obtain⟨k,h1,h2,h3⟩:=u0 m h;exact⟨k,cF _ h1,h2,h3⟩;rw[if_neg e]at h⊢;obtain⟨k,h1,h2,h3⟩:=u0 m h;exact⟨k,cF _ h1,h2,h3⟩
theorem u3{full:fC}{a:Int}:∀{ns:aq} {σ:Sg} {n:Nat},n∈ns->jo b full a n=n->∃m∈(jB T b full a ns σ).1,jm (jB T b full a ns σ).2 m (fO (eP b n) (fe a (eP b n)))
 |[],_,_,h,_=>by cases h
 |k::ns,σ,n,h,he=>by
  rw[jB];rcases ew.1 h with rfl|h;rw[if_pos he];exact⟨_,aF,um.le qu⟩;split;obtain⟨m,h1,h2⟩:=u3 (σ:=(nH T a (eP b k) σ).2) h he;exact⟨m,cF _ h1,h2⟩;exact u3 h he
theorem C0{goal:Tr} {a:Int}{ns:aq}{tg:Nat}{own:aq}{isK:Bool}{line:Nat}:σ.Le (ru T b goal full a ns tg own isK line σ).2:=by
 have h1:=JE (T:=T) (σ:=σ) (a:=a) (h:=fH (eP b tg)) (ts:=ns.map (eP b)) (n:=line);have h2:=qu (T:=T) (b:=b) (full:=full) (a:=a) (ns:=own) (σ:=(rD T a (ns.map (eP b)) (fH (eP b tg)) line σ).2);cases isK with
 |true=>exact(h1.trans h2).trans (nM.trans jq)
 |false=>exact(h1.trans h2).trans (je.trans jq)
theorem zM{tl:List SD} {x:SD} :σ.Le (gm T b tl full x last σ).2:=by
 unfold gm;dsimp only
 repeat' split
 exact jq;exact mx.trans jq;exact jq;exact jq;exact mx.trans jq;exact je.trans jq;exact C0;exact C0
theorem DK{tl:List SD} {x:SD} :jm (gm T b tl full x last σ).2 (gm T b tl full x last σ).1 (iv b x.set):=by
 unfold gm;dsimp only
 repeat' split
 all_goals exact jM
def vm(σ:Sg)(n:Nat):Prop:=σ.bad=false->n+1=σ.ls.length
theorem yu{t:Tr}{r g:Int}{a c:Nat}:vm (gq T t r a c g σ).2 (gq T t r a c g σ).1:=by
 unfold gq;split;intro e;cases e;intro _;simp
theorem xW{g:Tr}:∀{ps:List (Nat×Tr)} {n:Nat} {σ:Sg},vm σ n->vm (ph T g ps n σ).2 (ph T g ps n σ).1
 |[],_,_,h=>h
 |_::ps,_,_,_=>xW (ps:=ps) yu
theorem yo{g:Tr}{fr:aq}:vm (ga T g fr σ).2 (ga T g fr σ).1:=by
 unfold ga;split;rename_i h;intro e;rw[h]at e;cases e;exact xW yu
theorem Bg{tl:List SD} {x:SD} :vm (gm T b tl full x last σ).2 (gm T b tl full x last σ).1:=by
 unfold gm;dsimp only
 repeat' split
 all_goals exact yo
end
end
section
variable{l:Int}{b:List NV}{ss:List SD}{σ:Sg}
theorem Dj{a:Int}{h:Tr}(hi:0<=a/\a<4)(hh:lD h):∀{ts ds:List Tr} {r:Nat} {σ:Sg},(∀u∈ts,lD u)->(∀u∈ds,lD u)->Good l σ->jm σ r (gQ (ds.map (fe a)) (fe a (gQ ts h)))->zw l (λT=>vy T a h ds ts r) σ
 |[],_,_,σ,_,_,hg,_=>⟨rfl,hg⟩
 |t::ts,ds,r,σ,hts,hds,hg,hr=>by
  have ht:=hts t aF;have hts':∀u∈ts,lD u:=λu hu=>hts u (cF _ hu);have hc:=lD.ch hts' hh;have h1:=Kr (i:=a) (p:=t) (q:=gQ ts h) hi hg ht hc;have k1:jm (kW eR a t (gQ ts h) σ).2 (kW eR a t (gQ ts h) σ).1 (fO (fe a (fO t (gQ ts h))) (fO (fe a t) (fe a (gQ ts h)))):=ib;have kr:=hr.le (wS (T:=eR) (i:=a) (p:=t) (q:=gQ ts h));have hds':∀u∈ds++[t],lD u:=λu hu=>by
   rcases dP.1 hu with hu|hu;exact hds u hu;rw[de.1 hu];exact ht
  have h2:=ku (g:=gQ ((ds++[t]).map (fe a)) (fe a (gQ ts h))) (from_:=[r,(kW eR a t (gQ ts h) σ).1]) h1.jZ (lD.ch (λu hu=>by
    obtain⟨w,hw,rfl⟩:=eA.1 hu;exact(hds' w hw).kw hi) (hc.kw hi)) (λhb n hn=>by
   simp only[ew,dE,eM]at hn;rcases hn with rfl|rfl;exact(kr hb).1;exact(k1 hb).1) (λhb _ v hv=>by
   have e1:=hv _ aF;have e2:=hv _ (cF _ aF);rw[(kr hb).2,BX]at e1;rw[(k1 hb).2,vw,vw]at e2;rw[BX];intro hall;have e3:iG v (fe a (fO t (gQ ts h)))=true:=e1 (λu hu=>hall u (by rw[dO];exact cD _ hu));have e4:iG v (fe a t)=true:=hall _ (by rw[dO];exact bZ _ (de.2 rfl));rw[e3,e4]at e2;simpa using e2);have h3:=Dj hi hh (ts:=ts) (ds:=ds++[t]) hts' hds' h2.jZ jM;have s1:=h1.same;have s2:=h2.same;have s3:=h3.same;constructor;simp only[vy];rw[<-s1,<-s2];exact s3;exact h3.jZ
theorem JD{a:Int}{h t0:Tr}{ts:List Tr}{n:Nat}(hi:0<=a/\a<4)(hh:lD h)(hts:∀u∈ts,lD u)(hg:Good l σ)(hn:jm σ n t0)(he:∀v,iG v t0=true->iG v (gQ ts h)=true):zw l (λT=>rD T a ts h n) σ:=by
 have hc:=lD.ch hts hh;have h1:=ku (g:=gQ ts h) (from_:=[n]) hg hc (λhb m hm=>by rw[de.1 hm];exact(hn hb).1) (λhb _ v hv=>by
  have:=hv n (de.2 rfl);rw[(hn hb).2]at this;exact he v this);have h2:=m8 (t:=fe a (gQ ts h)) (r:=11) (a:=(ga eR (gQ ts h) [n] σ).1) (b:=0) (g:=a) h1.jZ (λ_ _=>⟨hc.kw hi,Mn l aH,.inr (.inr (.inr ⟨rfl,rfl,hi,_,jM,rfl⟩))⟩);have h3:=Dj (ts:=ts) (ds:=[]) hi hh hts (λu hu=>by cases hu) h2.jZ ib;have s1:=h1.same;have s2:=h2.same;have s3:=h3.same;constructor;simp only[rD];rw[<-s1,<-s2];exact s3;exact h3.jZ
structure Q7 (l:Int) (P:(Tr->Prop)->Sg->aq×Sg) (σ:Sg):Prop where
  same:P eR σ=P eZ σ
  jZ:Good l (P eR σ).2
theorem xg{full:fC}{a:Int}(hi:0<=a/\a<4):∀{ns:aq} {σ:Sg},Good l σ->(∀n∈ns,jo b full a n=n->∃z,lD z/\((eP b n=fe a z/\iU l 4=true)\/(eP b n=l8 a z/\iU l 5=true)))->Q7 l (λT=>jB T b full a ns) σ
 |[],σ,hg,_=>⟨rfl,hg⟩
 |n::ns,σ,hg,h=>by
  have hns:=λk hk=>h k (cF _ hk);by_cases e:jo b full a n=n;obtain⟨z,hz,hf⟩:=h n aF e;have h1:=JG (i:=a) (f:=eP b n) (z:=z) hi hz hf hg;have h2:=xg hi (ns:=ns) h1.jZ hns;have s1:=h1.same;have s2:=h2.same;constructor;simp only[jB];rw[if_pos e,if_pos e,<-s1,s2];simp only[jB];rw[if_pos e];exact h2.jZ;have h2:=xg hi (ns:=ns) hg hns;constructor;simp only[jB];rw[if_neg e,if_neg e];exact h2.same;simp only[jB];rw[if_neg e];exact h2.jZ
theorem CZ{goal t0:Tr}{full:fC}{a:Int}{ns own:aq}{tg line:Nat}{isK:Bool}(hb:fY b)(hi:0<=a/\a<4)(hgl:lD goal)(hns:∀n∈ns,n<b.length)(htg:tg<b.length)(h6:isK=false->iU l 6=true)(hg:Good l σ)(hn:jm σ line t0)
  (he:∀v,iG v t0=true->iG v (gQ (ns.map (eP b)) (fH (eP b tg)))=true)
  (hc:∀n∈own,jo b full a n=n->∃z,lD z/\((eP b n=fe a z/\iU l 4=true)\/(eP b n=l8 a z/\iU l 5=true)))
  (hlast:∀v,((∀n∈ns,iG v (fe a (eP b n))=true)->iG v (fe a (fH (eP b tg)))=true)->(∀n∈own,jo b full a n=n->iG v (eP b n)=true->iG v (fe a (eP b n))=true)->(if isK=true then iG v (l8 a (eP b tg))=true->¬iG v (fe a (fH (eP b tg)))=true else iG v (fe a (eP b tg))=true->¬iG v (fe a (fH (eP b tg)))=true)->iG v goal=true):
  zw l (λT=>ru T b goal full a ns tg own isK line) σ:=by
 have ft:=hb.fr htg;have h1:=JD (ts:=ns.map (eP b)) (h:=fH (eP b tg)) hi ft.nt (λu hu=>by
  obtain⟨n,hn,rfl⟩:=eA.1 hu;exact hb.fr (hns n hn)) hg hn he;have k1:jm _ _ _:=AP (T:=eR) (a:=a) (h:=fH (eP b tg)) (ts:=ns.map (eP b)) (n:=line) (σ:=σ);obtain⟨σ1,e1⟩:∃s,s=rD eR a (ns.map (eP b)) (fH (eP b tg)) line σ:=⟨_,rfl⟩;have g1:Good l σ1.2:=by rw[e1];exact h1.jZ
 rw[<-e1]at k1;have h2:=xg (b:=b) (full:=full) hi (ns:=own) g1 hc;obtain⟨σ2,e2⟩:∃s,s=jB eR b full a own σ1.2:=⟨_,rfl⟩;have g2:Good l σ2.2:=by rw[e2];exact h2.jZ
 have le2:σ1.2.Le σ2.2:=by rw[e2];exact qu
 obtain⟨P3,hP3⟩:∃P3:(Tr->Prop)->Sg->Nat×Sg,P3=λT s=>if isK=true then jU T a (eP b tg) s else gq T (fO (fe a (eP b tg)) (fH (fe a (fH (eP b tg))))) 6 0 0 0 s:=⟨_,rfl⟩;obtain⟨t3,ht3⟩:∃t3,t3=if isK=true then sZ (l8 a (eP b tg)) (fH (fe a (fH (eP b tg))))else fO (fe a (eP b tg)) (fH (fe a (fH (eP b tg)))):=⟨_,rfl⟩;have h3:zw l P3 σ2.2:=by
  rw[hP3];cases hk:isK with
  |true=>exact yQ hi g2 ft
  |false=>exact m8 g2 (λ_ _=>⟨(ft.kw hi).im (ft.nt.kw hi).nt,h6 hk,.inr (.inl ⟨aI,aI,rfl,rfl,rfl,⟨a,_,rfl⟩⟩)⟩)
 obtain⟨σ3,e3⟩:∃s,s=P3 eR σ2.2:=⟨_,rfl⟩;have g3:Good l σ3.2:=by rw[e3];exact h3.jZ
 have le3:σ2.2.Le σ3.2:=by
  rw[e3,hP3];cases isK with
  |true=>exact nM
  |false=>exact je
 have k3:jm σ3.2 σ3.1 t3:=by
  rw[e3,hP3,ht3];cases isK with
  |true=>exact ib
  |false=>exact ib
 have k1':=k1.le (le2.trans le3);have h4:=ku (g:=goal) (from_:=σ1.1::(σ2.1++[σ3.1])) g3 hgl (λhbd n hn=>by
  simp only[ew,dP,dE,eM]at hn;rcases hn with rfl|hn|rfl;exact(k1' hbd).1;rw[e2]at hn;obtain⟨m,_,_,hm⟩:=u0 n hn;rw[<-e2]at hm;exact(hm.le le3 hbd).1;exact(k3 hbd).1) (λhbd _ v hv=>by
  have q1:=hv _ aF;have q3:=hv σ3.1 (cF _ (bZ _ (de.2 rfl)));rw[(k1' hbd).2,BX]at q1;rw[(k3 hbd).2,ht3]at q3;refine hlast v (λhall=>q1 (λu hu=>?_)) (λn hno hsn hvn=>?_) ?_;rw[ez]at hu;obtain⟨n,hn,rfl⟩:=eA.1 hu;exact hall n hn;obtain⟨m,hm,hh⟩:=u3 (T:=eR) (b:=b) (full:=full) (a:=a) (ns:=own) (σ:=σ1.2) hno hsn;rw[<-e2]at hm hh;have q2:=hv m (cF _ (cD _ hm));rw[(hh.le le3 hbd).2,vw,hvn]at q2;simpa using q2;cases isK with
  |true=>
   rw[if_pos rfl]at q3⊢;rw[Jt,xz]at q3;intro hp hk;rw[hp,hk]at q3;cases q3
  |false=>
   rw[if_neg aI]at q3⊢;rw[vw,xz]at q3;intro hp hk;rw[hp,hk]at q3;cases q3);have s1:=h1.same;have s2:=h2.same;have s3:=h3.same;have s4:=h4.same;rw[<-e1]at s1;rw[<-e2]at s2;rw[<-e3]at s3;have hsp:∀T s,ru T b goal full a ns tg own isK line s=ga T goal ((rD T a (ns.map (eP b)) (fH (eP b tg)) line s).1::((jB T b full a own (rD T a (ns.map (eP b)) (fH (eP b tg)) line s).2).1++[(P3 T (jB T b full a own (rD T a (ns.map (eP b)) (fH (eP b tg)) line s).2).2).1])) (P3 T (jB T b full a own (rD T a (ns.map (eP b)) (fH (eP b tg)) line s).2).2).2:=λT s=>by rw[hP3];rfl
 constructor;rw[hsp,hsp,<-s1,<-e1,<-s2,<-e2,<-s3,<-e3];exact s4;rw[hsp,<-e1,<-e2,<-e3];exact h4.jZ
end
end Go.Proofs.Wit
