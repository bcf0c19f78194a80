/- Laws of walks, each under its own conditions. -/
import Derived.Test.YtpbhoidjmpjfpaaGreatDoorXP32
import Derived.Test.YtpbhoidjmpjfpaaGreatDoorXP40
set_option maxRecDepth 100000
set_option maxHeartbeats 40000000
namespace Go.Proofs.Wit
open Go Go.RowKit
section
variable{M:KM}{w:Nat}
open Classical in
theorem Da{i e g:Int}{a:Tr}:sat M (.un 9 i e g a) w=true↔∀u,M.R i.toNat w u->sat M a u=true:=by
 show tP M 9 i g (sat M a) (λ_=>false) w=true↔_;unfold tP;rw[if_pos rfl,dE]
open Classical in
theorem yO{i e g:Int}{a:Tr}:sat M (.un 10 i e g a) w=true↔∃u,M.R i.toNat w u/\sat M a u=true:=by
 show tP M 10 i g (sat M a) (λ_=>false) w=true↔_;unfold tP;rw[if_neg aI,if_pos rfl,dE]
theorem Dc{i e g:Int}{a b:Tr}:sat M (.bin 5 i e g a b) w=(sat M a w && sat M b w):=rfl
theorem Db{i e g:Int}{a b:Tr}:sat M (.bin 6 i e g a b) w=(sat M a w||sat M b w):=rfl
theorem Vy{i e g:Int}{a b:Tr}:sat M (.bin 7 i e g a b) w=(!sat M a w||sat M b w):=rfl
theorem Vx{i e g:Int}{a b:Tr}:sat M (.bin 8 i e g a b) w=(sat M a w==sat M b w):=rfl
theorem TB{i e g:Int}{a:Tr}:sat M (.un 4 i e g a) w=!sat M a w:=rfl
theorem zb:∀{t:Tr},t.ok->jE (λop _ _=>op<=10) t->∀w,sat M (fC t).1 w=sat M t w/\sat M (fC t).2 w=!sat M t w
 |.leaf op i e g,hok,hl,w=>by
  have h3:=G5 hok.1 hok.2.1;have h1:op<=10:=hl;rw[fC];dsimp only;refine⟨rfl,?_⟩;by_cases e1:op=1;rw[if_pos e1,e1];rfl;by_cases e2:op=2;rw[if_neg e1,if_pos e2,e2];rfl;rw[if_neg e1,if_neg e2];exact TB
 |.un op i e g a,hok,hl,w=>by
  have ih:=zb hok.2.2.2.2 hl.2;have h1:op<=10:=hl.1;have hop:op=4\/op=9\/op=10:=by have h2:=hok.1;have h3:=hok.2.1;have h4:=hok.2.2.1;unfold ji at h3;unfold iM at h4;simp at h3 h4;omega
  have ne:∀w,(sat M (fC a).2 w=true↔¬sat M a w=true):=λw=>by rw[(ih w).2];cases sat M a w<;>simp
  rcases hop with rfl|rfl|rfl;rw[fC,if_pos rfl,TB];exact⟨(ih w).2,by rw[(ih w).1,Bool.not_not]⟩;rw[fC,if_neg aI,if_pos rfl];have e1:sat M (.un 9 i e g (fC a).1) w=sat M (.un 9 i e g a) w:=by
   rw[dU,Da,Da];exact⟨λh u hu=>by rw[<-(ih u).1];exact h u hu,λh u hu=>by rw[(ih u).1];exact h u hu⟩
  refine⟨e1,?_⟩;rw[dU,dw,<-dH,Da,yO];constructor;rintro ⟨u,h2,h3⟩ h;exact(ne u).1 h3 (h u h2);intro h;refine bj λh2=>h (λu hu=>bj λh3=>h2 ⟨u,hu,(ne u).2 h3⟩);rw[fC,if_neg aI,if_neg aI,if_pos rfl];have e1:sat M (.un 10 i e g (fC a).1) w=sat M (.un 10 i e g a) w:=by
   rw[dU,yO,yO];exact⟨λ⟨u,h2,h3⟩=>⟨u,h2,by rw[<-(ih u).1];exact h3⟩,λ⟨u,h2,h3⟩=>⟨u,h2,by rw[(ih u).1];exact h3⟩⟩
  refine⟨e1,?_⟩;rw[dU,dw,<-dH,Da,yO];constructor;rintro h ⟨u,h2,h3⟩;exact(ne u).1 (h u h2) h3;intro h u hu;exact(ne u).2 (λh2=>h ⟨u,hu,h2⟩)
 |.bin op i e g a b,hok,hl,w=>by
  have iha:=zb hok.2.2.2.1 hl.2.1 w;have ihb:=zb hok.2.2.2.2 hl.2.2 w;have h1:op<=10:=hl.1;have hop:op=5\/op=6\/op=7\/op=8:=by have h2:=hok.1;have h3:=hok.2.1;unfold iM at h3;simp at h3;omega
  rcases hop with rfl|rfl|rfl|rfl;rw[fC,if_pos rfl,Dc,Dc,Db,iha.1,ihb.1,iha.2,ihb.2];cases sat M a w<;>cases sat M b w<;>decide
  rw[fC,if_neg aI,if_pos rfl,Db,Db,Dc,iha.1,ihb.1,iha.2,ihb.2];cases sat M a w<;>cases sat M b w<;>decide
  rw[fC,if_neg aI,if_neg aI,if_pos rfl,Vy,Db,Dc,iha.1,ihb.1,iha.2,ihb.2];cases sat M a w<;>cases sat M b w<;>decide
  rw[fC,if_neg aI,if_neg aI,if_neg aI,if_pos rfl,Vx,Dc,Db,Db,Db,Dc,Dc,iha.1,ihb.1,iha.2,ihb.2];cases sat M a w<;>cases sat M b w<;>decide
end
section
variable{M:KM}{l:Int}{b:List NV}{L:List SD}
theorem Kz(hb:fS b){i:Nat}(hi:i<b.length)(w:Nat):sat M (jT (fe b i)) w=!sat M (fe b i) w:=by
 unfold jT;rw[if_pos (hb.fit hi).1];exact(zb (hb.ok hi) (hb.nf i hi).K5 w).2
theorem HM(hb:fS b)(hF:P2 M l){s:fi}{ag:Int}{w u:Nat}(hw:w<M.n)(hs:∀n,s.getLsbD n=true->sat M (fe b n) w=true)(hr:M.R ag.toNat w u):∀n,(m4 l b s ag).getLsbD n=true->sat M (fe b n) u=true:=λn hn=>by
 obtain⟨i,hi,his,hia,h⟩:=(oz hb).1 hn;have h0:=hs i his;rcases hb.node hi with⟨g1,_⟩|⟨_,g2⟩|⟨g1,_⟩;exfalso;rcases h with h|⟨_,h|h⟩<;>omega
 rw[g2,hia]at h0;rcases h with⟨h9,hx⟩|⟨rfl,⟨h9,hk⟩|⟨h10,he⟩⟩;rw[h9]at h0;have:=Da.1 h0 u hr;rw[hx,dy]at this;exact this;rw[h9]at h0;rw[g2,hia,h9];exact Da.2 (λv hv=>Da.1 h0 v (hF.f (by unfold gJ;unfold v7 at hk;simp;omega) _ _ _ _ hw hr hv));rw[h10]at h0;rw[g2,hia,h10];obtain⟨v,hv,h3⟩:=yO.1 h0;exact yO.2 ⟨v,hF.v (by unfold gJ;unfold ym at he;simp;omega) _ _ _ _ hw hr hv,h3⟩;exfalso;rcases h with h|⟨_,h|h⟩<;>omega
theorem kQ.snd(h:kQ l b L)(hF:P2 M l):∀(k:Nat) (hk:k<L.length) (w:Nat),w<M.n->¬∀n,L[k].set.getLsbD n=true->sat M (fe b n) w=true:=by
 have hb:=h.base;intro k
 induction k using Nat.strongRecOn with
 |_ k IH=>
 intro hk w hw hall;have IHs:∀j,j<k->∀u,u<M.n->¬∀n:Nat,(gN L (j:Int)).getLsbD n=true->sat M (fe b n) u=true:=λj hj u hu=>by
  rw[jx (show j<L.length by omega)];exact IH j hj aH u hu
 have hnt:∀{n:Nat} {z:Int},(n:Int)=z->fe b n=fe b z.toNat:=λe=>by rw[<-e,dy]
 cases h.P8 hk with
 |O7 o h1 h2 h3 h4 h5 h6 _=>
  have:=hall o h5;rcases hb.node h4 with⟨_,g⟩|⟨g,_⟩|⟨g,_⟩;rw[g,h6]at this;cases this;omega;omega
 |neg o e h1 h2 h3 h4 h5 h6 h7 h8 h9 h10 h11 _=>
  have g1:=hall o h5;have g2:=hall e h9;rw[h11,Kz hb h4,g1]at g2;cases g2
 |and o j h1 h2 h3 hj h4 ho h5 h6 hsub _=>
  have g1:=hall o h5;rcases hb.node ho with⟨g,_⟩|⟨g,_⟩|⟨_,g⟩;omega;omega;rw[g,h6,Dc,dG]at g1;refine IHs j hj w hw (λn hn=>?_);rcases hsub n hn with h|h|h;exact hall n h;rw[hnt h];exact g1.1;rw[hnt h];exact g1.2
 |or o j i h1 h2 h3 hj hi h4 ho h5 h6 hsub hsub2 _=>
  have g1:=hall o h5;rcases hb.node ho with⟨g,_⟩|⟨g,_⟩|⟨_,g⟩;omega;omega;rw[g,h6,Db,dV]at g1;rcases g1 with g1|g1;refine IHs j hj w hw (λn hn=>?_);rcases hsub n hn with h|h;exact hall n h;rw[hnt h];exact g1;refine IHs i hi w hw (λn hn=>?_);rcases hsub2 n hn with h|h;exact hall n h;rw[hnt h];exact g1
 |cut o e j i h1 h2 hj hi h3 ho h4 he h5 h6 hsub hsub2 _=>
  by_cases g:sat M (fe b o) w=true;refine IHs j hj w hw (λn hn=>?_);rcases hsub n hn with h|h;exact hall n h;rw[h];exact g;refine IHs i hi w hw (λn hn=>?_);rcases hsub2 n hn with h|h;exact hall n h;rw[h,h6,Kz hb ho];simpa using g
 |t o j h1 h2 hl h3 hj h4 ho h5 h6 hsub _=>
  have g1:=hall o h5;rcases hb.node ho with⟨g,_⟩|⟨_,g⟩|⟨g,_⟩;omega;rw[g,h6]at g1;refine IHs j hj w hw (λn hn=>?_);rcases hsub n hn with h|h;exact hall n h;rw[hnt h];exact Da.1 g1 w (hF.t (by unfold gJ;simp;omega) _ _ hw);omega
 |k o j h1 h2 h3 hj h4 ho h5 h6 hsub _=>
  have g1:=hall o h5;rcases hb.node ho with⟨g,_⟩|⟨_,g⟩|⟨g,_⟩;omega;rw[g,h6]at g1;obtain⟨u,hr,hu⟩:=yO.1 g1;refine IHs j hj u (M.lt _ _ _ hw hr) (λn hn=>?_);rcases hsub n hn with h|h;exact HM hb hF hw hall hr n h;rw[hnt h];exact hu;omega
 |d j h1 h2 hl h3 hj h4 hsub _=>
  obtain⟨u,hr⟩:=hF.d (by unfold gJ;simp;omega) L[k].on.toNat w hw;exact IHs j hj u (M.lt _ _ _ hw hr) (λn hn=>HM hb hF hw hall hr n (hsub n hn))
theorem kQ.val{t:Tr}(ht:t.ok)(hl:jE (λop _ _=>op<=10) t)(h:kQ l b L)(hF:P2 M l){r:Nat}(hr:r<b.length)(hs:gN L (L.length - 1:Nat)=bW (r:Nat))(hg:fe b r=(fC t).2):AE M t:=λw hw=>by
 have hp:=h.pos;have h1:=h.snd hF (L.length - 1) aH w hw;rw[jx (show L.length - 1<L.length by omega)]at hs;rw[hs]at h1;refine bj λh2=>h1 (λn hn=>?_);have h64:=h.base.len;have:n=r:=by have:=(rN ⟨aH,aH⟩).1 hn;omega
 subst this;rw[hg,(zb ht hl w).2];simpa using h2
end
section
variable{ei:Bool}
abbrev FT(A B:Nat)(t:Tr):Prop:=jE (EG A B) t
section
variable{A B:Nat}
theorem JE{op i:Int}(h:ui op=false)(h3:op≠3):EG A B op i 0:=⟨λe=>(by rw[h]at e;cases e),λe=>absurd e h3,Nat.pow_pos aI⟩
theorem Vk{op i:Int}(h3:op≠3)(h:i.toNat<A):EG A B op i 0:=⟨λ_=>h,λe=>absurd e h3,Nat.pow_pos aI⟩
theorem FT.nt{t:Tr}(h:FT A B t):FT A B (fU t):=⟨JE rfl aI,h⟩
theorem FT.im{t u:Tr}(h:FT A B t)(g:FT A B u):FT A B (gv t u):=⟨JE rfl aI,h,g⟩
theorem FT.ad{t u:Tr}(h:FT A B t)(g:FT A B u):FT A B (uj t u):=⟨JE rfl aI,h,g⟩
theorem FT.iff{t u:Tr}(h:FT A B t)(g:FT A B u):FT A B (xH t u):=⟨JE rfl aI,h,g⟩
theorem FT.kw{i:Int}{t:Tr}(hi:i.toNat<A)(h:FT A B t):FT A B (fN i t):=⟨Vk aI hi,h⟩
theorem FT.po{i:Int}{t:Tr}(hi:i.toNat<A)(h:FT A B t):FT A B (pU i t):=⟨Vk aI hi,h⟩
theorem Bc:∀{t:Tr},FT A B t->FT A B (fC t).1/\FT A B (fC t).2
 |.leaf op i e g,h=>by
  rw[fC];refine⟨h,?_⟩;dsimp only;split;exact JE rfl aI;split;exact JE rfl aI;exact FT.nt h
 |.un op i e g a,h=>by
  have ih:=Bc h.2;rw[fC];split;exact⟨ih.2,ih.1⟩;split;rename_i e9;exact⟨⟨h.1,ih.1⟩,⟨Vk aI (h.1.1 (by rw[e9];rfl)),ih.2⟩⟩;split;rename_i e9;exact⟨⟨h.1,ih.1⟩,⟨Vk aI (h.1.1 (by rw[e9];rfl)),ih.2⟩⟩;exact⟨⟨h.1,ih.1⟩,FT.nt ⟨h.1,ih.1⟩⟩
 |.bin op i e g a b,h=>by
  have ia:=Bc h.2.1;have ib:=Bc h.2.2;have z5:EG A B 5 0 0:=JE rfl aI;have z6:EG A B 6 0 0:=JE rfl aI;rw[fC];split;exact⟨⟨h.1,ia.1,ib.1⟩,z6,ia.2,ib.2⟩;split;exact⟨⟨h.1,ia.1,ib.1⟩,z5,ia.2,ib.2⟩;split;exact⟨⟨z6,ia.2,ib.1⟩,z5,ia.1,ib.2⟩;split;exact⟨⟨z5,⟨z6,ia.2,ib.1⟩,z6,ia.1,ib.2⟩,z6,⟨z5,ia.1,ib.2⟩,z5,ia.2,ib.1⟩;exact⟨⟨h.1,ia.1,ib.1⟩,FT.nt ⟨h.1,ia.1,ib.1⟩⟩
theorem Hi{t:Tr}(h:FT A B t):FT A B (jT t):=by
 unfold jT;split;exact(Bc h).2;exact h.nt
theorem O3{ts:List Tr}(h:∀u∈ts,FT A B u):FT A B (p7 ts):=by
 cases ts with
 |nil=>exact JE rfl aI
 |cons t ts=>
  have key:∀(us:List Tr) (a:Tr),FT A B a->(∀u∈us,FT A B u)->FT A B (us.foldl (λa c=>.bin 5 0 0 0 a c) a):=by
   intro us
   induction us with
   |nil=>intro a ha _;exact ha
   |cons u us ih=>intro a ha hu;exact ih _ (FT.ad ha (hu u aF)) (λw hw=>hu w (cM _ hw))
  exact key ts t (h t aF) (λu hu=>h u (cM _ hu))
theorem xh:∀{ts:List Tr} {g:Tr},(∀u∈ts,FT A B u)->FT A B g->FT A B (iK ts g)
 |[],_,_,h=>h
 |t::ts,_,h,hg=>(h t aF).im (xh (ts:=ts) (λu hu=>h u (cM _ hu)) hg)
def oM(A B:Nat)(σ:Sg):Prop:=∀x∈σ.ls,FT A B x.t
variable{T:Tr->Prop}{σ:Sg}
theorem oM.at_(h:oM A B σ)(n:Nat):FT A B (l8 σ n):=by
 unfold l8;rw[aY];cases e:(σ.ls.map TL.t)[n]? with
 |none=>exact JE rfl aI
 |some t=>
  obtain⟨x,hx,rfl⟩:=eL.1 (cP e);exact h x hx
theorem oM.add(h:oM A B σ){t:Tr}{r:Int}{a b:Nat}{g:Int}(ht:FT A B t):oM A B (iy T t r a b g σ).2:=by
 unfold iy;split;exact h;intro x hx;rcases ed.1 hx with hx|hx;exact h x hx;rw[dn.1 hx];exact ht
theorem Ie{g:Tr}(hg:FT A B g):∀{ps:List (Nat×Tr)} {n:Nat} {σ:Sg},oM A B σ->(∀p∈ps,FT A B p.2)->oM A B (qP T g ps n σ).2
 |[],_,_,h,_=>h
 |p::ps,n,σ,h,hp=>by
  rw[qP];refine Ie hg (h.add (xh (λu hu=>?_) hg)) (λq hq=>hp q (cM _ hq));obtain⟨q,hq,rfl⟩:=eL.1 hu;exact hp q (cM _ hq)
theorem oM.CO(h:oM A B σ){g:Tr}{fr:aq}(hg:FT A B g):oM A B (gw T g fr σ).2:=by
 unfold gw;split;exact h;refine Ie hg (h.add (xh (λu hu=>?_) hg)) (λq hq=>?_);obtain⟨q,_,rfl⟩:=eL.1 hu;exact h.at_ q;obtain⟨q,_,rfl⟩:=eL.1 hq;exact h.at_ q
variable{i:Int}{p q:Tr}
theorem oM.k(h:oM A B σ)(hi:i.toNat<A)(hp:FT A B p)(hq:FT A B q):oM A B (kW T i p q σ).2:=h.add ((FT.kw hi (hp.im hq)).im ((FT.kw hi hp).im (FT.kw hi hq)))
theorem oM.dst(h:oM A B σ){n:Nat}(hi:i.toNat<A)(hp:FT A B p)(hq:FT A B q):oM A B (nM T i p q n σ).2:=by
 unfold nM;exact((h.add (FT.kw hi (hp.im hq))).k hi hp hq).add ((FT.kw hi hp).im (FT.kw hi hq))
theorem oM.pos(h:oM A B σ)(hi:i.toNat<A)(hp:FT A B p):oM A B (kF T i p σ).2:=h.add (FT.iff (FT.po hi hp) (FT.kw hi hp.nt).nt)
theorem Hk {t:Tr}(h:FT A B t):FT A B (uh ei t):=by
 unfold uh;split;exact⟨JE rfl aI,h,Hi h⟩;exact(h.ad (Hi h)).nt
theorem Uk{op:Int}{a:Tr}(h:FT A B a):FT A B (uT op a):=by unfold uT;split;exact h;exact Hi h
theorem RY{op:Int}{a:Tr}(h:FT A B a):FT A B (vT op a):=by unfold vT;split;exact Hi h;exact h
theorem Um {op:Int}{a:Tr}(h:FT A B a):FT A B (xD ei op a):=by unfold xD;split;exact(RY h).nt;exact Uk h
theorem Ul {op:Int}{a:Tr}(h:FT A B a):FT A B (xC ei op a):=by unfold xC;split;exact Uk h;exact(RY h).nt
theorem oM.mod(h:oM A B σ) {op:Int}{a t:Tr}{x:Nat}(hi:i.toNat<A)(ha:FT A B a)(ht:FT A B t):oM A B (xF T ei op i a t x σ).2:=by
 unfold xF;exact(((h.CO ((Um ha).im (Ul ha))).dst hi (Um ha) (Ul ha)).pos hi (RY ha)).CO (Hk ht)
theorem vW{ei:Bool}:∀{t:Tr} {σ:Sg},oM A B σ->FT A B t->oM A B (fX T ei t σ).2
 |.leaf op i e g,σ,h,ht=>by rw[fX];exact h.CO (Hk ht)
 |.un op i e g a,σ,h,ht=>by
  rw[fX];split;rename_i ho;exact(vW h ht.2).mod (ht.1.1 (by rcases ho with e|e<;>rw[e]<;>rfl)) ht.2 ht;exact h.CO (Hk ht)
 |.bin op i e g a b,σ,h,ht=>by rw[fX];exact(vW (vW h ht.2.1) ht.2.2).CO (Hk ht)
theorem oM.V4(h:oM A B σ)(hi:i.toNat<A){f:Tr}(hf:FT A B f):oM A B (qV T i f σ).2:=by
 unfold qV;split;rename_i z;have hz:FT A B z:=hf.2;have hn:=(FT.kw hi hz.nt).nt;exact(((((h.pos hi hz).add (hn.im (FT.kw hi hn))).CO (hn.im hf)).dst hi hn hf).CO (hf.im (FT.kw hi hf)));exact h.add (hf.im (FT.kw hi hf))
theorem EC{h0:Tr}(hi:i.toNat<A)(hh:FT A B h0):∀{ts ds:List Tr} {r:Nat} {σ:Sg},oM A B σ->(∀u∈ds,FT A B u)->(∀u∈ts,FT A B u)->oM A B (zE T i h0 ds ts r σ).2
 |[],_,_,_,h,_,_=>h
 |t::ts,ds,r,σ,h,hd,ht=>by
  rw[zE];have h1:=ht t aF;have h2:∀u∈ts,FT A B u:=λu hu=>ht u (cM _ hu);have h3:∀u∈ds++[t],FT A B u:=λu hu=>by
   rcases ed.1 hu with hu|hu;exact hd u hu;rw[dn.1 hu];exact h1
  refine EC hi hh ((h.k hi h1 (xh h2 hh)).CO (xh (λu hu=>?_) (FT.kw hi (xh h2 hh)))) h3 h2;obtain⟨v,hv,rfl⟩:=eL.1 hu;exact FT.kw hi (h3 v hv)
theorem oM.Xh(h:oM A B σ)(hi:i.toNat<A){ts:List Tr}{h0:Tr}{n:Nat}(ht:∀u∈ts,FT A B u)(hh:FT A B h0):oM A B (rK T i ts h0 n σ).2:=by
 unfold rK;exact EC hi hh ((h.CO (xh ht hh)).add (FT.kw hi (xh ht hh))) (λu hu=>by cases hu) ht
def Vm(A:Nat)(b:List NV)(x:SD):Prop:=(x.fK=6->(nd b x.on).i.toNat<A)/\(x.fK=7->x.on.toNat<A)/\1<=x.fK/\x.fK<=7
section
variable{b:List NV}(hb:∀n,FT A B (fe b n))
include hb
theorem Ae{full:fi}(hi:i.toNat<A):∀{ns:aq} {σ:Sg},oM A B σ->oM A B (j8 T b full i ns σ).2
 |[],_,h=>h
 |n::ns,σ,h=>by
  rw[j8];split;exact Ae hi (h.V4 hi (hb n));exact Ae hi h
theorem Hj{s:fi}:FT A B (iV b s):=FT.nt (O3 (λu hu=>by obtain⟨n,_,rfl⟩:=eL.1 hu;exact hb n))
theorem oM.WB(h:oM A B σ){goal:Tr}{full:fi}{ns own:aq}{tg:Nat}{isK:Bool}{line:Nat}(hi:i.toNat<A)(hg:FT A B goal):oM A B (B0 T b goal full i ns tg own isK line σ).2:=by
 have h1:oM A B (j8 T b full i own (rK T i (ns.map (fe b)) (fU (fe b tg)) line σ).2).2:=Ae hb hi (h.Xh hi (λu hu=>by obtain⟨n,_,rfl⟩:=eL.1 hu;exact hb n) (hb tg).nt);unfold B0;dsimp only;split;exact(h1.pos hi (hb tg)).CO hg;exact(h1.add ((FT.kw hi (hb tg)).im (FT.kw hi (hb tg).nt).nt)).CO hg
theorem oM.step(h:oM A B σ){tl:List SD}{full:fi}{x:SD}{last:aq}(hx:Vm A b x):oM A B (gQ T b tl full x last σ).2:=by
 have hn:FT A B (iV b x.set):=Hj hb;have ho:FT A B (tA b x.on):=hb _;obtain⟨h6,h7,hr⟩:=hx;unfold gQ;dsimp only;split;split;exact h.CO hn;exact(vW h ho).CO hn;split;exact h.CO hn;split;exact h.CO hn;split;exact(vW h ho).CO hn;split;exact(h.add (ho.im (hb _))).CO hn;split;rename_i e6;exact h.WB hb (h6 e6) hn;exact h.WB hb (h7 aH) hn
theorem oM.gj{tl:List SD}{fl:List fi}(hx:∀x∈tl,Vm A b x):∀q,oM A B (gj T b tl fl q).2
 |0=>λx hx=>by cases hx
 |q+1=>by
  have ih:=oM.gj (fl:=fl) hx q;rw[Wit.gj];cases e:tl[q]? with
  |none=>exact ih
  |some x=>exact ih.step hb (hx x (cP e))
theorem oM.TK{L:List SD}(hx:∀x∈jD b L,Vm A b x):oM A B (kS T b L).2:=by
 have h1:=oM.gj (T:=T) hb (fl:=jl L L.length) hx (jD b L).length;unfold kS;dsimp only;split;exact h1;exact h1.CO (Hj hb)
end
end
end
def EI(c:TC)(x:SD):Prop:=x.fK=7->∃a:Nat,x.on=a/\c.ag.getLsbD a=true
section
variable{c:TC}{s:fi}
theorem Ml{y:SD}(e:og c s=some y):EI c y:=by
 unfold og at e;obtain⟨i,_,hi⟩:=aT e;intro h7;split at hi;split at hi;cases hi;exact absurd (show(1:Int)=7 from h7) aI;split at hi;cases hi;exact absurd (show(1:Int)=7 from h7) aI;cases hi;cases hi
theorem KW{y:SD}{xs:List fi}(e:lD c s=some (y,xs)):y.fK≠7:=by
 cases h:(List.range c.b.length).findSome? (G7 c s)with
 |some r=>
  rw[xZ h]at e;cases e;obtain⟨i,_,hi⟩:=aT h;unfold G7 at hi;split at hi;cases hi;show(2:Int)≠7;decide;split at hi;cases hi;show(5:Int)≠7;decide;cases hi
 |none=>
  rw[B1 h]at e;obtain⟨i,_,hi⟩:=aT e;unfold K6 at hi;split at hi;cases hi;show(3:Int)≠7;decide;split at hi;cases hi;show(4:Int)≠7;decide;cases hi
theorem Ih:∀y∈jP c s,EI c y.1:=by
 intro y hy;rw[ur]at hy;rcases ed.1 hy with h|h;obtain⟨i,_,hi⟩:=dk.1 h;unfold Ti at hi;split at hi;cases hi;exact λh7=>absurd (show(6:Int)=7 from h7) aI;cases hi;obtain⟨a,_,hi⟩:=dk.1 h;unfold Th at hi;split at hi;rename_i hc;cases hi;exact λ_=>⟨a,rfl,hc.1⟩;cases hi
def MP(c:TC)(σ σ1:TS):Prop:=(∀x∈σ.ss,EI c x)->∀x∈σ1.ss,EI c x
theorem MP.app{σ σ1:TS}(h:MP c σ σ1){y:SD}(hy:EI c y){op:List fi}:MP c σ ⟨σ1.ss++[y],op⟩:=λh0 x hx=>by
 rcases ed.1 hx with hx|hx;exact h h0 x hx;rw[dn.1 hx];exact hy
variable{r:TS->fi->Option ((Int×Int)×TS)}
theorem H4(hr:∀σ s z σ1,r σ s=some (z,σ1)->MP c σ σ1):∀{xs:List fi} {fr:ar} {σ σ1:TS} {z},pN r xs fr σ=some (z,σ1)->MP c σ σ1
 |[],fr,σ,σ1,z,e=>by unfold pN at e;cases e;exact id
 |x::xs,fr,σ,σ1,z,e=>by
  unfold pN at e;cases e1:r σ x with
  |none=>rw[e1]at e;cases e
  |some q=>
   obtain⟨⟨n,low⟩,σ2⟩:=q;rw[e1]at e;simp only at e;have k1:=hr _ _ _ _ e1;by_cases hn:n<0;rw[if_pos hn]at e;cases e;exact k1;rw[if_neg hn]at e;exact λh=>H4 hr e (k1 h)
theorem HW(hr:∀σ s z σ1,r σ s=some (z,σ1)->MP c σ σ1):∀{xs:List (SD×fi)} {low:Int} {σ σ1:TS} {z},(∀y∈xs,EI c y.1)->pD r xs low σ=some (z,σ1)->MP c σ σ1/\∀y,z=.inr y->EI c y
 |[],low,σ,σ1,z,_,e=>by unfold pD at e;cases e;exact⟨id,λy h=>by cases h⟩
 |(y,x)::xs,low,σ,σ1,z,hy,e=>by
  unfold pD at e;cases e1:r σ x with
  |none=>rw[e1]at e;cases e
  |some q=>
   obtain⟨⟨n,lw⟩,σ2⟩:=q;rw[e1]at e;simp only at e;have k1:=hr _ _ _ _ e1;by_cases hn:0<=n;rw[if_pos hn]at e;cases e;refine⟨k1,λy' h=>?_⟩;cases h;exact hy (y,x) aF;rw[if_neg hn]at e;have:=HW hr (λy h=>hy y (cM _ h)) e;exact⟨λh=>this.1 (k1 h),this.2⟩
theorem FL{d:Nat}(hr:∀σ s z σ1,r σ s=some (z,σ1)->MP c σ σ1){σ σ1:TS}{z}(e:jH c r d s σ=some (z,σ1)):MP c σ σ1:=by
 unfold jH at e;cases e1:lD c s with
 |some q=>
  obtain⟨y,xs⟩:=q;have h7:=KW e1;rw[e1]at e;simp only at e;cases e2:pN r xs [] σ with
  |none=>rw[e2]at e;cases e
  |some q=>
   obtain⟨u,σ2⟩:=q;have:=H4 hr e2;rw[e2]at e;cases u with
   |inl=>cases e;exact this
   |inr fr=>cases e;exact this.app (y:={y with fr:=fr}) (λh=>absurd (show y.fK=7 from h) h7)
 |none=>
  rw[e1]at e;simp only at e;cases e2:pD r (jP c s) (d+1) σ with
  |none=>rw[e2]at e;cases e
  |some q=>
   obtain⟨u,σ2⟩:=q;have:=HW hr Ih e2;rw[e2]at e;cases u with
   |inl=>cases e;exact this.1
   |inr y=>cases e;exact this.1.app (this.2 y rfl)
theorem yR:∀(k:Nat) (path:List fi) (σ:TS) (s:fi) {z} {σ1:TS},ie c k path σ s=some (z,σ1)->MP c σ σ1
 |0,_,_,_,_,_,e=>by cases e
 |k+1,path,σ,s,z,σ1,e=>by
  rw[ie]at e;cases e1:pg σ.ss s with
  |some n=>rw[e1]at e;cases e;exact id
  |none=>
   rw[e1]at e;simp only at e;by_cases h1:s∈σ.op;rw[if_pos h1]at e;cases e;exact id;rw[if_neg h1]at e;cases e2:path.findIdx? (·==s)with
   |some a=>rw[e2]at e;cases e;exact id
   |none=>
    rw[e2]at e;simp only at e;cases e3:og c s with
    |some y=>rw[e3]at e;cases e;exact MP.app (σ:=σ) id (Ml e3)
    |none=>
     rw[e3]at e;simp only at e;cases e4:jH c (ie c k (path++[s])) path.length s σ with
     |none=>rw[e4]at e;cases e
     |some q=>
      obtain⟨⟨n,low⟩,σ2⟩:=q;have hk:=FL (λσ s z σ1 h=>yR k _ σ s h) e4;rw[e4]at e;simp only at e;cases e;intro h0 x hx;refine hk h0 x ?_;split at hx<;>exact hx
end
theorem EI.nk{c:TC}{ss:List SD}(h:∀x∈ss,EI c x):∀x∈v5 ss,EI c x:=λx hx=>by
 obtain⟨q,hq,rfl⟩:=cN.1 hx;obtain⟨k,hk,_,_,e⟩:=KI hq;rw[e];exact λh7=>h ss[k] (dL hk) h7
theorem JV{b:List NV}{L:List SD}:∀{k:Nat},k<=L.length->∀x∈uQ b L k,∃y∈L,x.fK=y.fK/\x.on=y.on
 |0,_,x,hx=>by cases hx
 |k+1,hk,x,hx=>by
  rw[nU aH]at hx;split at hx;rcases ed.1 hx with hx|hx;exact JV aH x hx;rw[dn.1 hx];exact⟨_,dL (show k<L.length by omega),rfl,rfl⟩;exact JV aH x hx
theorem EI.tr{c:TC}{b:List NV}{L:List SD}(h:∀x∈L,EI c x):∀x∈jD b L,EI c x:=λx hx=>by
 obtain⟨y,hy,e1,e2⟩:=JV (eR _) x hx;intro h7;rw[e2];exact h y hy (e1 ▸ h7)
theorem Gj{b:List NV}(hi:∀k,k<b.length->(nd b k).op=9\/(nd b k).op=10->0<=(nd b k).i/\(nd b k).i<4){a:Nat}:∀{k:Nat},k<=b.length->(mw b k).getLsbD a=true->∃j,j<b.length/\((nd b j).op=9\/(nd b j).op=10)/\(nd b j).i=a
 |0,_,h=>by rw[mw,cU]at h;cases h
 |k+1,hk,h=>by
  rw[mw]at h;split at h;rename_i ho;rw[du,dV]at h;rcases h with h|h;exact Gj hi aH h;obtain⟨h1,h2⟩:=hi k aH ho;have:=(rN ⟨h1,aH⟩).1 h;exact⟨k,aH,ho,aH⟩;exact Gj hi aH h
section
variable{A B:Nat}{t:Tr}
theorem RZ{P N:Tr}(h1:FT A B P)(h2:FT A B N):∀u∈Jl P N,FT A B u:=zS (p:=FT A B) (λ_ ht _ hc=>ht.Am hc) h1 h2
theorem O4(h:t.ok)(hf:FT A B t)(n:Nat):FT A B (fe (iG t) n):=by
 by_cases hn:n<(iG t).length;exact RZ (Bc hf).1 (Bc hf).2 _ (F9 h hn);rw[fe,aY,cz (by rw[gL];omega)];exact JE rfl aI
end
section
variable{A B:Nat}{l:Int}{b:List NV}{L:List SD}
theorem Qd(hb:fS b)(hf:∀n,FT A B (fe b n)){j:Nat}(hj:j<b.length)(h:(nd b j).op=9\/(nd b j).op=10):(nd b j).i.toNat<A:=by
 have hok:=hf j;rcases hb.node hj with⟨g1,g2⟩|⟨g1,g2⟩|⟨g1,g2⟩;omega;rw[g2]at hok;exact hok.1.1 (by rcases h with e|e<;>rw[e]<;>rfl);omega
theorem Q6{c:TC}(hR:kQ l b L)(hi:∀k,k<b.length->(nd b k).op=9\/(nd b k).op=10->0<=(nd b k).i/\(nd b k).i<4)(hf:∀n,FT A B (fe b n))(hd:∀x∈L,EI c x)(hc:c.ag=mw b b.length):∀x∈jD b L,Vm A b x:=λx hx=>by
 have hb:=hR.base;have hdg:=EI.tr (b:=b) hd x hx;obtain⟨k,hk,rfl⟩:=cN.1 hx;refine⟨λh6=>?_,λh7=>?_,?_⟩;cases hR.tr.P8 hk with
 |k o j _ _ _ _ h4 ho _ h10 _ _=>rw[h4];exact Qd hb hf ho (.inr h10)
 |_=>omega
 obtain⟨a,e,ha⟩:=hdg h7;rw[hc]at ha;obtain⟨j,hj,ho,e2⟩:=Gj hi (eR _) ha;have:=Qd hb hf hj ho;rw[e,<-e2];exact this;cases hR.tr.P8 hk<;>omega
theorem K0(hR:kQ l b L)(hF:oM A B (kS fg b L).2){ls:List LV}(hd:ls.map LV.d=Nd b L)(hck:lG l ls=0){k:Nat}(hk:k<ls.length):sN ls[k].f.f A B=true:=by
 have hform:=wA hck k hk;have hl:ls.length=(kS fg b L).2.ls.length:=by have:=eV List.length hd;simpa[Nd]using this
 have e:ls[k].d=((kS fg b L).2.ls[k]'aH).v.d:=by
  have h1:(ls.map LV.d)[k]?=(Nd b L)[k]?:=by rw[hd]
  unfold Nd at h1;rw[dB,dB,bJ hk,bJ (show k<(kS fg b L).2.ls.length by omega)]at h1;exact eA h1
 have e2:ls[k].f.f=bT ((kS fg b L).2.ls[k]'aH).t:=eV LD.f e;have htok:=hR.TK.2.1.tok k aH;rw[e2]at hform⊢;exact sK.2 ⟨(lV.1 hform).1,by rw[Tt htok hform];exact hF _ (dL _)⟩
end
section
variable{f g:List NV}{l:Int}{L:List SD}
theorem GM(hg:g=gh ⟨4,0,0,0,0,0⟩ [f])(hc:vY g):gp f=0/\fF g=fU (fF f)/\(fF f).ok/\jE (λop _ _=>op<=10) (fF f)/\Fit (fU (fF f)):=by
 have h0:gp f=0:=bj (λh=>by
  have h1:g=[]:=hg.trans (vP ⟨f,dn.2 rfl,h⟩);have:=(fA.1 hc.1).pos;rw[h1]at this;exact absurd this aI);have hok:=(fA.1 h0).top;have h1:g=bT (fU (fF f)):=hg.trans (MA h0 aI rfl rfl rfl rfl);have hne:bT (fU (fF f))≠[]:=λe=>by
  have:=(fA.1 hc.1).pos;rw[h1,e]at this;exact absurd this aI
 have ht:fF g=fU (fF f):=by rw[h1];exact(nH (jF hok) hne).top
 have hl:=hc.2.1;rw[ht]at hl;exact⟨h0,ht,hok,hl.2,ue.2 hne⟩
theorem Dg(hg:g=gh ⟨4,0,0,0,0,0⟩ [f])(hc:vY g):lk (fF g)<(iG (fF g)).length/\fe (iG (fF g)) (lk (fF g))=(fC (fF f)).2/\fe (iG (fF g)) (lk (fF g))=jT (fF f):=by
 obtain⟨_,ht,_,_,hfit⟩:=GM hg hc;obtain⟨h1,h2⟩:=BI (fA.1 hc.1).top;have h3:(fC (fF g)).1=(fC (fF f)).2:=by rw[ht];show(fC (.un 4 0 0 0 (fF f))).1=_;rw[fC,if_pos rfl]
 exact⟨h1,h2.trans h3,h2.trans (h3.trans (by unfold jT;rw[if_pos hfit]))⟩
theorem Oa{M:KM}(hg:g=gh ⟨4,0,0,0,0,0⟩ [f])(hc:vY g)(hR:kQ l (iG (fF g)) L)(hs:gN L (L.length - 1:Nat)=bW (lk (fF g):Nat))(hF:P2 M l):AE M (fF f):=by
 obtain⟨_,_,hok,hl,_⟩:=GM hg hc;obtain⟨h1,h2,_⟩:=Dg hg hc;exact hR.val hok hl hF h1 hs h2
variable{n:Nat}{m:Int}{val:List fi}{rel:List (List fi)}
theorem Kn(h0:gp f=0)(hl:jE (λop _ _=>op<=10) (fF f)):j7 f=0:=lV.2 ⟨h0,hl.mono (λop _ _ h=>aH)⟩
theorem TJ(hv:mK m val rel)(h:j7 f=0):(sN f rel.length val.length=true/\jN m val rel f=0)\/(sN f rel.length val.length=false/\jN m val rel f=2):=by
 cases e:sN f rel.length val.length with
 |true=>exact .inl ⟨rfl,A9 hv h e⟩
 |false=>
  refine .inr ⟨rfl,?_⟩;obtain⟨h3,h4⟩:=lV.1 h;have k3:mf (nJ (fw f)) 15=0:=by
   rw[jm h3];exact(tI (fA.1 h3).top FH).2 (h4.mono (λop _ _ h=>aH))
  unfold jN;rw[if_neg (by simp[lY.2 hv]),if_neg (by simp[h3]),if_neg (by simp[k3]),if_pos e]
theorem TI(hv:mK (n:Int) val rel)(h:j7 f=0)(h2:jN (n:Int) val rel f=0)(hV:AE (tQ hv) (fF f)):rk n val rel (fF f)=jZ n:=GF hv h h2 hV
end
end Go.Proofs.Wit
