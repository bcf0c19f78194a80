/- Laws of walks, each under its own conditions. -/
import Derived.Test.YtaamcaiglooemaaGreatDoorXP15
set_option maxRecDepth 100000
set_option maxHeartbeats 40000000
namespace Go.Proofs.Wit
open Go Go.RowKit
def Fj(ops:aj):Nat->Nat->Nat->Bool
 |0,_,_=>false
 |f+1,i,j=>(iM ops i).any (λe=>Nat.beq e j||Fj ops f e j)
structure M5 (ops:aj) (rs:aq) (c:Nat) (ls:aq):Prop where
  size:c<ops.size
  Rj:∀i∈rs,i<ops.size/\i≠c
  inc:∀q p,q<p->p<rs.length->rs.getD q 0<rs.getD p 0
  lt:∀i,i<ops.size->∀j∈iM ops i,j<i
  Qy:∀i∈rs,∀j∈iM ops i,j∈rs
  QS:∀j∈iM ops c,j∈rs
  E5:∀i,(i=c\/i∈rs)->∀o,ops[i]?=some o->lG o.op=true
  inj:∀i j d,(i=c\/i∈rs)->(j=c\/j∈rs)->hJ ops i=some d->hJ ops j=some d->i=j
  Kw:∀i,(i=c\/i∈rs)->∀o,ops[i]?=some o->∀s∈mF ops o,∀j,(j=c\/j∈rs)->hJ ops j=some s->j∈iM ops i
  late:∀i,i<ops.size->¬(i=c\/i∈rs)->(∃j∈iM ops i,¬(j=c\/j∈rs))\/∀j,(j=c\/j∈rs)->Fj ops ops.size i j=true
  Mt:forced ops (c::rs) ls=true
section
variable{P:av}{r:ah}{f:ay}{R:aC->aB->Prop}{w0:aB}{S:aq}{Y:List (Nat×Obj)}{n:Nat}{k:al}{l:Fl}{h:Hl}{ops:aj}
end
abbrev Nm:=List (Int×FV)
abbrev iq:Int->Int->Bool:=λa b=>a==b
theorem lX{ν:Type}:∀{L:List (Int×ν)} {k:Int} {v:ν},ic iq L k=some v->(k,v)∈L
 |[],_,_,h=>by cases h
 |(a,b)::L,k,v,h=>by
  rw[ic]at h;split at h;rename_i hq;have:a=k:=(eq_of_beq hq).symm;cases h;rw[this];simp;exact cF _ (lX h)
theorem lg{ν:Type}:∀{L:List (Int×ν)} {k:Int},ic iq L k=none↔∀e∈L,e.1≠k
 |[],_=>by simp[ic]
 |(a,b)::L,k=>by
  rw[ic];split;rename_i hq;have:a=k:=(eq_of_beq hq).symm;simp[this];rename_i hq;have hne:a≠k:=by rintro rfl;exact hq (by simp[iq])
  rw[lg];constructor;intro h e he;rcases ew.1 he with rfl|he;exact hne;exact h e he;exact λh e he=>h e (cF _ he)
theorem wH{w:aB}{S:aq}(hm:∀b∈S,∃es k,w.heap[b]?=some (.map es k)){a:ae}{xs:ai}(h:Sl w a xs)(h0:0<xs.length):∀b o,a=some ⟨b,o,none⟩->b∉S:=λb o e hb=>by
 obtain⟨es,k,hm⟩:=hm b hb;have:=h.cell 0 h0;subst e;unfold sK World.cell? at this;simp only[Option.getD_some,hm]at this;cases this
theorem Sl.GH{w w':aB}{S:aq}(hm:∀b∈S,∃es k,w.heap[b]?=some (.map es k)){a:ae}{xs:ai}(h:Sl w a xs)(e:Ex S w w'):Sl w' a xs:=by
 by_cases h0:0<xs.length;exact h.ex e (wH hm h h0);rw[aU (by omega:xs.length=0)];exact Sl.nil _ _
theorem FA.GH{w w':aB}{S:aq}(hm:∀b∈S,∃es k,w.heap[b]?=some (.map es k)){a:ae}{f:List NV}(h:FA w a f)(e:Ex S w w'):FA w' a f:=⟨Sl.GH hm h.at_ e⟩
section
variable{P:av}{r:ah}{f:ay}{R:aC->aB->Prop}{w0:aB}{S:aq}{Y:List (Nat×Obj)}{n:Nat}{k:al}{l:Fl}{hb:ah×Obj}{ht:Hl}{ops:aj}{c:Nat}{ls:aq}
end
abbrev qE(m0:Nat)(L0:Nm)(m1:Nat)(L1:Nm):Hl:=[(some m0,rr (Value.int .i64) FV.v L0),(some m1,rr (Value.int .i64) FV.v L1)]
abbrev IY(na:ae)(nl nc m0 m1:Nat):af:=#[.slice na nl nc,.map (some m0),.map (some m1)]
structure yw (c:List NV) (L0 L1:Nm):Prop where
  e0:∀e∈L0,∃k:Nat,e.1=(k:Int)/\e.2.f=bT (fB (eP c k)).1
  e1:∀e∈L1,∃k:Nat,e.1=(k:Int)/\e.2.f=bT (fB (eP c k)).2
def iX(t:ax)(L0 L1:Nm)(F:Hl)(x:FV):Prop:=x.In t F\/(∃k,(k,x)∈L0)\/∃k,(k,x)∈L1
structure jx (t:ax) (c:List NV) (d:Nat) (L0 L1 L0' L1':Nm) (F:Hl):Prop where
  lA:yw c L0' L1'
  s0:L0⊆L0'
  s1:L1⊆L1'
  n0:∀e∈L0',e∈L0\/(e.1<(d:Int)/\iX t L0 L1 F e.2)
  n1:∀e∈L1',e∈L1\/(e.1<(d:Int)/\iX t L0 L1 F e.2)
section
variable{t:ax}{c:List NV}
theorem iX.mono{L0 L1 L0' L1':Nm}{F F':Hl}{x:FV}(h:iX t L0 L1 F x)(s0:L0⊆L0')(s1:L1⊆L1')(hs:F⊆F'):iX t L0' L1' F' x:=
 h.imp (λh=>h.mono hs) (Or.imp (λ⟨k,h⟩=>⟨k,s0 h⟩) (λ⟨k,h⟩=>⟨k,s1 h⟩))
theorem iX.base{d:Nat}{L0 L1 L0' L1':Nm}{F:Hl}{x:FV}(h:jx t c d L0 L1 L0' L1' F)(g:iX t L0' L1' F x):iX t L0 L1 F x:=by
 rcases g with g|⟨k,g⟩|⟨k,g⟩;exact .inl g;rcases h.n0 _ g with h1|h1;exact .inr (.inl ⟨k,h1⟩);exact h1.2;rcases h.n1 _ g with h1|h1;exact .inr (.inr ⟨k,h1⟩);exact h1.2
theorem jx.refl{d:Nat}{L0 L1:Nm}(h:yw c L0 L1):jx t c d L0 L1 L0 L1 []:=⟨h,λ_ h=>h,λ_ h=>h,λ_ h=>.inl h,λ_ h=>.inl h⟩
theorem jx.mono{d d':Nat}{L0 L1 L0' L1':Nm}{F F':Hl}(h:jx t c d L0 L1 L0' L1' F)(hd:d<=d')(hs:F⊆F'):jx t c d' L0 L1 L0' L1' F':=
 ⟨h.lA,h.s0,h.s1,λe he=>(h.n0 e he).imp id (λh=>⟨aH,h.2.mono (λ_ h=>h) (λ_ h=>h) hs⟩),λe he=>(h.n1 e he).imp id (λh=>⟨aH,h.2.mono (λ_ h=>h) (λ_ h=>h) hs⟩)⟩
theorem jx.seq{d d':Nat}{L0 L1 L0' L1' L0'' L1'':Nm}{F F' H:Hl}(h:jx t c d L0 L1 L0' L1' F)(g:jx t c d' L0' L1' L0'' L1'' F')(hd:d'<=d)(h1:F⊆H)(h2:F'⊆H):jx t c d L0 L1 L0'' L1'' H:=by
 have hh:=h.mono (eG _) h1;have hb:∀{x:FV},iX t L0' L1' F' x->iX t L0 L1 H x:=λhx=>(hx.mono (λ_ h=>h) (λ_ h=>h) h2).base hh;refine⟨g.lA,λ_ hx=>g.s0 (h.s0 hx),λ_ hx=>g.s1 (h.s1 hx),λe he=>?_,λe he=>?_⟩;rcases g.n0 e he with h3|⟨h3,h4⟩;exact hh.n0 e h3;exact .inr ⟨aH,hb h4⟩;rcases g.n1 e he with h3|⟨h3,h4⟩;exact hh.n1 e h3;exact .inr ⟨aH,hb h4⟩
structure tD (t tn:ax) (c:List NV) (na:ae) (nc bk m0 m1:Nat) (w:aB) (L0 L1:Nm):Prop where
  has:lU w (qE m0 L0 m1 L1)
  jh:w.heap[bk]?=some (.cells (IY na c.length nc m0 m1) tn (0,0))
  fa:FA w na c
  f0:∀e∈L0,FA w e.2.a e.2.f
  f1:∀e∈L1,FA w e.2.a e.2.f
  lA:yw c L0 L1
variable{tn:ax}{na:ae}{nc bk m0 m1:Nat}{w:aB}{L0 L1:Nm}
theorem tD.maps(h:tD t tn c na nc bk m0 m1 w L0 L1):∀b∈[m0,m1],∃es k,w.heap[b]?=some (.map es k):=λb hb=>by
 simp only[ew,dE,eM]at hb;rcases hb with rfl|rfl;exact⟨_,_,(h.has.own _ aF _ rfl).1⟩;exact⟨_,_,(h.has.own _ (cF _ aF) _ rfl).1⟩
theorem tD.ne(h:tD t tn c na nc bk m0 m1 w L0 L1):bk∉[m0,m1]:=λhb=>by
 obtain⟨es,k,hm⟩:=h.maps bk hb;rw[h.jh]at hm;cases hm
theorem iX.fa{w' w0:aB}{S:aq}{h:Hl}{Y:List (Nat×Obj)}{d:Nat}{L0' L1':Nm}{F:Hl}{x:FV}(g:iX t L0' L1' F x)(hp:tD t tn c na nc bk m0 m1 w L0 L1)(gr:jx t c d L0 L1 L0' L1' F)(e:Ex [m0,m1] w w')(s:St w0 S w' h Y)(hs:F⊆h):FA w' x.a x.f:=by
 rcases g.base gr with g|⟨k,g⟩|⟨k,g⟩;exact(g.mono hs).at s;exact(hp.f0 _ g).GH hp.maps e;exact(hp.f1 _ g).GH hp.maps e
theorem tD.step{w':aB}{h:Hl}{Y:List (Nat×Obj)}{L0' L1':Nm}{F:Hl}{d:Nat}(g:tD t tn c na nc bk m0 m1 w L0 L1)(s:St w [m0,m1] w' h Y)(hs:(qE m0 L0' m1 L1').Sublist h)(hF:F⊆h)(gr:jx t c d L0 L1 L0' L1' F):tD t tn c na nc bk m0 m1 w' L0' L1':=
  ⟨(s.ij hs).has,by rw[s.ext.block bk (aW.1 g.jh).1 g.ne];exact g.jh,g.fa.GH g.maps s.ext,
   λe he=>iX.fa (x:=e.2) (.inr (.inl ⟨e.1,he⟩)) g gr s.ext s hF,λe he=>iX.fa (x:=e.2) (.inr (.inr ⟨e.1,he⟩)) g gr s.ext s hF,gr.lA⟩
def pn(no:Bool)(p:Tr×Tr):Tr:=if no then p.2 else p.1
def pO(t:ax)(c:List NV)(m0 m1 d:Nat)(u:Tr)(L0 L1:Nm)(v:aC)(h':Hl):Prop:=
 ∃fv L0' L1' F,v=FV.v fv/\h'=qE m0 L0' m1 L1'++F/\jx t c d L0 L1 L0' L1' F/\fv.f=bT u/\iX t L0' L1' F fv
end
section
variable{P:av}{r:ah}{f:ay}{R:aC->aB->Prop}{w0:aB}{Y:List (Nat×Obj)}{n:Nat}{k:al}{l:Fl}{hb:ah×Obj}{ops:aj}{i d:Nat}{rest:aq}{ty:ax}{pos:aA}{aft:ak}{g:Option (Nat×Bool)}
variable{az:aa}{ts:ab}{cal:au}{gf:ay}{vs:ai}{t tn:ax}{c:List NV}{na:ae}{nc bk m0 m1 D D':Nat}{L0 L1 La Lb:Nm}{F:Hl}{u:Tr}
theorem pv{A B:Hl}:(hb::(A++B)).Perm (A++(hb::B)):=List.perm_middle.symm
theorem vK{A B C:Hl}:((A++B)++(hb::C)).Perm (hb::(A++(B++C))):=by
 rw[<-dk];exact List.perm_middle
theorem eQ.tP(hp:tD t tn c na nc bk m0 m1 w0 L0 L1)(gr:jx t c D L0 L1 La Lb F)(hj:D'<=D)(ho:ops[i]?=some ⟨some d,.call ⟨.value cal,az,ts⟩,ty,pos,aft,g⟩)(hw:fg ops l g=true)
  (hc:fW l cal=some (.func (.func gf) #[] #[]))(hx:iT l az.toList=some vs)(hd:Nat.blt d n=true)(hcf:∀args w,(callFunc gf args).run P w=.ok (.enter gf args) w)
  (hof:∀w L0 L1,tD t tn c na nc bk m0 m1 w L0 L1->pQ P gf vs w (qE m0 L0 m1 L1) (pO t c m0 m1 D' u L0 L1))
  (hk:∀fv La' Lb' F',jx t c D L0 L1 La' Lb' F'->(∀x,iX t La Lb F x->iX t La' Lb' F' x)->fv.f=bT u->iX t La' Lb' F' fv->eQ P r f R w0 [m0,m1] Y n (.inRegion ops rest::k) ((d,fv.v)::l) (hb::(qE m0 La' m1 Lb'++F'))):
  eQ P r f R w0 [m0,m1] Y n (.inRegion ops (i::rest)::k) l (hb::(qE m0 La m1 Lb++F)):=by
 refine eQ.mW (h':=qE m0 La m1 Lb++(hb::F)) pv ?_;refine eQ.kE (h:=qE m0 La m1 Lb) (hF:=hb::F) (fs:=[]) (cs:=[]) (λ_=>pO t c m0 m1 D' u La Lb) ho hw hc hx hd hcf (λw Y' hS=>?_) (λw v h' hR=>?_);rw[dR,dL];exact hof w _ _ (hp.step hS (bK _ _) (λ_ h=>bZ _ (cF _ h)) gr);obtain⟨fv,La',Lb',F2,rfl,rfl,g2,hf,hh⟩:=hR;refine eQ.mW (h':=hb::(qE m0 La' m1 Lb'++(F2++F))) vK ?_;exact hk fv La' Lb' (F2++F) (gr.seq g2 hj (bL _ _) (bM _ _)) (λx hx=>hx.mono g2.s0 g2.s1 (bL _ _)) hf (hh.mono (λ_ h=>h) (λ_ h=>h) (bM _ _))
theorem eQ.yW(gr:jx t c D L0 L1 La Lb F)(ho:ops[i]?=some ⟨some d,.call ⟨.value cal,az,ts⟩,ty,pos,aft,g⟩)(hw:fg ops l g=true)
  (hc:fW l cal=some (.func (.func gf) #[] #[]))(hx:iT l az.toList=some vs)(hd:Nat.blt d n=true)(hcf:∀args w,(callFunc gf args).run P w=.ok (.enter gf args) w)
  (hcall:∀w Y',St w0 [m0,m1] w (hb::(qE m0 La m1 Lb++F)) Y'->Cn P gf vs w (λv w'=>fi t w w' v (bT u)))
  (hk:∀fv F',jx t c D L0 L1 La Lb F'->(∀x,iX t La Lb F x->iX t La Lb F' x)->fv.f=bT u->iX t La Lb F' fv->eQ P r f R w0 [m0,m1] Y n (.inRegion ops rest::k) ((d,fv.v)::l) (hb::(qE m0 La m1 Lb++F'))):
  eQ P r f R w0 [m0,m1] Y n (.inRegion ops (i::rest)::k) l (hb::(qE m0 La m1 Lb++F)):=by
 refine eQ.rG (λw v w'=>fi t w w' v (bT u)) ho hw hc hx hd hcf hcall (λv w w' Y' hS he hO=>?_);obtain⟨q,cap,sp,rfl,hq,eV,hS'⟩:=fy hS he hO;have hpm:((q,iC t (bT u) sp)::hb::(qE m0 La m1 Lb++F)).Perm (hb::(qE m0 La m1 Lb++((q,iC t (bT u) sp)::F))):=
  (List.Perm.swap _ _ _).trans (List.Perm.cons _ pv);refine⟨_,hS'.perm hpm,?_⟩;have e1:fZ q (bT u).length cap=FV.v ⟨q.map aP,cap,bT u⟩:=by cases q<;>rfl
 rw[e1];exact hk _ _ (gr.mono (eG _) (cm _ _)) (λx hx=>hx.mono (λ_ h=>h) (λ_ h=>h) (cm _ _)) rfl (.inl ⟨q,sp,aF,rfl,hq,eV⟩)
theorem qZ{w':aB}{fv:FV}(gr:jx t c D L0 L1 La Lb F)(hf:fv.f=bT u)(hh:iX t La Lb F fv)(hS:St w0 [m0,m1] w' (hb::(qE m0 La m1 Lb++F)) []):∃h',pO t c m0 m1 D u L0 L1 fv.v h'/\St w0 [m0,m1] w' h' []:=
 ⟨_,⟨fv,La,Lb,F,rfl,rfl,gr,hf,hh⟩,hS.ij (List.sublist_cons_self _ _)⟩
end
theorem jx.MX{t:ax}{c:List NV}{i:Nat}{L0 L1 La Lb:Nm}{F:Hl}{fv:FV}(g:jx t c i L0 L1 La Lb F)(hf:fv.f=bT (fB (eP c i)).1)(hh:iX t La Lb F fv):jx t c (i+1) L0 L1 (La++[((i:Int),fv)]) Lb F:=
 ⟨⟨λe he=>by
  rcases dP.1 he with he|he;exact g.lA.e0 e he;rw[de.1 he];exact⟨i,rfl,hf⟩,g.lA.e1⟩,λ_ h=>cD _ (g.s0 h),g.s1,λe he=>by
  rcases dP.1 he with he|he;exact(g.n0 e he).imp id (λh=>⟨aH,h.2⟩);rw[de.1 he];exact .inr ⟨by simp only[];omega,hh.base g⟩,λe he=>(g.n1 e he).imp id (λh=>⟨aH,h.2⟩)⟩
theorem jx.MW{t:ax}{c:List NV}{i:Nat}{L0 L1 La Lb:Nm}{F:Hl}{fv:FV}(g:jx t c i L0 L1 La Lb F)(hf:fv.f=bT (fB (eP c i)).2)(hh:iX t La Lb F fv):jx t c (i+1) L0 L1 La (Lb++[((i:Int),fv)]) F:=
 ⟨⟨g.lA.e0,λe he=>by
  rcases dP.1 he with he|he;exact g.lA.e1 e he;rw[de.1 he];exact⟨i,rfl,hf⟩⟩,g.s0,λ_ h=>cD _ (g.s1 h),λe he=>(g.n0 e he).imp id (λh=>⟨aH,h.2⟩),λe he=>by
  rcases dP.1 he with he|he;exact(g.n1 e he).imp id (λh=>⟨aH,h.2⟩);rw[de.1 he];exact .inr ⟨by simp only[];omega,hh.base g⟩⟩
def xU(sl:aC)(ms:aq):af:=#[sl,.map ms[0]?,.map ms[1]?]
theorem D5{sl:aC}{ms:aq}{b:Nat}(h:ms.length<2):(xU sl ms).setIfInBounds (1+ms.length) (.map (some b))=xU sl (ms++[b]):=by
 rcases ms with _|⟨a,_|⟨b,l⟩⟩;rfl;rfl;simp only[dC]at h;omega
theorem KR{ms:aq}(h:ms.length=2):∃a b,ms=[a,b]:=by
 rcases ms with _|⟨a,_|⟨b,_|⟨c,l⟩⟩⟩;cases h;cases h;exact⟨a,b,rfl⟩;simp only[dC]at h;omega
theorem uK(p:Tr×Tr):pn true p=p.2:=rfl
theorem xv(p:Tr×Tr):pn false p=p.1:=rfl
theorem fJ{f:List NV}{t:Tr}(h:f=bT t):f.length<=maxLen:=by
 rw[h];have:=AW t;unfold maxLen;omega
theorem FM{op i e g:Int}{a:Tr}(h:op≠4):(fB (.un op i e g a)).1=.un op i e g (fB a).1:=by
 rw[fB,if_neg h];split;rfl;split<;>rfl
theorem CU{op i e g:Int}{a b:Tr}(h7:op≠7)(h8:op≠8):(fB (.bin op i e g a b)).1=.bin op i e g (fB a).1 (fB b).1:=by
 rw[fB];split;rfl;split;rfl;rfl
end Go.Proofs.Wit
