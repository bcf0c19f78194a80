/- Laws of walks, each under its own conditions. -/
import Derived.Test.YtpbhoidjmpjfpaaGreatDoorXT15
set_option maxRecDepth 100000
set_option maxHeartbeats 40000000
namespace Go.Proofs.Wit
open Go Go.RowKit
def Ei(ops:aj):Nat->Nat->Nat->Bool
 |0,_,_=>false
 |f+1,i,j=>(gZ ops i).any (λe=>Nat.beq e j||Ei ops f e j)
structure LH (ops:aj) (rs:aq) (c:Nat) (ls:aq):Prop where
  size:c<ops.size
  QI:∀i∈rs,i<ops.size/\i≠c
  inc:∀q p,q<p->p<rs.length->rs.getD q 0<rs.getD p 0
  lt:∀i,i<ops.size->∀j∈gZ ops i,j<i
  PS:∀i∈rs,∀j∈gZ ops i,j∈rs
  Qf:∀j∈gZ ops c,j∈rs
  Gv:∀i,(i=c\/i∈rs)->∀o,ops[i]?=some o->kU o.op=true
  inj:∀i j d,(i=c\/i∈rs)->(j=c\/j∈rs)->gh ops i=some d->gh ops j=some d->i=j
  LZ:∀i,(i=c\/i∈rs)->∀o,ops[i]?=some o->∀s∈lW ops o,∀j,(j=c\/j∈rs)->gh ops j=some s->j∈gZ ops i
  late:∀i,i<ops.size->¬(i=c\/i∈rs)->(∃j∈gZ ops i,¬(j=c\/j∈rs))\/∀j,(j=c\/j∈rs)->Ei ops ops.size i j=true
  OF:forced ops (c::rs) ls=true
section
variable{P:av}{r:ah}{f:ay}{R:aC->aB->Prop}{w0:aB}{S:aq}{Y:List (Nat×Obj)}{n:Nat}{k:al}{l:Fl}{h:Hl}{ops:aj}
end
abbrev Nm:=List (Int×FV)
abbrev iq:Int->Int->Bool:=λa b=>a==b
theorem oB{ν:Type}:∀{L:List (Int×ν)} {k:Int} {v:ν},gL iq L k=some v->(k,v)∈L
 |[],_,_,h=>by cases h
 |(a,b)::L,k,v,h=>by
  rw[gL]at h;split at h;rename_i hq;have:a=k:=(eq_of_beq hq).symm;cases h;rw[this];simp;exact cy _ (oB h)
theorem nh{ν:Type}:∀{L:List (Int×ν)} {k:Int},gL iq L k=none↔∀e∈L,e.1≠k
 |[],_=>by simp[gL]
 |(a,b)::L,k=>by
  rw[gL];split;rename_i hq;have:a=k:=(eq_of_beq hq).symm;simp[this];rename_i hq;have hne:a≠k:=by rintro rfl;exact hq (by simp[iq])
  rw[nh];constructor;intro h e he;rcases dS.1 he with rfl|he;exact hne;exact h e he;exact λh e he=>h e (cy _ he)
theorem vC{w:aB}{S:aq}(hm:∀b∈S,∃es k,w.heap[b]?=some (.map es k)){a:ae}{xs:ai}(h:Sl w a xs)(h0:0<xs.length):∀b o,a=some ⟨b,o,none⟩->b∉S:=λb o e hb=>by
 obtain⟨es,k,hm⟩:=hm b hb;have:=h.cell 0 h0;subst e;unfold qT World.cell? at this;simp only[Option.getD_some,hm]at this;cases this
theorem Sl.Fs{w w':aB}{S:aq}(hm:∀b∈S,∃es k,w.heap[b]?=some (.map es k)){a:ae}{xs:ai}(h:Sl w a xs)(e:Ex S w w'):Sl w' a xs:=by
 by_cases h0:0<xs.length;exact h.ex e (vC hm h h0);rw[aV (by omega:xs.length=0)];exact Sl.nil _ _
theorem FA.Fs{w w':aB}{S:aq}(hm:∀b∈S,∃es k,w.heap[b]?=some (.map es k)){a:ae}{f:List NV}(h:FA w a f)(e:Ex S w w'):FA w' a f:=⟨Sl.Fs hm h.at_ e⟩
section
variable{P:av}{r:ah}{f:ay}{R:aC->aB->Prop}{w0:aB}{S:aq}{Y:List (Nat×Obj)}{n:Nat}{k:al}{l:Fl}{hb:ah×Obj}{ht:Hl}{ops:aj}{c:Nat}{ls:aq}
end
abbrev oL(m0:Nat)(L0:Nm)(m1:Nat)(L1:Nm):Hl:=[(some m0,mc (Value.int .i64) FV.v L0),(some m1,mc (Value.int .i64) FV.v L1)]
abbrev HG(na:ae)(nl nc m0 m1:Nat):af:=#[.slice na nl nc,.map (some m0),.map (some m1)]
structure Gk (c:List NV) (L0 L1:Nm):Prop where
  e0:∀e∈L0,∃k:Nat,e.1=(k:Int)/\e.2.f=bT (eH (eA c k)).1
  e1:∀e∈L1,∃k:Nat,e.1=(k:Int)/\e.2.f=bT (eH (eA c k)).2
def kY(t:ax)(L0 L1:Nm)(F:Hl)(x:FV):Prop:=x.In t F\/(∃k,(k,x)∈L0)\/∃k,(k,x)∈L1
structure ig (t:ax) (c:List NV) (d:Nat) (L0 L1 L0' L1':Nm) (F:Hl):Prop where
  oU:Gk c L0' L1'
  s0:L0⊆L0'
  s1:L1⊆L1'
  n0:∀e∈L0',e∈L0\/(e.1<(d:Int)/\kY t L0 L1 F e.2)
  n1:∀e∈L1',e∈L1\/(e.1<(d:Int)/\kY t L0 L1 F e.2)
section
variable{t:ax}{c:List NV}
theorem kY.mono{L0 L1 L0' L1':Nm}{F F':Hl}{x:FV}(h:kY t L0 L1 F x)(s0:L0⊆L0')(s1:L1⊆L1')(hs:F⊆F'):kY t L0' L1' F' x:=
 h.imp (λh=>h.mono hs) (Or.imp (λ⟨k,h⟩=>⟨k,s0 h⟩) (λ⟨k,h⟩=>⟨k,s1 h⟩))
theorem kY.base{d:Nat}{L0 L1 L0' L1':Nm}{F:Hl}{x:FV}(h:ig t c d L0 L1 L0' L1' F)(g:kY t L0' L1' F x):kY t L0 L1 F x:=by
 rcases g with g|⟨k,g⟩|⟨k,g⟩;exact .inl g;rcases h.n0 _ g with h1|h1;exact .inr (.inl ⟨k,h1⟩);exact h1.2;rcases h.n1 _ g with h1|h1;exact .inr (.inr ⟨k,h1⟩);exact h1.2
theorem ig.refl{d:Nat}{L0 L1:Nm}(h:Gk c L0 L1):ig t c d L0 L1 L0 L1 []:=⟨h,λ_ h=>h,λ_ h=>h,λ_ h=>.inl h,λ_ h=>.inl h⟩
theorem ig.mono{d d':Nat}{L0 L1 L0' L1':Nm}{F F':Hl}(h:ig t c d L0 L1 L0' L1' F)(hd:d<=d')(hs:F⊆F'):ig t c d' L0 L1 L0' L1' F':=
 ⟨h.oU,h.s0,h.s1,λe he=>(h.n0 e he).imp id (λh=>⟨aH,h.2.mono (λ_ h=>h) (λ_ h=>h) hs⟩),λe he=>(h.n1 e he).imp id (λh=>⟨aH,h.2.mono (λ_ h=>h) (λ_ h=>h) hs⟩)⟩
theorem ig.seq{d d':Nat}{L0 L1 L0' L1' L0'' L1'':Nm}{F F' H:Hl}(h:ig t c d L0 L1 L0' L1' F)(g:ig t c d' L0' L1' L0'' L1'' F')(hd:d'<=d)(h1:F⊆H)(h2:F'⊆H):ig t c d L0 L1 L0'' L1'' H:=by
 have hh:=h.mono (dZ _) h1;have hb:∀{x:FV},kY t L0' L1' F' x->kY t L0 L1 H x:=λhx=>(hx.mono (λ_ h=>h) (λ_ h=>h) h2).base hh;refine⟨g.oU,λ_ hx=>g.s0 (h.s0 hx),λ_ hx=>g.s1 (h.s1 hx),λe he=>?_,λe he=>?_⟩;rcases g.n0 e he with h3|⟨h3,h4⟩;exact hh.n0 e h3;exact .inr ⟨aH,hb h4⟩;rcases g.n1 e he with h3|⟨h3,h4⟩;exact hh.n1 e h3;exact .inr ⟨aH,hb h4⟩
structure rv (t tn:ax) (c:List NV) (na:ae) (nc bk m0 m1:Nat) (w:aB) (L0 L1:Nm):Prop where
  has:kN w (oL m0 L0 m1 L1)
  ie:w.heap[bk]?=some (.cells (HG na c.length nc m0 m1) tn (0,0))
  fa:FA w na c
  f0:∀e∈L0,FA w e.2.a e.2.f
  f1:∀e∈L1,FA w e.2.a e.2.f
  oU:Gk c L0 L1
variable{tn:ax}{na:ae}{nc bk m0 m1:Nat}{w:aB}{L0 L1:Nm}
theorem rv.maps(h:rv t tn c na nc bk m0 m1 w L0 L1):∀b∈[m0,m1],∃es k,w.heap[b]?=some (.map es k):=λb hb=>by
 simp only[dS,dv,ep]at hb;rcases hb with rfl|rfl;exact⟨_,_,(h.has.own _ aF _ rfl).1⟩;exact⟨_,_,(h.has.own _ (cy _ aF) _ rfl).1⟩
theorem rv.ne(h:rv t tn c na nc bk m0 m1 w L0 L1):bk∉[m0,m1]:=λhb=>by
 obtain⟨es,k,hm⟩:=h.maps bk hb;rw[h.ie]at hm;cases hm
theorem kY.fa{w' w0:aB}{S:aq}{h:Hl}{Y:List (Nat×Obj)}{d:Nat}{L0' L1':Nm}{F:Hl}{x:FV}(g:kY t L0' L1' F x)(hp:rv t tn c na nc bk m0 m1 w L0 L1)(gr:ig t c d L0 L1 L0' L1' F)(e:Ex [m0,m1] w w')(s:St w0 S w' h Y)(hs:F⊆h):FA w' x.a x.f:=by
 rcases g.base gr with g|⟨k,g⟩|⟨k,g⟩;exact(g.mono hs).at s;exact(hp.f0 _ g).Fs hp.maps e;exact(hp.f1 _ g).Fs hp.maps e
theorem rv.step{w':aB}{h:Hl}{Y:List (Nat×Obj)}{L0' L1':Nm}{F:Hl}{d:Nat}(g:rv t tn c na nc bk m0 m1 w L0 L1)(s:St w [m0,m1] w' h Y)(hs:(oL m0 L0' m1 L1').Sublist h)(hF:F⊆h)(gr:ig t c d L0 L1 L0' L1' F):rv t tn c na nc bk m0 m1 w' L0' L1':=
  ⟨(s.iV hs).has,by rw[s.ext.block bk (aX.1 g.ie).1 g.ne];exact g.ie,g.fa.Fs g.maps s.ext,
   λe he=>kY.fa (x:=e.2) (.inr (.inl ⟨e.1,he⟩)) g gr s.ext s hF,λe he=>kY.fa (x:=e.2) (.inr (.inr ⟨e.1,he⟩)) g gr s.ext s hF,gr.oU⟩
def pn(no:Bool)(p:Tr×Tr):Tr:=if no then p.2 else p.1
def oi(t:ax)(c:List NV)(m0 m1 d:Nat)(u:Tr)(L0 L1:Nm)(v:aC)(h':Hl):Prop:=
 ∃fv L0' L1' F,v=FV.v fv/\h'=oL m0 L0' m1 L1'++F/\ig t c d L0 L1 L0' L1' F/\fv.f=bT u/\kY t L0' L1' F fv
end
section
variable{P:av}{r:ah}{f:ay}{R:aC->aB->Prop}{w0:aB}{Y:List (Nat×Obj)}{n:Nat}{k:al}{l:Fl}{hb:ah×Obj}{ops:aj}{i d:Nat}{rest:aq}{ty:ax}{pos:aA}{aft:ak}{g:Option (Nat×Bool)}
variable{az:aa}{ts:ab}{cal:au}{gf:ay}{vs:ai}{t tn:ax}{c:List NV}{na:ae}{nc bk m0 m1 D D':Nat}{L0 L1 La Lb:Nm}{F:Hl}{u:Tr}
theorem uG{A B:Hl}:(hb::(A++B)).Perm (A++(hb::B)):=List.perm_middle.symm
theorem BE{A B C:Hl}:((A++B)++(hb::C)).Perm (hb::(A++(B++C))):=by
 rw[<-c9];exact List.perm_middle
theorem eB.rZ(hp:rv t tn c na nc bk m0 m1 w0 L0 L1)(gr:ig t c D L0 L1 La Lb F)(hj:D'<=D)(ho:ops[i]?=some ⟨some d,.call ⟨.value cal,az,ts⟩,ty,pos,aft,g⟩)(hw:eL ops l g=true)
  (hc:eZ l cal=some (.func (.func gf) #[] #[]))(hx:iw l az.toList=some vs)(hd:Nat.blt d n=true)(hcf:∀args w,(callFunc gf args).run P w=.ok (.enter gf args) w)
  (hof:∀w L0 L1,rv t tn c na nc bk m0 m1 w L0 L1->tU P gf vs w (oL m0 L0 m1 L1) (oi t c m0 m1 D' u L0 L1))
  (hk:∀fv La' Lb' F',ig t c D L0 L1 La' Lb' F'->(∀x,kY t La Lb F x->kY t La' Lb' F' x)->fv.f=bT u->kY t La' Lb' F' fv->eB P r f R w0 [m0,m1] Y n (.inRegion ops rest::k) ((d,fv.v)::l) (hb::(oL m0 La' m1 Lb'++F'))):
  eB P r f R w0 [m0,m1] Y n (.inRegion ops (i::rest)::k) l (hb::(oL m0 La m1 Lb++F)):=by
 refine iP (h':=oL m0 La m1 Lb++(hb::F)) uG ?_;refine eB.l0 (h:=oL m0 La m1 Lb) (hF:=hb::F) (fs:=[]) (cs:=[]) (λ_=>oi t c m0 m1 D' u La Lb) ho hw hc hx hd hcf (λw Y' hS=>?_) (λw v h' hR=>?_);rw[dI,dC];exact hof w _ _ (hp.step hS (bL _ _) (λ_ h=>bX _ (cy _ h)) gr);obtain⟨fv,La',Lb',F2,rfl,rfl,g2,hf,hh⟩:=hR;refine iP (h':=hb::(oL m0 La' m1 Lb'++(F2++F))) BE ?_;exact hk fv La' Lb' (F2++F) (gr.seq g2 hj (bP _ _) (List.subset_append_left _ _)) (λx hx=>hx.mono g2.s0 g2.s1 (bP _ _)) hf (hh.mono (λ_ h=>h) (λ_ h=>h) (List.subset_append_left _ _))
theorem eB.xZ(gr:ig t c D L0 L1 La Lb F)(ho:ops[i]?=some ⟨some d,.call ⟨.value cal,az,ts⟩,ty,pos,aft,g⟩)(hw:eL ops l g=true)
  (hc:eZ l cal=some (.func (.func gf) #[] #[]))(hx:iw l az.toList=some vs)(hd:Nat.blt d n=true)(hcf:∀args w,(callFunc gf args).run P w=.ok (.enter gf args) w)
  (hcall:∀w Y',St w0 [m0,m1] w (hb::(oL m0 La m1 Lb++F)) Y'->Cn P gf vs w (λv w'=>eV t w w' v (bT u)))
  (hk:∀fv F',ig t c D L0 L1 La Lb F'->(∀x,kY t La Lb F x->kY t La Lb F' x)->fv.f=bT u->kY t La Lb F' fv->eB P r f R w0 [m0,m1] Y n (.inRegion ops rest::k) ((d,fv.v)::l) (hb::(oL m0 La m1 Lb++F'))):
  eB P r f R w0 [m0,m1] Y n (.inRegion ops (i::rest)::k) l (hb::(oL m0 La m1 Lb++F)):=by
 refine eB.sP (λw v w'=>eV t w w' v (bT u)) ho hw hc hx hd hcf hcall (λv w w' Y' hS he hO=>?_);obtain⟨q,cap,sp,rfl,hq,eK,hS'⟩:=eW hS he hO;have hpm:((q,jc t (bT u) sp)::hb::(oL m0 La m1 Lb++F)).Perm (hb::(oL m0 La m1 Lb++((q,jc t (bT u) sp)::F))):=
  (List.Perm.swap _ _ _).trans (List.Perm.cons _ uG);refine⟨_,hS'.perm hpm,?_⟩;have e1:fL q (bT u).length cap=FV.v ⟨q.map aP,cap,bT u⟩:=by cases q<;>rfl
 rw[e1];exact hk _ _ (gr.mono (dZ _) (cm _ _)) (λx hx=>hx.mono (λ_ h=>h) (λ_ h=>h) (cm _ _)) rfl (.inl ⟨q,sp,aF,rfl,hq,eK⟩)
theorem pj{w':aB}{fv:FV}(gr:ig t c D L0 L1 La Lb F)(hf:fv.f=bT u)(hh:kY t La Lb F fv)(hS:St w0 [m0,m1] w' (hb::(oL m0 La m1 Lb++F)) []):∃h',oi t c m0 m1 D u L0 L1 fv.v h'/\St w0 [m0,m1] w' h' []:=
 ⟨_,⟨fv,La,Lb,F,rfl,rfl,gr,hf,hh⟩,hS.iV (List.sublist_cons_self _ _)⟩
end
theorem ig.O3{t:ax}{c:List NV}{i:Nat}{L0 L1 La Lb:Nm}{F:Hl}{fv:FV}(g:ig t c i L0 L1 La Lb F)(hf:fv.f=bT (eH (eA c i)).1)(hh:kY t La Lb F fv):ig t c (i+1) L0 L1 (La++[((i:Int),fv)]) Lb F:=
 ⟨⟨λe he=>by
  rcases dG.1 he with he|he;exact g.oU.e0 e he;rw[cS.1 he];exact⟨i,rfl,hf⟩,g.oU.e1⟩,λ_ h=>cx _ (g.s0 h),g.s1,λe he=>by
  rcases dG.1 he with he|he;exact(g.n0 e he).imp id (λh=>⟨aH,h.2⟩);rw[cS.1 he];exact .inr ⟨by simp only[];omega,hh.base g⟩,λe he=>(g.n1 e he).imp id (λh=>⟨aH,h.2⟩)⟩
theorem ig.O2{t:ax}{c:List NV}{i:Nat}{L0 L1 La Lb:Nm}{F:Hl}{fv:FV}(g:ig t c i L0 L1 La Lb F)(hf:fv.f=bT (eH (eA c i)).2)(hh:kY t La Lb F fv):ig t c (i+1) L0 L1 La (Lb++[((i:Int),fv)]) F:=
 ⟨⟨g.oU.e0,λe he=>by
  rcases dG.1 he with he|he;exact g.oU.e1 e he;rw[cS.1 he];exact⟨i,rfl,hf⟩⟩,g.s0,λ_ h=>cx _ (g.s1 h),λe he=>(g.n0 e he).imp id (λh=>⟨aH,h.2⟩),λe he=>by
  rcases dG.1 he with he|he;exact(g.n1 e he).imp id (λh=>⟨aH,h.2⟩);rw[cS.1 he];exact .inr ⟨by simp only[];omega,hh.base g⟩⟩
def w8(sl:aC)(ms:aq):af:=#[sl,.map ms[0]?,.map ms[1]?]
theorem C3{sl:aC}{ms:aq}{b:Nat}(h:ms.length<2):(w8 sl ms).setIfInBounds (1+ms.length) (.map (some b))=w8 sl (ms++[b]):=by
 rcases ms with _|⟨a,_|⟨b,l⟩⟩;rfl;rfl;simp only[dt]at h;omega
theorem JL{ms:aq}(h:ms.length=2):∃a b,ms=[a,b]:=by
 rcases ms with _|⟨a,_|⟨b,_|⟨c,l⟩⟩⟩;cases h;cases h;exact⟨a,b,rfl⟩;simp only[dt]at h;omega
theorem tm(p:Tr×Tr):pn true p=p.2:=rfl
theorem wA(p:Tr×Tr):pn false p=p.1:=rfl
theorem eU{f:List NV}{t:Tr}(h:f=bT t):f.length<=maxLen:=by
 rw[h];have:=Jq t;unfold maxLen;omega
theorem Kh{op i e g:Int}{a:Tr}(h:op≠4):(eH (.un op i e g a)).1=.un op i e g (eH a).1:=by
 rw[eH,if_neg h];split;rfl;split<;>rfl
theorem HE{op i e g:Int}{a b:Tr}(h7:op≠7)(h8:op≠8):(eH (.bin op i e g a b)).1=.bin op i e g (eH a).1 (eH b).1:=by
 rw[eH];split;rfl;split;rfl;rfl
def qz(op:Int):Bool:=op==3||decide (8<op)
def A4(op:Int)(x y:Bool):Bool:=if op=1 then true else if op=4 then !x else if op=5 then x && y else if op=6 then x||y else if op=7 then !x||y else if op=8 then x==y else false
def gA(r:Tr->Bool):Tr->Bool
 |.leaf op i e g=>if qz op=true then r (.leaf op i e g)else A4 op false false
 |.un op i e g a=>if qz op=true then r (.un op i e g a)else A4 op (gA r a) false
 |.bin op i e g a b=>if qz op=true then r (.bin op i e g a b)else A4 op (gA r a) (gA r b)
def pf:Tr->List Tr
 |.leaf op i e g=>if qz op=true then [.leaf op i e g]else []
 |.un op i e g a=>if qz op=true then [.un op i e g a]else pf a
 |.bin op i e g a b=>if qz op=true then [.bin op i e g a b]else pf a++pf b
theorem sD{r r':Tr->Bool}:∀{t:Tr},(∀u∈pf t,r u=r' u)->gA r t=gA r' t
 |.leaf op i e g,h=>by
  unfold gA pf at*;split;rename_i hl;rw[if_pos hl]at h;exact h _ aF;rfl
 |.un op i e g a,h=>by
  unfold pf at h;unfold gA;split;rename_i hl;rw[if_pos hl]at h;exact h _ aF;rename_i hl;rw[if_neg hl]at h;rw[sD h]
 |.bin op i e g a b,h=>by
  unfold pf at h;unfold gA;split;rename_i hl;rw[if_pos hl]at h;exact h _ aF;rename_i hl;rw[if_neg hl]at h;rw[sD (t:=a) (λu hu=>h u (cx _ hu)),sD (t:=b) (λu hu=>h u (bX _ hu))]
def pZ(t:Tr):Prop:=(∃l:List Tr,l.Nodup/\(∀u,u∈l↔u∈pf t)/\l.length<=10)/\∀r:Tr->Bool,gA r t=true
theorem GW{t:Tr}{l:List Tr}(hn:l.Nodup)(hm:∀u,u∈l↔u∈pf t):pZ t↔l.length<=10/\∀r:Tr->Bool,gA r t=true:=by
 constructor;rintro ⟨⟨l',hn',hm',hl'⟩,h⟩;have:=hn.length_le_of_subset (λu hu=>(hm' u).2 ((hm u).1 hu):l⊆l');exact⟨aH,h⟩;rintro ⟨h1,h2⟩;exact⟨⟨l,hn,hm,h1⟩,h2⟩
theorem Cr(b:Nat->Bool):∀n:Nat,∃v,v<2^n/\∀k,k<n->v.testBit k=b k
 |0=>⟨0,aI,λk hk=>absurd hk (dK _)⟩
 |n+1=>by
  obtain⟨v,hv,h⟩:=Cr b n;cases hb:b n with
  |false=>
   refine⟨v,by rw[Nat.pow_succ];omega,λk hk=>?_⟩;by_cases e:k=n;subst e;rw[hb];exact Nat.testBit_lt_two_pow hv;exact h k aH
  |true=>
   refine⟨2^n+v,by rw[Nat.pow_succ];omega,λk hk=>?_⟩;by_cases e:k=n;subst e;rw[hb,Nat.testBit_two_pow_add_eq,Nat.testBit_lt_two_pow hv];rfl;rw[Nat.testBit_two_pow_add_gt aH];exact h k aH
theorem D6{t:Tr}{l:List Tr}(hm:∀u,u∈l↔u∈pf t){R:Nat->Tr->Bool}(hR:∀v u,u∈l->R v u=v.testBit (l.idxOf u)):(∀r:Tr->Bool,gA r t=true)↔∀v,v<2^l.length->gA (R v) t=true:=by
 constructor;exact λh v _=>h _;intro h r;obtain⟨v,hv,hb⟩:=Cr (λk=>r (l.getD k (.leaf 0 0 0 0))) l.length;rw[<-h v hv];refine sD (λu hu=>?_);have hul:=(hm u).2 hu;have hlt:=List.idxOf_lt_length_of_mem hul;rw[hR v u hul,hb _ hlt];simp[hlt,List.getElem_idxOf]
abbrev sB(s:ao)(j:Nat):Bool:=s.getD j false
structure Lv (c:List NV) (i:Nat) (s:ao) (o:ar) (s':ao) (o':ar):Prop where
  len:s'.length=s.length
  mono:∀j,sB s j=true->sB s' j=true
  self:sB s' i=true
  new:∀(j:Nat),sB s' j=true->sB s j=false->∃hj:j<c.length,(qz c[j].op=true->eA c j∈pf (eA c i))/\(qz c[j].op=false->(iX c[j].op=true->sB s' c[j].x.toNat=true)/\(ij c[j].op=true->sB s' c[j].y.toNat=true))
  out:∃l:aq,o'=o++l.map (λj:Nat=>(j:Int))/\l.Nodup/\∀j,j∈l↔(sB s' j=true/\sB s j=false/\∃hj:j<c.length,qz c[j].op=true)
theorem xN{s:ao}{i j:Nat}(hi:i<s.length):sB (s.set i true) j=if j=i then true else sB s j:=by
 unfold sB;by_cases e:j=i;subst e;simp[hi];rw[if_neg e];simp[Ne.symm e]
theorem uF{s:ao}{i j:Nat}(hi:i<s.length)(h:sB s j=true):sB (s.set i true) j=true:=by
 rw[xN hi];split;rfl;exact h
section
variable{c:List NV}{i:Nat}{s s1 s2 s3:ao}{o o2 o3:ar}
theorem Lv.seen(h:sB s i=true):Lv c i s o s o:=
 ⟨rfl,λ_ h=>h,h,λj h1 h2=>(by rw[h1]at h2;cases h2),[],by simp,dP,λj=>⟨λh=>(by cases h),λ⟨h1,h2,_⟩=>by rw[h1]at h2;cases h2⟩⟩
theorem Aa{t:Tr}(h:qz (kL t)=true):pf t=[t]:=by
 cases t<;>exact if_pos h
theorem Lv.leaf(hi:i<c.length)(hO:fC c)(hs:s.length=c.length)(h0:sB s i=false)(hl:qz c[i].op=true):Lv c i s o (s.set i true) (o++[(i:Int)]):=by
 have pz:∀j,sB (s.set i true) j=if j=i then true else sB s j:=λj=>xN aH;have ht:kL (eA c i)=c[i].op:=qt hi hO;refine⟨by simp,λj h=>uF aH h,by rw[pz];simp,λj h1 h2=>?_,[i],by simp,by simp,λj=>?_⟩;rw[pz]at h1;by_cases e:j=i;subst e;exact⟨hi,λ_=>by rw[Aa (by rw[ht];exact hl)];exact aF,λh=>(by rw[hl]at h;cases h)⟩;rw[if_neg e,h2]at h1;cases h1;rw[pz,cS];constructor;rintro rfl;exact⟨by simp,h0,hi,hl⟩;rintro ⟨h1,h2,_⟩;by_cases e:j=i;exact e;rw[if_neg e,h2]at h1;cases h1
theorem Lv.node(hi:i<c.length)(hs:s.length=c.length)(h0:sB s i=false)(hl:qz c[i].op=false)
  (hA:(iX c[i].op=true/\Lv c c[i].x.toNat (s.set i true) o s2 o2/\∀u∈pf (eA c c[i].x.toNat),u∈pf (eA c i))\/(iX c[i].op=false/\s2=s.set i true/\o2=o))
  (hB:(ij c[i].op=true/\Lv c c[i].y.toNat s2 o2 s3 o3/\∀u∈pf (eA c c[i].y.toNat),u∈pf (eA c i))\/(ij c[i].op=false/\s3=s2/\o3=o2)):Lv c i s o s3 o3:=by
 have pz:∀j,sB (s.set i true) j=if j=i then true else sB s j:=λj=>xN aH;have l2:s2.length=s.length:=by
  rcases hA with⟨_,h,_⟩|⟨_,h,_⟩;rw[h.len];simp;rw[h];simp
 have m2:∀j,sB (s.set i true) j=true->sB s2 j=true:=λj h=>by
  rcases hA with⟨_,h',_⟩|⟨_,h',_⟩;exact h'.mono j h;rw[h'];exact h
 have l3:s3.length=s.length:=by
  rcases hB with⟨_,h,_⟩|⟨_,h,_⟩;rw[h.len,l2];rw[h,l2]
 have m3:∀j,sB s2 j=true->sB s3 j=true:=λj h=>by
  rcases hB with⟨_,h',_⟩|⟨_,h',_⟩;exact h'.mono j h;rw[h'];exact h
 have i1:sB (s.set i true) i=true:=by rw[pz];simp
 have hx:iX c[i].op=true->sB s2 c[i].x.toNat=true:=λh=>by
  rcases hA with⟨_,h',_⟩|⟨h',_⟩;exact h'.self;rw[h]at h';cases h'
 have hy:ij c[i].op=true->sB s3 c[i].y.toNat=true:=λh=>by
  rcases hB with⟨_,h',_⟩|⟨h',_⟩;exact h'.self;rw[h]at h';cases h'
 have n2:∀j,sB s2 j=true->sB (s.set i true) j=false->∃hj:j<c.length,(qz c[j].op=true->eA c j∈pf (eA c i))/\(qz c[j].op=false->(iX c[j].op=true->sB s2 c[j].x.toNat=true)/\(ij c[j].op=true->sB s2 c[j].y.toNat=true)):=λj h1 h2=>by
  rcases hA with⟨_,h',hsub⟩|⟨_,h',_⟩;obtain⟨hj,k1,k2⟩:=h'.new j h1 h2;exact⟨hj,λh=>hsub _ (k1 h),k2⟩;rw[h',h2]at h1;cases h1
 have n3:∀j,sB s3 j=true->sB s2 j=false->∃hj:j<c.length,(qz c[j].op=true->eA c j∈pf (eA c i))/\(qz c[j].op=false->(iX c[j].op=true->sB s3 c[j].x.toNat=true)/\(ij c[j].op=true->sB s3 c[j].y.toNat=true)):=λj h1 h2=>by
  rcases hB with⟨_,h',hsub⟩|⟨_,h',_⟩;obtain⟨hj,k1,k2⟩:=h'.new j h1 h2;exact⟨hj,λh=>hsub _ (k1 h),k2⟩;rw[h',h2]at h1;cases h1
 obtain⟨la,ea,na,ma⟩:∃l:aq,o2=o++l.map (λj:Nat=>(j:Int))/\l.Nodup/\∀j,j∈l↔(sB s2 j=true/\sB (s.set i true) j=false/\∃hj:j<c.length,qz c[j].op=true):=by
  rcases hA with⟨_,h',_⟩|⟨_,h',e⟩;exact h'.out;exact⟨[],by simp[e],dP,λj=>⟨λh=>(by cases h),λ⟨k1,k2,_⟩=>by rw[h',k2]at k1;cases k1⟩⟩
 obtain⟨lb,eb,nb,mb⟩:∃l:aq,o3=o2++l.map (λj:Nat=>(j:Int))/\l.Nodup/\∀j,j∈l↔(sB s3 j=true/\sB s2 j=false/\∃hj:j<c.length,qz c[j].op=true):=by
  rcases hB with⟨_,h',_⟩|⟨_,h',e⟩;exact h'.out;exact⟨[],by simp[e],dP,λj=>⟨λh=>(by cases h),λ⟨k1,k2,_⟩=>by rw[h',k2]at k1;cases k1⟩⟩
 refine⟨l3,λj h=>m3 j (m2 j (uF aH h)),m3 i (m2 i i1),λj h1 h2=>?_,la++lb,by rw[eb,ea,dF,c9],de.2 ⟨na,nb,λa h1 b h2 e=>?_⟩,λj=>?_⟩;by_cases e:j=i;subst e;exact⟨hi,λh=>(by rw[hl]at h;cases h),λ_=>⟨λh=>m3 _ (hx h),hy⟩⟩;cases h3:sB s2 j with
 |false=>exact n3 j h1 h3
 |true=>
  obtain⟨hj,k1,k2⟩:=n2 j h3 (by rw[pz,if_neg e];exact h2);exact⟨hj,k1,λh=>⟨λh'=>m3 _ ((k2 h).1 h'),λh'=>m3 _ ((k2 h).2 h')⟩⟩
 subst e;have k1:=((ma a).1 h1).1;have k2:=((mb a).1 h2).2.1;rw[k1]at k2;cases k2;rw[dG,ma,mb];constructor;rintro (⟨k1,k2,k3⟩|⟨k1,k2,k3⟩);refine⟨m3 j k1,?_,k3⟩;rw[pz]at k2;split at k2;cases k2;exact k2;refine⟨k1,?_,k3⟩;cases h:sB s j with
 |false=>rfl
 |true=>
  have:=m2 j (uF aH h);rw[this]at k2;cases k2
 rintro ⟨k1,k2,k3⟩;have hji:j≠i:=λe=>by
  subst e;obtain⟨_,h⟩:=k3;rw[hl]at h;cases h
 cases h3:sB s2 j with
 |true=>exact .inl ⟨rfl,by rw[pz,if_neg hji];exact k2,k3⟩
 |false=>exact .inr ⟨k1,rfl,k3⟩
theorem Lv.done(hO:fC c)(_hi:i<c.length)(h:Lv c i (List.replicate c.length false) [] s3 o3):∃l:aq,o3=l.map (λj:Nat=>(j:Int))/\l.Nodup/\(∀j∈l,j<c.length)/\∀u,u∈l.map (eA c)↔u∈pf (eA c i):=by
 obtain⟨l,e,hn,hm⟩:=h.out;have h0:∀j,sB (List.replicate c.length false) j=false:=λj=>by
  unfold sB;rw[aY,List.getElem?_replicate];split<;>rfl
 have key:∀j,sB s3 j=true->∀u∈pf (eA c j),u∈l.map (eA c):=by
  intro j
  induction j using Nat.strongRecOn with
  |_ j ih=>
   intro hj u hu;obtain⟨hjl,k1,k2⟩:=h.new j hj (h0 j);have ht:kL (eA c j)=c[j].op:=qt hjl hO;cases hl:qz c[j].op with
   |true=>
    rw[Aa (by rw[ht];exact hl),cS]at hu;rw[hu];exact cM ((hm j).2 ⟨hj,h0 j,hjl,hl⟩)
   |false=>
    obtain⟨kx,ky⟩:=k2 hl;have hord:=hO.ord j hjl;rcases iK hjl hO with⟨h1,h2⟩|⟨h1,h1',h2⟩|⟨h1,h2⟩;rw[h2]at hu;unfold pf at hu;rw[hl]at hu;cases hu;rw[h2]at hu;unfold pf at hu;rw[hl]at hu;have hx:=hord.1 h1;exact ih _ aH (kx h1) u hu;rw[h2]at hu;unfold pf at hu;rw[hl]at hu;have hx:=hord.1 (jz h1);have hy:=hord.2 h1;rcases dG.1 hu with hu|hu;exact ih _ aH (kx (jz h1)) u hu;exact ih _ aH (ky h1) u hu
 refine⟨l,by rw[e];rfl,hn,λj hj=>by obtain⟨_,_,hj',_⟩:=(hm j).1 hj;exact hj',λu=>⟨λhu=>?_,key i h.self u⟩⟩;obtain⟨j,hj,rfl⟩:=dU.1 hu;obtain⟨k1,k2,hj',k3⟩:=(hm j).1 hj;obtain⟨_,k4,_⟩:=h.new j k1 k2;exact k4 k3
end
theorem Cb{c:List NV}{k:Nat}{r:Tr->Bool}(hk:k<c.length)(hO:fC c)(hl:qz c[k].op=true):gA r (eA c k)=r (eA c k):=by
 have ht:kL (eA c k)=c[k].op:=qt hk hO;rw[<-ht]at hl;generalize eA c k=t at hl;cases t<;>exact if_pos hl
theorem Ij{c:List NV}{k:Nat}{r:Tr->Bool}{bx bY:Bool}(hk:k<c.length)(hO:fC c)(hl:qz c[k].op=false)(hx:iX c[k].op=true->bx=gA r (eA c c[k].x.toNat))(hy:ij c[k].op=true->bY=gA r (eA c c[k].y.toNat)):
  A4 c[k].op bx bY=gA r (eA c k):=by
 have hop:=(hO k hk).op;have hc:(1<=c[k].op/\c[k].op<=8)/\c[k].op≠3:=by
  unfold qz at hl;simp only[Bool.or_eq_false_iff,bQ,beq_eq_false_iff_ne]at hl;omega
 rcases iK hk hO with⟨h1,h2⟩|⟨h1,h1',h2⟩|⟨h1,h2⟩;rw[h2];unfold gA;rw[if_neg (by rw[hl];simp)];rw[u6 hop,bQ]at h1;have:c[k].op=1\/c[k].op=2:=aH;rcases this with h|h<;>rw[h]<;>rfl
 ·rw[h2]
  unfold gA;rw[if_neg (by rw[hl];simp),hx h1];have:c[k].op=4:=by
   rcases(by omega:c[k].op=1\/c[k].op=2\/c[k].op=4\/c[k].op=5\/c[k].op=6\/c[k].op=7\/c[k].op=8)with h|h|h|h|h|h|h;rw[h]at h1;cases h1;rw[h]at h1;cases h1;exact h
   all_goals rw[h]at h1';cases h1'
  rw[this];rfl
 rw[h2]
 conv=>rhs;unfold gA
 rw[if_neg (by rw[hl];simp),hx (jz h1),hy h1]
theorem HQ{c:List NV}{k:Nat}(hk:k<c.length)(hO:fC c)(hl:qz c[k].op=false):(iX c[k].op=true->∀u∈pf (eA c c[k].x.toNat),u∈pf (eA c k))/\(ij c[k].op=true->∀u∈pf (eA c c[k].y.toNat),u∈pf (eA c k)):=by
 rcases iK hk hO with⟨h1,h2⟩|⟨h1,h1',h2⟩|⟨h1,h2⟩;exact⟨λh=>(by rw[h1]at h;cases h),λh=>(by have:=jz h;rw[h1]at this;cases this)⟩;refine⟨λ_ u hu=>?_,λh=>(by rw[h1']at h;cases h)⟩;rw[h2];unfold pf;rw[if_neg (by rw[hl];simp)];exact hu;refine⟨λ_ u hu=>?_,λ_ u hu=>?_⟩<;>rw[h2]<;>unfold pf<;>rw[if_neg (by rw[hl];simp)]
 exact cx _ hu;exact bX _ hu
def rT(c:List NV)(b:Nat->Bool)(u:Tr):Bool:=b ((trees c).idxOf u)
theorem Ej{c:List NV}(hC:nJ c){b:Nat->Bool}{k:Nat}(hk:k<c.length):rT c b (eA c k)=b k:=by
 have hn:(trees c).Nodup:=by rw[hC.trees];exact(jA _).nd
 unfold rT;have hk':k<(trees c).length:=by rw[fW];exact hk
 rw[ju hk,hn.idxOf_getElem k hk']
def sV(c:List NV)(s:ao)(o:ar):Prop:=∃l:aq,o=l.map (λj:Nat=>(j:Int))/\l.Nodup/\∀j∈l,sB s j=true/\j<c.length
theorem sV.nil{c:List NV}{s:ao}:sV c s []:=⟨[],rfl,dP,λ_ h=>by cases h⟩
theorem sV.le{c:List NV}{s:ao}{o:ar}(h:sV c s o):o.length<=c.length:=by
 obtain⟨l,rfl,hn,hm⟩:=h;have:=hn.length_le_of_subset (λj hj=>dO.2 (hm j hj).2:l⊆List.range c.length);simpa using this
theorem sV.set{c:List NV}{s:ao}{o:ar}{i:Nat}(h:sV c s o)(hi:i<s.length):sV c (s.set i true) o:=by
 obtain⟨l,e,hn,hm⟩:=h;exact⟨l,e,hn,λj hj=>⟨uF hi (hm j hj).1,(hm j hj).2⟩⟩
theorem sV.go{c:List NV}{i:Nat}{s s':ao}{o o':ar}(h:sV c s o)(g:Lv c i s o s' o'):sV c s' o':=by
 obtain⟨l,rfl,hn,hm⟩:=h;obtain⟨l2,rfl,hn2,hm2⟩:=g.out;refine⟨l++l2,by rw[dF],de.2 ⟨hn,hn2,λa h1 b h2 e=>?_⟩,λj hj=>?_⟩;subst e;have k1:=(hm a h1).1;have k2:=((hm2 a).1 h2).2.1;rw[k1]at k2;cases k2;rcases dG.1 hj with hj|hj;exact⟨g.mono j (hm j hj).1,(hm j hj).2⟩;obtain⟨k1,_,k3,_⟩:=(hm2 j).1 hj;exact⟨k1,k3⟩
def wC(L:Nat)(l:aq)(k:Nat):ar:=(List.range L).map (λi=>if l.idxOf i<k then(l.idxOf i:Int)else 0)
theorem BK{L k:Nat}{l:aq}:(wC L l k).length=L:=by simp[wC]
theorem Ey{L:Nat}{l:aq}:wC L l 0=List.replicate L 0:=by
 apply dn (by simp[wC]);intro i h1 h2;simp[wC]
theorem BL{L k i:Nat}{l:aq}(hi:i<L):(wC L l k).getD i 0=if l.idxOf i<k then(l.idxOf i:Int)else 0:=by simp[wC,hi]
theorem HF{L k:Nat}{l:aq}(hn:l.Nodup)(hk:k<l.length):(wC L l k).set l[k] (k:Int)=wC L l (k+1):=by
 have hx:l.idxOf l[k]=k:=hn.idxOf_getElem k hk;apply dn (by simp[wC]);intro i h1 h2;rw[List.getElem_set];by_cases e:l[k]=i;subst e;rw[if_pos rfl];simp[wC,hx];rw[if_neg e];have hne:l.idxOf i≠k:=λh=>by
  have hlt:l.idxOf i<l.length:=aH;have:=List.getElem_idxOf hlt;apply e;rw[<-this]
  congr 1
  exact h.symm
 simp only[wC,List.getElem_map,List.getElem_range];by_cases h:l.idxOf i<k;rw[if_pos h,if_pos aH];rw[if_neg h,if_neg aH]
section
variable{c:List NV}{l:aq}
theorem vd(hC:nJ c){i j:Nat}(hi:i<c.length)(hj:j<c.length)(e:eA c i=eA c j):i=j:=by
 have hn:(trees c).Nodup:=by rw[hC.trees];exact(jA _).nd
 rw[ju hi,ju hj]at e;exact(List.getElem_inj hn).1 e
theorem EH(hC:nJ c)(hn:l.Nodup)(hl:∀j∈l,j<c.length):(l.map (eA c)).Nodup:=by
 induction l with
 |nil=>exact dP
 |cons a l ih=>
  rw[List.nodup_cons]at hn;rw[dR,List.nodup_cons];refine⟨λh=>?_,ih hn.2 (λj hj=>hl j (by simp[hj]))⟩;obtain⟨j,hj,e⟩:=dU.1 h;have:=vd hC (hl j (by simp[hj])) (hl a aL) e;exact hn.1 (this ▸ hj)
theorem H9(hC:nJ c)(hl:∀j∈l,j<c.length){j:Nat}(hj:j∈l):(l.map (eA c)).idxOf (eA c j)=l.idxOf j:=by
 induction l with
 |nil=>cases hj
 |cons a l ih=>
  rw[dR,List.idxOf_cons,List.idxOf_cons];by_cases e:a=j;subst e;simp;have hne:¬eA c a=eA c j:=λh=>e (vd hC (hl a aL) (hl j hj) h);have hj2:j∈l:=by
   rcases dS.1 hj with h|h;exact absurd h.symm e;exact h
  have h1:(eA c a==eA c j)=false:=beq_eq_false_iff_ne.2 hne;have h2:(a==j)=false:=beq_eq_false_iff_ne.2 e;rw[h1,h2,ih (λj hj=>hl j (by simp[hj])) hj2]
theorem Hj(hC:nJ c)(hl:∀j∈l,j<c.length)(v:Nat)(u:Tr)(hu:u∈l.map (eA c)):rT c (λi=>v.testBit ((wC c.length l l.length).getD i 0).toNat) u=v.testBit ((l.map (eA c)).idxOf u):=by
 obtain⟨j,hj,rfl⟩:=dU.1 hu;rw[Ej hC (hl j hj),H9 hC hl hj,BL (hl j hj),if_pos (List.idxOf_lt_length_of_mem hj),c7]
end
def uo(r:Int)(t:Tr):Prop:=if r=1 then pZ t else if r=2 then LM t else if r=3 then JB t else if r=4 then JE t else if r=5 then LP t else if r=6 then JD t else if r=7 then LK t else if r=8 then LN t else if r=9 then LO t else False
theorem nine{p:Int->Prop}(h:p 1/\p 2/\p 3/\p 4/\p 5/\p 6/\p 7/\p 8/\p 9){r:Int}(h1:1<=r)(h9:r<=9):p r:=by
 obtain⟨a1,a2,a3,a4,a5,a6,a7,a8,a9⟩:=h;rcases(by omega:r=1\/r=2\/r=3\/r=4\/r=5\/r=6\/r=7\/r=8\/r=9)with e|e|e|e|e|e|e|e|e<;>rw[e]<;>assumption
structure I1 (g:Nat) (fn:Int->ay) (w:aB):Prop where
  size:g<w.heap.size
  cell:∀r:Nat,1<=r->r<=9->w.cell? ⟨g,r,none⟩=some (.func (.func (fn r)) #[] #[])
theorem I1.ex{g:Nat}{fn:Int->ay}{w0 w:aB}{S:aq}(h:I1 g fn w0)(e:Ex S w0 w)(hS:g∉S:=by simp):I1 g fn w:=
 ⟨cX h.size e.size,λi h1 h9=>by rw[<-h.cell i h1 h9];exact World.cell?_of_block (e.block g h.size hS)⟩
structure LV where
  f:FV
  r:Int
  a:Int
  b:Int
  g:Int
def LV.cells(x:LV):ai:=[x.f.v,aS x.r,aS x.a,aS x.b,aS x.g]
structure LA (w:aB) (A:ae) (ls:List LV):Prop where
  at_:Sl w A (ls.flatMap LV.cells)
  fs:∀l∈ls,FA w l.f.a l.f.f/\l.f.f.length<=maxLen
theorem LA.eQ{w0 w:aB}{A:ae}{ls:List LV}(h:LA w0 A ls)(e:Ex [] w0 w):LA w A ls:=⟨Sl.ex h.at_ e aL,λl hl=>⟨(h.fs l hl).1.eQ e,(h.fs l hl).2⟩⟩
end Go.Proofs.Wit
