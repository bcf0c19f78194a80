/- Laws of walks, each under its own conditions. -/
import Derived.Test.YtpbhoidjmpjfpaaGreatDoorXP16
set_option maxRecDepth 100000
set_option maxHeartbeats 40000000
namespace Go.Proofs.Wit
open Go Go.RowKit
def Kg(ops:aj):Nat->Nat->Nat->Bool
 |0,_,_=>false
 |f+1,i,j=>(iX ops i).any (λe=>Nat.beq e j||Kg ops f e j)
structure SK (ops:aj) (rs:aq) (c:Nat) (ls:aq):Prop where
  size:c<ops.size
  XI:∀i∈rs,i<ops.size/\i≠c
  inc:∀q p,q<p->p<rs.length->rs.getD q 0<rs.getD p 0
  lt:∀i,i<ops.size->∀j∈iX ops i,j<i
  WY:∀i∈rs,∀j∈iX ops i,j∈rs
  Xi:∀j∈iX ops c,j∈rs
  Nb:∀i,(i=c\/i∈rs)->∀o,ops[i]?=some o->mq o.op=true
  inj:∀i j d,(i=c\/i∈rs)->(j=c\/j∈rs)->ik ops i=some d->ik ops j=some d->i=j
  S6:∀i,(i=c\/i∈rs)->∀o,ops[i]?=some o->∀s∈nL ops o,∀j,(j=c\/j∈rs)->ik ops j=some s->j∈iX ops i
  late:∀i,i<ops.size->¬(i=c\/i∈rs)->(∃j∈iX ops i,¬(j=c\/j∈rs))\/∀j,(j=c\/j∈rs)->Kg ops ops.size i j=true
  VM:forced ops (c::rs) ls=true
section
variable{P:av}{r:ah}{f:ay}{R:aC->aB->Prop}{w0:aB}{S:aq}{Y:List (Nat×Obj)}{n:Nat}{k:al}{l:Fl}{h:Hl}{ops:aj}
end
abbrev Nm:=List (Int×FV)
abbrev iq:Int->Int->Bool:=λa b=>a==b
theorem qQ{ν:Type}:∀{L:List (Int×ν)} {k:Int} {v:ν},iJ iq L k=some v->(k,v)∈L
 |[],_,_,h=>by cases h
 |(a,b)::L,k,v,h=>by
  rw[iJ]at h;split at h;rename_i hq;have:a=k:=(eq_of_beq hq).symm;cases h;rw[this];simp;exact cM _ (qQ h)
theorem pj{ν:Type}:∀{L:List (Int×ν)} {k:Int},iJ iq L k=none↔∀e∈L,e.1≠k
 |[],_=>by simp[iJ]
 |(a,b)::L,k=>by
  rw[iJ];split;rename_i hq;have:a=k:=(eq_of_beq hq).symm;simp[this];rename_i hq;have hne:a≠k:=by rintro rfl;exact hq (by simp[iq])
  rw[pj];constructor;intro h e he;rcases eH.1 he with rfl|he;exact hne;exact h e he;exact λh e he=>h e (cM _ he)
theorem y7{w:aB}{S:aq}(hm:∀b∈S,∃es k,w.heap[b]?=some (.map es k)){a:ae}{xs:ai}(h:Sl w a xs)(h0:0<xs.length):∀b o,a=some ⟨b,o,none⟩->b∉S:=λb o e hb=>by
 obtain⟨es,k,hm⟩:=hm b hb;have:=h.cell 0 h0;subst e;unfold tS World.cell? at this;simp only[Option.getD_some,hm]at this;cases this
theorem Sl.LY{w w':aB}{S:aq}(hm:∀b∈S,∃es k,w.heap[b]?=some (.map es k)){a:ae}{xs:ai}(h:Sl w a xs)(e:Ex S w w'):Sl w' a xs:=by
 by_cases h0:0<xs.length;exact h.ex e (y7 hm h h0);rw[aV (by omega:xs.length=0)];exact Sl.nil _ _
theorem FA.LY{w w':aB}{S:aq}(hm:∀b∈S,∃es k,w.heap[b]?=some (.map es k)){a:ae}{f:List NV}(h:FA w a f)(e:Ex S w w'):FA w' a f:=⟨Sl.LY hm h.at_ e⟩
section
variable{P:av}{r:ah}{f:ay}{R:aC->aB->Prop}{w0:aB}{S:aq}{Y:List (Nat×Obj)}{n:Nat}{k:al}{l:Fl}{hb:ah×Obj}{ht:Hl}{ops:aj}{c:Nat}{ls:aq}
end
abbrev re(m0:Nat)(L0:Nm)(m1:Nat)(L1:Nm):Hl:=[(some m0,nZ (Value.int .i64) FV.v L0),(some m1,nZ (Value.int .i64) FV.v L1)]
abbrev Ow(na:ae)(nl nc m0 m1:Nat):af:=#[.slice na nl nc,.map (some m0),.map (some m1)]
structure MY (c:List NV) (L0 L1:Nm):Prop where
  e0:∀e∈L0,∃k:Nat,e.1=(k:Int)/\e.2.f=bT (fC (fe c k)).1
  e1:∀e∈L1,∃k:Nat,e.1=(k:Int)/\e.2.f=bT (fC (fe c k)).2
def mx(t:ax)(L0 L1:Nm)(F:Hl)(x:FV):Prop:=x.In t F\/(∃k,(k,x)∈L0)\/∃k,(k,x)∈L1
structure jh (t:ax) (c:List NV) (d:Nat) (L0 L1 L0' L1':Nm) (F:Hl):Prop where
  rA:MY c L0' L1'
  s0:L0⊆L0'
  s1:L1⊆L1'
  n0:∀e∈L0',e∈L0\/(e.1<(d:Int)/\mx t L0 L1 F e.2)
  n1:∀e∈L1',e∈L1\/(e.1<(d:Int)/\mx t L0 L1 F e.2)
section
variable{t:ax}{c:List NV}
theorem mx.mono{L0 L1 L0' L1':Nm}{F F':Hl}{x:FV}(h:mx t L0 L1 F x)(s0:L0⊆L0')(s1:L1⊆L1')(hs:F⊆F'):mx t L0' L1' F' x:=
 h.imp (λh=>h.mono hs) (Or.imp (λ⟨k,h⟩=>⟨k,s0 h⟩) (λ⟨k,h⟩=>⟨k,s1 h⟩))
theorem mx.base{d:Nat}{L0 L1 L0' L1':Nm}{F:Hl}{x:FV}(h:jh t c d L0 L1 L0' L1' F)(g:mx t L0' L1' F x):mx t L0 L1 F x:=by
 rcases g with g|⟨k,g⟩|⟨k,g⟩;exact .inl g;rcases h.n0 _ g with h1|h1;exact .inr (.inl ⟨k,h1⟩);exact h1.2;rcases h.n1 _ g with h1|h1;exact .inr (.inr ⟨k,h1⟩);exact h1.2
theorem jh.refl{d:Nat}{L0 L1:Nm}(h:MY c L0 L1):jh t c d L0 L1 L0 L1 []:=⟨h,λ_ h=>h,λ_ h=>h,λ_ h=>.inl h,λ_ h=>.inl h⟩
theorem jh.mono{d d':Nat}{L0 L1 L0' L1':Nm}{F F':Hl}(h:jh t c d L0 L1 L0' L1' F)(hd:d<=d')(hs:F⊆F'):jh t c d' L0 L1 L0' L1' F':=
 ⟨h.rA,h.s0,h.s1,λe he=>(h.n0 e he).imp id (λh=>⟨aH,h.2.mono (λ_ h=>h) (λ_ h=>h) hs⟩),λe he=>(h.n1 e he).imp id (λh=>⟨aH,h.2.mono (λ_ h=>h) (λ_ h=>h) hs⟩)⟩
theorem jh.seq{d d':Nat}{L0 L1 L0' L1' L0'' L1'':Nm}{F F' H:Hl}(h:jh t c d L0 L1 L0' L1' F)(g:jh t c d' L0' L1' L0'' L1'' F')(hd:d'<=d)(h1:F⊆H)(h2:F'⊆H):jh t c d L0 L1 L0'' L1'' H:=by
 have hh:=h.mono (eR _) h1;have hb:∀{x:FV},mx t L0' L1' F' x->mx t L0 L1 H x:=λhx=>(hx.mono (λ_ h=>h) (λ_ h=>h) h2).base hh;refine⟨g.rA,λ_ hx=>g.s0 (h.s0 hx),λ_ hx=>g.s1 (h.s1 hx),λe he=>?_,λe he=>?_⟩;rcases g.n0 e he with h3|⟨h3,h4⟩;exact hh.n0 e h3;exact .inr ⟨aH,hb h4⟩;rcases g.n1 e he with h3|⟨h3,h4⟩;exact hh.n1 e h3;exact .inr ⟨aH,hb h4⟩
structure uL (t tn:ax) (c:List NV) (na:ae) (nc bk m0 m1:Nat) (w:aB) (L0 L1:Nm):Prop where
  has:mg w (re m0 L0 m1 L1)
  jd:w.heap[bk]?=some (.cells (Ow na c.length nc m0 m1) tn (0,0))
  fa:FA w na c
  f0:∀e∈L0,FA w e.2.a e.2.f
  f1:∀e∈L1,FA w e.2.a e.2.f
  rA:MY c L0 L1
variable{tn:ax}{na:ae}{nc bk m0 m1:Nat}{w:aB}{L0 L1:Nm}
theorem uL.maps(h:uL t tn c na nc bk m0 m1 w L0 L1):∀b∈[m0,m1],∃es k,w.heap[b]?=some (.map es k):=λb hb=>by
 simp only[eH,dO,eX]at hb;rcases hb with rfl|rfl;exact⟨_,_,(h.has.own _ aF _ rfl).1⟩;exact⟨_,_,(h.has.own _ (cM _ aF) _ rfl).1⟩
theorem uL.ne(h:uL t tn c na nc bk m0 m1 w L0 L1):bk∉[m0,m1]:=λhb=>by
 obtain⟨es,k,hm⟩:=h.maps bk hb;rw[h.jd]at hm;cases hm
theorem mx.fa{w' w0:aB}{S:aq}{h:Hl}{Y:List (Nat×Obj)}{d:Nat}{L0' L1':Nm}{F:Hl}{x:FV}(g:mx t L0' L1' F x)(hp:uL t tn c na nc bk m0 m1 w L0 L1)(gr:jh t c d L0 L1 L0' L1' F)(e:Ex [m0,m1] w w')(s:St w0 S w' h Y)(hs:F⊆h):FA w' x.a x.f:=by
 rcases g.base gr with g|⟨k,g⟩|⟨k,g⟩;exact(g.mono hs).at s;exact(hp.f0 _ g).LY hp.maps e;exact(hp.f1 _ g).LY hp.maps e
theorem uL.step{w':aB}{h:Hl}{Y:List (Nat×Obj)}{L0' L1':Nm}{F:Hl}{d:Nat}(g:uL t tn c na nc bk m0 m1 w L0 L1)(s:St w [m0,m1] w' h Y)(hs:(re m0 L0' m1 L1').Sublist h)(hF:F⊆h)(gr:jh t c d L0 L1 L0' L1' F):uL t tn c na nc bk m0 m1 w' L0' L1':=
  ⟨(s.js hs).has,by rw[s.ext.block bk (aX.1 g.jd).1 g.ne];exact g.jd,g.fa.LY g.maps s.ext,
   λe he=>mx.fa (x:=e.2) (.inr (.inl ⟨e.1,he⟩)) g gr s.ext s hF,λe he=>mx.fa (x:=e.2) (.inr (.inr ⟨e.1,he⟩)) g gr s.ext s hF,gr.rA⟩
def pn(no:Bool)(p:Tr×Tr):Tr:=if no then p.2 else p.1
def qF(t:ax)(c:List NV)(m0 m1 d:Nat)(u:Tr)(L0 L1:Nm)(v:aC)(h':Hl):Prop:=
 ∃fv L0' L1' F,v=FV.v fv/\h'=re m0 L0' m1 L1'++F/\jh t c d L0 L1 L0' L1' F/\fv.f=bT u/\mx t L0' L1' F fv
end
section
variable{P:av}{r:ah}{f:ay}{R:aC->aB->Prop}{w0:aB}{Y:List (Nat×Obj)}{n:Nat}{k:al}{l:Fl}{hb:ah×Obj}{ops:aj}{i d:Nat}{rest:aq}{ty:ax}{pos:aA}{aft:ak}{g:Option (Nat×Bool)}
variable{az:aa}{ts:ab}{cal:au}{gf:ay}{vs:ai}{t tn:ax}{c:List NV}{na:ae}{nc bk m0 m1 D D':Nat}{L0 L1 La Lb:Nm}{F:Hl}{u:Tr}
theorem xR{A B:Hl}:(hb::(A++B)).Perm (A++(hb::B)):=dP.symm
theorem GP{A B C:Hl}:((A++B)++(hb::C)).Perm (hb::(A++(B++C))):=by
 rw[<-dA];exact dP
theorem ff.vk(hp:uL t tn c na nc bk m0 m1 w0 L0 L1)(gr:jh t c D L0 L1 La Lb F)(hj:D'<=D)(ho:ops[i]?=some ⟨some d,.call ⟨.value cal,az,ts⟩,ty,pos,aft,g⟩)(hw:fE ops l g=true)
  (hc:fW l cal=some (.func (.func gf) #[] #[]))(hx:iW l az.toList=some vs)(hd:Nat.blt d n=true)(hcf:∀args w,(callFunc gf args).run P w=.ok (.enter gf args) w)
  (hof:∀w L0 L1,uL t tn c na nc bk m0 m1 w L0 L1->wX P gf vs w (re m0 L0 m1 L1) (qF t c m0 m1 D' u L0 L1))
  (hk:∀fv La' Lb' F',jh t c D L0 L1 La' Lb' F'->(∀x,mx t La Lb F x->mx t La' Lb' F' x)->fv.f=bT u->mx t La' Lb' F' fv->ff P r f R w0 [m0,m1] Y n (.inRegion ops rest::k) ((d,fv.v)::l) (hb::(re m0 La' m1 Lb'++F'))):
  ff P r f R w0 [m0,m1] Y n (.inRegion ops (i::rest)::k) l (hb::(re m0 La m1 Lb++F)):=by
 refine jI (h':=re m0 La m1 Lb++(hb::F)) xR ?_;refine ff.nQ (h:=re m0 La m1 Lb) (hF:=hb::F) (fs:=[]) (cs:=[]) (λ_=>qF t c m0 m1 D' u La Lb) ho hw hc hx hd hcf (λw Y' hS=>?_) (λw v h' hR=>?_);rw[eh,dW];exact hof w _ _ (hp.step hS (bP _ _) (λ_ h=>cD _ (cM _ h)) gr);obtain⟨fv,La',Lb',F2,rfl,rfl,g2,hf,hh⟩:=hR;refine jI (h':=hb::(re m0 La' m1 Lb'++(F2++F))) GP ?_;exact hk fv La' Lb' (F2++F) (gr.seq g2 hj (bQ _ _) (List.subset_append_left _ _)) (λx hx=>hx.mono g2.s0 g2.s1 (bQ _ _)) hf (hh.mono (λ_ h=>h) (λ_ h=>h) (List.subset_append_left _ _))
theorem ff.BX(gr:jh t c D L0 L1 La Lb F)(ho:ops[i]?=some ⟨some d,.call ⟨.value cal,az,ts⟩,ty,pos,aft,g⟩)(hw:fE ops l g=true)
  (hc:fW l cal=some (.func (.func gf) #[] #[]))(hx:iW l az.toList=some vs)(hd:Nat.blt d n=true)(hcf:∀args w,(callFunc gf args).run P w=.ok (.enter gf args) w)
  (hcall:∀w Y',St w0 [m0,m1] w (hb::(re m0 La m1 Lb++F)) Y'->Cn P gf vs w (λv w'=>fQ t w w' v (bT u)))
  (hk:∀fv F',jh t c D L0 L1 La Lb F'->(∀x,mx t La Lb F x->mx t La Lb F' x)->fv.f=bT u->mx t La Lb F' fv->ff P r f R w0 [m0,m1] Y n (.inRegion ops rest::k) ((d,fv.v)::l) (hb::(re m0 La m1 Lb++F'))):
  ff P r f R w0 [m0,m1] Y n (.inRegion ops (i::rest)::k) l (hb::(re m0 La m1 Lb++F)):=by
 refine ff.vM (λw v w'=>fQ t w w' v (bT u)) ho hw hc hx hd hcf hcall (λv w w' Y' hS he hO=>?_);obtain⟨q,cap,sp,rfl,hq,fB,hS'⟩:=fR hS he hO;have hpm:((q,jR t (bT u) sp)::hb::(re m0 La m1 Lb++F)).Perm (hb::(re m0 La m1 Lb++((q,jR t (bT u) sp)::F))):=
  (List.Perm.swap _ _ _).trans (List.Perm.cons _ xR);refine⟨_,hS'.perm hpm,?_⟩;have e1:gx q (bT u).length cap=FV.v ⟨q.map aP,cap,bT u⟩:=by cases q<;>rfl
 rw[e1];exact hk _ _ (gr.mono (eR _) (cI _ _)) (λx hx=>hx.mono (λ_ h=>h) (λ_ h=>h) (cI _ _)) rfl (.inl ⟨q,sp,aF,rfl,hq,fB⟩)
theorem rX{w':aB}{fv:FV}(gr:jh t c D L0 L1 La Lb F)(hf:fv.f=bT u)(hh:mx t La Lb F fv)(hS:St w0 [m0,m1] w' (hb::(re m0 La m1 Lb++F)) []):∃h',qF t c m0 m1 D u L0 L1 fv.v h'/\St w0 [m0,m1] w' h' []:=
 ⟨_,⟨fv,La,Lb,F,rfl,rfl,gr,hf,hh⟩,hS.js (List.sublist_cons_self _ _)⟩
end
theorem jh.We{t:ax}{c:List NV}{i:Nat}{L0 L1 La Lb:Nm}{F:Hl}{fv:FV}(g:jh t c i L0 L1 La Lb F)(hf:fv.f=bT (fC (fe c i)).1)(hh:mx t La Lb F fv):jh t c (i+1) L0 L1 (La++[((i:Int),fv)]) Lb F:=
 ⟨⟨λe he=>by
  rcases ed.1 he with he|he;exact g.rA.e0 e he;rw[dn.1 he];exact⟨i,rfl,hf⟩,g.rA.e1⟩,λ_ h=>cK _ (g.s0 h),g.s1,λe he=>by
  rcases ed.1 he with he|he;exact(g.n0 e he).imp id (λh=>⟨aH,h.2⟩);rw[dn.1 he];exact .inr ⟨by simp only[];omega,hh.base g⟩,λe he=>(g.n1 e he).imp id (λh=>⟨aH,h.2⟩)⟩
theorem jh.Wd{t:ax}{c:List NV}{i:Nat}{L0 L1 La Lb:Nm}{F:Hl}{fv:FV}(g:jh t c i L0 L1 La Lb F)(hf:fv.f=bT (fC (fe c i)).2)(hh:mx t La Lb F fv):jh t c (i+1) L0 L1 La (Lb++[((i:Int),fv)]) F:=
 ⟨⟨g.rA.e0,λe he=>by
  rcases ed.1 he with he|he;exact g.rA.e1 e he;rw[dn.1 he];exact⟨i,rfl,hf⟩⟩,g.s0,λ_ h=>cK _ (g.s1 h),λe he=>(g.n0 e he).imp id (λh=>⟨aH,h.2⟩),λe he=>by
  rcases ed.1 he with he|he;exact(g.n1 e he).imp id (λh=>⟨aH,h.2⟩);rw[dn.1 he];exact .inr ⟨by simp only[];omega,hh.base g⟩⟩
def AZ(sl:aC)(ms:aq):af:=#[sl,.map ms[0]?,.map ms[1]?]
theorem IS{sl:aC}{ms:aq}{b:Nat}(h:ms.length<2):(AZ sl ms).setIfInBounds (1+ms.length) (.map (some b))=AZ sl (ms++[b]):=by
 rcases ms with _|⟨a,_|⟨b,l⟩⟩;rfl;rfl;simp only[dM]at h;omega
theorem QR{ms:aq}(h:ms.length=2):∃a b,ms=[a,b]:=by
 rcases ms with _|⟨a,_|⟨b,_|⟨c,l⟩⟩⟩;cases h;cases h;exact⟨a,b,rfl⟩;simp only[dM]at h;omega
theorem wj(p:Tr×Tr):pn true p=p.2:=rfl
theorem Aq(p:Tr×Tr):pn false p=p.1:=rfl
theorem fO{f:List NV}{t:Tr}(h:f=bT t):f.length<=maxLen:=by
 rw[h];have:=Qw t;unfold maxLen;omega
theorem Rm{op i e g:Int}{a:Tr}(h:op≠4):(fC (.un op i e g a)).1=.un op i e g (fC a).1:=by
 rw[fC,if_neg h];split;rfl;split<;>rfl
theorem Ou{op i e g:Int}{a b:Tr}(h7:op≠7)(h8:op≠8):(fC (.bin op i e g a b)).1=.bin op i e g (fC a).1 (fC b).1:=by
 rw[fC];split;rfl;split;rfl;rfl
def pM(op:Int):Bool:=op==3||decide (8<op)
def tR(op:Int)(x y:Bool):Bool:=if op=1 then true else if op=4 then !x else if op=5 then x && y else if op=6 then x||y else if op=7 then !x||y else if op=8 then x==y else false
def iC(r:Tr->Bool):Tr->Bool
 |.leaf op i e g=>if pM op=true then r (.leaf op i e g)else tR op false false
 |.un op i e g a=>if pM op=true then r (.un op i e g a)else tR op (iC r a) false
 |.bin op i e g a b=>if pM op=true then r (.bin op i e g a b)else tR op (iC r a) (iC r b)
def rS:Tr->List Tr
 |.leaf op i e g=>if pM op=true then [.leaf op i e g]else []
 |.un op i e g a=>if pM op=true then [.un op i e g a]else rS a
 |.bin op i e g a b=>if pM op=true then [.bin op i e g a b]else rS a++rS b
theorem vG{r r':Tr->Bool}:∀{t:Tr},(∀u∈rS t,r u=r' u)->iC r t=iC r' t
 |.leaf op i e g,h=>by
  unfold iC rS at*;split;rename_i hl;rw[if_pos hl]at h;exact h _ aF;rfl
 |.un op i e g a,h=>by
  unfold rS at h;unfold iC;split;rename_i hl;rw[if_pos hl]at h;exact h _ aF;rename_i hl;rw[if_neg hl]at h;rw[vG h]
 |.bin op i e g a b,h=>by
  unfold rS at h;unfold iC;split;rename_i hl;rw[if_pos hl]at h;exact h _ aF;rename_i hl;rw[if_neg hl]at h;rw[vG (t:=a) (λu hu=>h u (cK _ hu)),vG (t:=b) (λu hu=>h u (cD _ hu))]
def te(t:Tr):Prop:=(∃l:List Tr,l.Nodup/\(∀u,u∈l↔u∈rS t)/\l.length<=10)/\∀r:Tr->Bool,iC r t=true
theorem ND{t:Tr}{l:List Tr}(hn:l.Nodup)(hm:∀u,u∈l↔u∈rS t):te t↔l.length<=10/\∀r:Tr->Bool,iC r t=true:=by
 constructor;rintro ⟨⟨l',hn',hm',hl'⟩,h⟩;have:=hn.length_le_of_subset (λu hu=>(hm' u).2 ((hm u).1 hu):l⊆l');exact⟨aH,h⟩;rintro ⟨h1,h2⟩;exact⟨⟨l,hn,hm,h1⟩,h2⟩
theorem HS(b:Nat->Bool):∀n:Nat,∃v,v<2^n/\∀k,k<n->v.testBit k=b k
 |0=>⟨0,aI,λk hk=>absurd hk (ew _)⟩
 |n+1=>by
  obtain⟨v,hv,h⟩:=HS b n;cases hb:b n with
  |false=>
   refine⟨v,by rw[Nat.pow_succ];omega,λk hk=>?_⟩;by_cases e:k=n;subst e;rw[hb];exact cm hv;exact h k aH
  |true=>
   refine⟨2^n+v,by rw[Nat.pow_succ];omega,λk hk=>?_⟩;by_cases e:k=n;subst e;rw[hb,Nat.testBit_two_pow_add_eq,cm hv];rfl;rw[Nat.testBit_two_pow_add_gt aH];exact h k aH
theorem J0{t:Tr}{l:List Tr}(hm:∀u,u∈l↔u∈rS t){R:Nat->Tr->Bool}(hR:∀v u,u∈l->R v u=v.testBit (l.idxOf u)):(∀r:Tr->Bool,iC r t=true)↔∀v,v<2^l.length->iC (R v) t=true:=by
 constructor;exact λh v _=>h _;intro h r;obtain⟨v,hv,hb⟩:=HS (λk=>r (l.getD k (.leaf 0 0 0 0))) l.length;rw[<-h v hv];refine vG (λu hu=>?_);have hul:=(hm u).2 hu;have hlt:=List.idxOf_lt_length_of_mem hul;rw[hR v u hul,hb _ hlt];simp[hlt,List.getElem_idxOf]
abbrev sB(s:ao)(j:Nat):Bool:=s.getD j false
structure Lv (c:List NV) (i:Nat) (s:ao) (o:ar) (s':ao) (o':ar):Prop where
  len:s'.length=s.length
  mono:∀j,sB s j=true->sB s' j=true
  self:sB s' i=true
  new:∀(j:Nat),sB s' j=true->sB s j=false->∃hj:j<c.length,(pM c[j].op=true->fe c j∈rS (fe c i))/\(pM c[j].op=false->(ji c[j].op=true->sB s' c[j].x.toNat=true)/\(iM c[j].op=true->sB s' c[j].y.toNat=true))
  out:∃l:aq,o'=o++l.map (λj:Nat=>(j:Int))/\l.Nodup/\∀j,j∈l↔(sB s' j=true/\sB s j=false/\∃hj:j<c.length,pM c[j].op=true)
theorem BH{s:ao}{i j:Nat}(hi:i<s.length):sB (s.set i true) j=if j=i then true else sB s j:=by
 unfold sB;by_cases e:j=i;subst e;simp[hi];rw[if_neg e];simp[Ne.symm e]
theorem xQ{s:ao}{i j:Nat}(hi:i<s.length)(h:sB s j=true):sB (s.set i true) j=true:=by
 rw[BH hi];split;rfl;exact h
section
variable{c:List NV}{i:Nat}{s s1 s2 s3:ao}{o o2 o3:ar}
theorem Lv.seen(h:sB s i=true):Lv c i s o s o:=
 ⟨rfl,λ_ h=>h,h,λj h1 h2=>(by rw[h1]at h2;cases h2),[],by simp,eE,λj=>⟨λh=>(by cases h),λ⟨h1,h2,_⟩=>by rw[h1]at h2;cases h2⟩⟩
theorem Es{t:Tr}(h:pM (l9 t)=true):rS t=[t]:=by
 cases t<;>exact if_pos h
theorem Lv.leaf(hi:i<c.length)(hO:fT c)(hs:s.length=c.length)(h0:sB s i=false)(hl:pM c[i].op=true):Lv c i s o (s.set i true) (o++[(i:Int)]):=by
 have kz:∀j,sB (s.set i true) j=if j=i then true else sB s j:=λj=>BH aH;have ht:l9 (fe c i)=c[i].op:=tv hi hO;refine⟨by simp,λj h=>xQ aH h,by rw[kz];simp,λj h1 h2=>?_,[i],by simp,by simp,λj=>?_⟩;rw[kz]at h1;by_cases e:j=i;subst e;exact⟨hi,λ_=>by rw[Es (by rw[ht];exact hl)];exact aF,λh=>(by rw[hl]at h;cases h)⟩;rw[if_neg e,h2]at h1;cases h1;rw[kz,dn];constructor;rintro rfl;exact⟨by simp,h0,hi,hl⟩;rintro ⟨h1,h2,_⟩;by_cases e:j=i;exact e;rw[if_neg e,h2]at h1;cases h1
theorem Lv.node(hi:i<c.length)(hs:s.length=c.length)(h0:sB s i=false)(hl:pM c[i].op=false)
  (hA:(ji c[i].op=true/\Lv c c[i].x.toNat (s.set i true) o s2 o2/\∀u∈rS (fe c c[i].x.toNat),u∈rS (fe c i))\/(ji c[i].op=false/\s2=s.set i true/\o2=o))
  (hB:(iM c[i].op=true/\Lv c c[i].y.toNat s2 o2 s3 o3/\∀u∈rS (fe c c[i].y.toNat),u∈rS (fe c i))\/(iM c[i].op=false/\s3=s2/\o3=o2)):Lv c i s o s3 o3:=by
 have kz:∀j,sB (s.set i true) j=if j=i then true else sB s j:=λj=>BH aH;have l2:s2.length=s.length:=by
  rcases hA with⟨_,h,_⟩|⟨_,h,_⟩;rw[h.len];simp;rw[h];simp
 have m2:∀j,sB (s.set i true) j=true->sB s2 j=true:=λj h=>by
  rcases hA with⟨_,h',_⟩|⟨_,h',_⟩;exact h'.mono j h;rw[h'];exact h
 have l3:s3.length=s.length:=by
  rcases hB with⟨_,h,_⟩|⟨_,h,_⟩;rw[h.len,l2];rw[h,l2]
 have m3:∀j,sB s2 j=true->sB s3 j=true:=λj h=>by
  rcases hB with⟨_,h',_⟩|⟨_,h',_⟩;exact h'.mono j h;rw[h'];exact h
 have i1:sB (s.set i true) i=true:=by rw[kz];simp
 have hx:ji c[i].op=true->sB s2 c[i].x.toNat=true:=λh=>by
  rcases hA with⟨_,h',_⟩|⟨h',_⟩;exact h'.self;rw[h]at h';cases h'
 have hy:iM c[i].op=true->sB s3 c[i].y.toNat=true:=λh=>by
  rcases hB with⟨_,h',_⟩|⟨h',_⟩;exact h'.self;rw[h]at h';cases h'
 have n2:∀j,sB s2 j=true->sB (s.set i true) j=false->∃hj:j<c.length,(pM c[j].op=true->fe c j∈rS (fe c i))/\(pM c[j].op=false->(ji c[j].op=true->sB s2 c[j].x.toNat=true)/\(iM c[j].op=true->sB s2 c[j].y.toNat=true)):=λj h1 h2=>by
  rcases hA with⟨_,h',hsub⟩|⟨_,h',_⟩;obtain⟨hj,k1,k2⟩:=h'.new j h1 h2;exact⟨hj,λh=>hsub _ (k1 h),k2⟩;rw[h',h2]at h1;cases h1
 have n3:∀j,sB s3 j=true->sB s2 j=false->∃hj:j<c.length,(pM c[j].op=true->fe c j∈rS (fe c i))/\(pM c[j].op=false->(ji c[j].op=true->sB s3 c[j].x.toNat=true)/\(iM c[j].op=true->sB s3 c[j].y.toNat=true)):=λj h1 h2=>by
  rcases hB with⟨_,h',hsub⟩|⟨_,h',_⟩;obtain⟨hj,k1,k2⟩:=h'.new j h1 h2;exact⟨hj,λh=>hsub _ (k1 h),k2⟩;rw[h',h2]at h1;cases h1
 obtain⟨la,ea,na,ma⟩:∃l:aq,o2=o++l.map (λj:Nat=>(j:Int))/\l.Nodup/\∀j,j∈l↔(sB s2 j=true/\sB (s.set i true) j=false/\∃hj:j<c.length,pM c[j].op=true):=by
  rcases hA with⟨_,h',_⟩|⟨_,h',e⟩;exact h'.out;exact⟨[],by simp[e],eE,λj=>⟨λh=>(by cases h),λ⟨k1,k2,_⟩=>by rw[h',k2]at k1;cases k1⟩⟩
 obtain⟨lb,eb,nb,mb⟩:∃l:aq,o3=o2++l.map (λj:Nat=>(j:Int))/\l.Nodup/\∀j,j∈l↔(sB s3 j=true/\sB s2 j=false/\∃hj:j<c.length,pM c[j].op=true):=by
  rcases hB with⟨_,h',_⟩|⟨_,h',e⟩;exact h'.out;exact⟨[],by simp[e],eE,λj=>⟨λh=>(by cases h),λ⟨k1,k2,_⟩=>by rw[h',k2]at k1;cases k1⟩⟩
 refine⟨l3,λj h=>m3 j (m2 j (xQ aH h)),m3 i (m2 i i1),λj h1 h2=>?_,la++lb,by rw[eb,ea,ec,dA],dC.2 ⟨na,nb,λa h1 b h2 e=>?_⟩,λj=>?_⟩;by_cases e:j=i;subst e;exact⟨hi,λh=>(by rw[hl]at h;cases h),λ_=>⟨λh=>m3 _ (hx h),hy⟩⟩;cases h3:sB s2 j with
 |false=>exact n3 j h1 h3
 |true=>
  obtain⟨hj,k1,k2⟩:=n2 j h3 (by rw[kz,if_neg e];exact h2);exact⟨hj,k1,λh=>⟨λh'=>m3 _ ((k2 h).1 h'),λh'=>m3 _ ((k2 h).2 h')⟩⟩
 subst e;have k1:=((ma a).1 h1).1;have k2:=((mb a).1 h2).2.1;rw[k1]at k2;cases k2;rw[ed,ma,mb];constructor;rintro (⟨k1,k2,k3⟩|⟨k1,k2,k3⟩);refine⟨m3 j k1,?_,k3⟩;rw[kz]at k2;split at k2;cases k2;exact k2;refine⟨k1,?_,k3⟩;cases h:sB s j with
 |false=>rfl
 |true=>
  have:=m2 j (xQ aH h);rw[this]at k2;cases k2
 rintro ⟨k1,k2,k3⟩;have hji:j≠i:=λe=>by
  subst e;obtain⟨_,h⟩:=k3;rw[hl]at h;cases h
 cases h3:sB s2 j with
 |true=>exact .inl ⟨rfl,by rw[kz,if_neg hji];exact k2,k3⟩
 |false=>exact .inr ⟨k1,rfl,k3⟩
theorem Lv.done(hO:fT c)(_hi:i<c.length)(h:Lv c i (List.replicate c.length false) [] s3 o3):∃l:aq,o3=l.map (λj:Nat=>(j:Int))/\l.Nodup/\(∀j∈l,j<c.length)/\∀u,u∈l.map (fe c)↔u∈rS (fe c i):=by
 obtain⟨l,e,hn,hm⟩:=h.out;have h0:∀j,sB (List.replicate c.length false) j=false:=λj=>by
  unfold sB;rw[aY,List.getElem?_replicate];split<;>rfl
 have key:∀j,sB s3 j=true->∀u∈rS (fe c j),u∈l.map (fe c):=by
  intro j
  induction j using Nat.strongRecOn with
  |_ j ih=>
   intro hj u hu;obtain⟨hjl,k1,k2⟩:=h.new j hj (h0 j);have ht:l9 (fe c j)=c[j].op:=tv hjl hO;cases hl:pM c[j].op with
   |true=>
    rw[Es (by rw[ht];exact hl),dn]at hu;rw[hu];exact c7 ((hm j).2 ⟨hj,h0 j,hjl,hl⟩)
   |false=>
    obtain⟨kx,ky⟩:=k2 hl;have hord:=hO.ord j hjl;rcases jv hjl hO with⟨h1,h2⟩|⟨h1,h1',h2⟩|⟨h1,h2⟩;rw[h2]at hu;unfold rS at hu;rw[hl]at hu;cases hu;rw[h2]at hu;unfold rS at hu;rw[hl]at hu;have hx:=hord.1 h1;exact ih _ aH (kx h1) u hu;rw[h2]at hu;unfold rS at hu;rw[hl]at hu;have hx:=hord.1 (jL h1);have hy:=hord.2 h1;rcases ed.1 hu with hu|hu;exact ih _ aH (kx (jL h1)) u hu;exact ih _ aH (ky h1) u hu
 refine⟨l,by rw[e];rfl,hn,λj hj=>by obtain⟨_,_,hj',_⟩:=(hm j).1 hj;exact hj',λu=>⟨λhu=>?_,key i h.self u⟩⟩;obtain⟨j,hj,rfl⟩:=eL.1 hu;obtain⟨k1,k2,hj',k3⟩:=(hm j).1 hj;obtain⟨_,k4,_⟩:=h.new j k1 k2;exact k4 k3
end
theorem Hw{c:List NV}{k:Nat}{r:Tr->Bool}(hk:k<c.length)(hO:fT c)(hl:pM c[k].op=true):iC r (fe c k)=r (fe c k):=by
 have ht:l9 (fe c k)=c[k].op:=tv hk hO;rw[<-ht]at hl;generalize fe c k=t at hl;cases t<;>exact if_pos hl
theorem Pb{c:List NV}{k:Nat}{r:Tr->Bool}{bx bY:Bool}(hk:k<c.length)(hO:fT c)(hl:pM c[k].op=false)(hx:ji c[k].op=true->bx=iC r (fe c c[k].x.toNat))(hy:iM c[k].op=true->bY=iC r (fe c c[k].y.toNat)):
  tR c[k].op bx bY=iC r (fe c k):=by
 have hop:=(hO k hk).op;have hc:(1<=c[k].op/\c[k].op<=8)/\c[k].op≠3:=by
  unfold pM at hl;simp only[Bool.or_eq_false_iff,bV,c9]at hl;omega
 rcases jv hk hO with⟨h1,h2⟩|⟨h1,h1',h2⟩|⟨h1,h2⟩;rw[h2];unfold iC;rw[if_neg (by rw[hl];simp)];rw[ri hop,bV]at h1;have:c[k].op=1\/c[k].op=2:=aH;rcases this with h|h<;>rw[h]<;>rfl
 ·rw[h2]
  unfold iC;rw[if_neg (by rw[hl];simp),hx h1];have:c[k].op=4:=by
   rcases(by omega:c[k].op=1\/c[k].op=2\/c[k].op=4\/c[k].op=5\/c[k].op=6\/c[k].op=7\/c[k].op=8)with h|h|h|h|h|h|h;rw[h]at h1;cases h1;rw[h]at h1;cases h1;exact h
   all_goals rw[h]at h1';cases h1'
  rw[this];rfl
 rw[h2]
 conv=>rhs;unfold iC
 rw[if_neg (by rw[hl];simp),hx (jL h1),hy h1]
theorem OJ{c:List NV}{k:Nat}(hk:k<c.length)(hO:fT c)(hl:pM c[k].op=false):(ji c[k].op=true->∀u∈rS (fe c c[k].x.toNat),u∈rS (fe c k))/\(iM c[k].op=true->∀u∈rS (fe c c[k].y.toNat),u∈rS (fe c k)):=by
 rcases jv hk hO with⟨h1,h2⟩|⟨h1,h1',h2⟩|⟨h1,h2⟩;exact⟨λh=>(by rw[h1]at h;cases h),λh=>(by have:=jL h;rw[h1]at this;cases this)⟩;refine⟨λ_ u hu=>?_,λh=>(by rw[h1']at h;cases h)⟩;rw[h2];unfold rS;rw[if_neg (by rw[hl];simp)];exact hu;refine⟨λ_ u hu=>?_,λ_ u hu=>?_⟩<;>rw[h2]<;>unfold rS<;>rw[if_neg (by rw[hl];simp)]
 exact cK _ hu;exact cD _ hu
def rT(c:List NV)(b:Nat->Bool)(u:Tr):Bool:=b ((trees c).idxOf u)
theorem Kh{c:List NV}(hC:pP c){b:Nat->Bool}{k:Nat}(hk:k<c.length):rT c b (fe c k)=b k:=by
 have hn:(trees c).Nodup:=by rw[hC.trees];exact(kp _).nd
 unfold rT;have hk':k<(trees c).length:=by rw[gL];exact hk
 rw[kl hk,hn.idxOf_getElem k hk']
def vV(c:List NV)(s:ao)(o:ar):Prop:=∃l:aq,o=l.map (λj:Nat=>(j:Int))/\l.Nodup/\∀j∈l,sB s j=true/\j<c.length
theorem vV.nil{c:List NV}{s:ao}:vV c s []:=⟨[],rfl,eE,λ_ h=>by cases h⟩
theorem vV.le{c:List NV}{s:ao}{o:ar}(h:vV c s o):o.length<=c.length:=by
 obtain⟨l,rfl,hn,hm⟩:=h;have:=hn.length_le_of_subset (λj hj=>eD.2 (hm j hj).2:l⊆List.range c.length);simpa using this
theorem vV.set{c:List NV}{s:ao}{o:ar}{i:Nat}(h:vV c s o)(hi:i<s.length):vV c (s.set i true) o:=by
 obtain⟨l,e,hn,hm⟩:=h;exact⟨l,e,hn,λj hj=>⟨xQ hi (hm j hj).1,(hm j hj).2⟩⟩
theorem vV.go{c:List NV}{i:Nat}{s s':ao}{o o':ar}(h:vV c s o)(g:Lv c i s o s' o'):vV c s' o':=by
 obtain⟨l,rfl,hn,hm⟩:=h;obtain⟨l2,rfl,hn2,hm2⟩:=g.out;refine⟨l++l2,by rw[ec],dC.2 ⟨hn,hn2,λa h1 b h2 e=>?_⟩,λj hj=>?_⟩;subst e;have k1:=(hm a h1).1;have k2:=((hm2 a).1 h2).2.1;rw[k1]at k2;cases k2;rcases ed.1 hj with hj|hj;exact⟨g.mono j (hm j hj).1,(hm j hj).2⟩;obtain⟨k1,_,k3,_⟩:=(hm2 j).1 hj;exact⟨k1,k3⟩
def Au(L:Nat)(l:aq)(k:Nat):ar:=(List.range L).map (λi=>if l.idxOf i<k then(l.idxOf i:Int)else 0)
theorem GW{L k:Nat}{l:aq}:(Au L l k).length=L:=by simp[Au]
theorem KH{L:Nat}{l:aq}:Au L l 0=List.replicate L 0:=by
 apply dK (by simp[Au]);intro i h1 h2;simp[Au]
theorem GX{L k i:Nat}{l:aq}(hi:i<L):(Au L l k).getD i 0=if l.idxOf i<k then(l.idxOf i:Int)else 0:=by simp[Au,hi]
theorem Ov{L k:Nat}{l:aq}(hn:l.Nodup)(hk:k<l.length):(Au L l k).set l[k] (k:Int)=Au L l (k+1):=by
 have hx:l.idxOf l[k]=k:=hn.idxOf_getElem k hk;apply dK (by simp[Au]);intro i h1 h2;rw[List.getElem_set];by_cases e:l[k]=i;subst e;rw[if_pos rfl];simp[Au,hx];rw[if_neg e];have hne:l.idxOf i≠k:=λh=>by
  have hlt:l.idxOf i<l.length:=aH;have:=List.getElem_idxOf hlt;apply e;rw[<-this]
  congr 1
  exact h.symm
 simp only[Au,List.getElem_map,List.getElem_range];by_cases h:l.idxOf i<k;rw[if_pos h,if_pos aH];rw[if_neg h,if_neg aH]
section
variable{c:List NV}{l:aq}
theorem yF(hC:pP c){i j:Nat}(hi:i<c.length)(hj:j<c.length)(e:fe c i=fe c j):i=j:=by
 have hn:(trees c).Nodup:=by rw[hC.trees];exact(kp _).nd
 rw[kl hi,kl hj]at e;exact(List.getElem_inj hn).1 e
theorem KU(hC:pP c)(hn:l.Nodup)(hl:∀j∈l,j<c.length):(l.map (fe c)).Nodup:=by
 induction l with
 |nil=>exact eE
 |cons a l ih=>
  rw[ej]at hn;rw[eG,ej];refine⟨λh=>?_,ih hn.2 (λj hj=>hl j (by simp[hj]))⟩;obtain⟨j,hj,e⟩:=eL.1 h;have:=yF hC (hl j (by simp[hj])) (hl a aL) e;exact hn.1 (this ▸ hj)
theorem O0(hC:pP c)(hl:∀j∈l,j<c.length){j:Nat}(hj:j∈l):(l.map (fe c)).idxOf (fe c j)=l.idxOf j:=by
 induction l with
 |nil=>cases hj
 |cons a l ih=>
  rw[eG,List.idxOf_cons,List.idxOf_cons];by_cases e:a=j;subst e;simp;have hne:¬fe c a=fe c j:=λh=>e (yF hC (hl a aL) (hl j hj) h);have hj2:j∈l:=by
   rcases eH.1 hj with h|h;exact absurd h.symm e;exact h
  have h1:(fe c a==fe c j)=false:=c9.2 hne;have h2:(a==j)=false:=c9.2 e;rw[h1,h2,ih (λj hj=>hl j (by simp[hj])) hj2]
theorem N5(hC:pP c)(hl:∀j∈l,j<c.length)(v:Nat)(u:Tr)(hu:u∈l.map (fe c)):rT c (λi=>v.testBit ((Au c.length l l.length).getD i 0).toNat) u=v.testBit ((l.map (fe c)).idxOf u):=by
 obtain⟨j,hj,rfl⟩:=eL.1 hu;rw[Kh hC (hl j hj),O0 hC hl hj,GX (hl j hj),if_pos (List.idxOf_lt_length_of_mem hj),dy]
end
def uo(r:Int)(t:Tr):Prop:=if r=1 then te t else if r=2 then SO t else if r=3 then QG t else if r=4 then QI t else if r=5 then SU t else if r=6 then QH t else if r=7 then SN t else if r=8 then SQ t else if r=9 then SS t else False
theorem nine{p:Int->Prop}(h:p 1/\p 2/\p 3/\p 4/\p 5/\p 6/\p 7/\p 8/\p 9){r:Int}(h1:1<=r)(h9:r<=9):p r:=by
 obtain⟨a1,a2,a3,a4,a5,a6,a7,a8,a9⟩:=h;rcases(by omega:r=1\/r=2\/r=3\/r=4\/r=5\/r=6\/r=7\/r=8\/r=9)with e|e|e|e|e|e|e|e|e<;>rw[e]<;>assumption
structure P1 (g:Nat) (fn:Int->ay) (w:aB):Prop where
  size:g<w.heap.size
  cell:∀r:Nat,1<=r->r<=9->w.cell? ⟨g,r,none⟩=some (.func (.func (fn r)) #[] #[])
theorem P1.ex{g:Nat}{fn:Int->ay}{w0 w:aB}{S:aq}(h:P1 g fn w0)(e:Ex S w0 w)(hS:g∉S:=by simp):P1 g fn w:=
 ⟨dt h.size e.size,λi h1 h9=>by rw[<-h.cell i h1 h9];exact World.cell?_of_block (e.block g h.size hS)⟩
structure LV where
  f:FV
  r:Int
  a:Int
  b:Int
  g:Int
def LV.cells(x:LV):ai:=[x.f.v,aS x.r,aS x.a,aS x.b,aS x.g]
structure LA (w:aB) (A:ae) (ls:List LV):Prop where
  at_:Sl w A (ls.flatMap LV.cells)
  fs:∀l∈ls,FA w l.f.a l.f.f/\l.f.f.length<=maxLen
theorem LA.fD{w0 w:aB}{A:ae}{ls:List LV}(h:LA w0 A ls)(e:Ex [] w0 w):LA w A ls:=⟨Sl.ex h.at_ e aL,λl hl=>⟨(h.fs l hl).1.fD e,(h.fs l hl).2⟩⟩
end Go.Proofs.Wit
