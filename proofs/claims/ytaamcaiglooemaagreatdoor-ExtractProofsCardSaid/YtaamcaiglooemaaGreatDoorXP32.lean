/- Laws of walks, each under its own conditions. -/
import Derived.Test.YtaamcaiglooemaaGreatDoorXP27
set_option maxRecDepth 100000
set_option maxHeartbeats 40000000
namespace Go.Proofs.Wit
open Go Go.RowKit
section
variable{fv x:FV}
def O1(w:aB)(S:aq):Prop:=∀b∈S,∀o k j,w.cell? ⟨b,o,none⟩≠some (.int k j)
theorem FA.Px{w w':aB}{S:aq}{a:ae}{f:List NV}(hm:O1 w S)(h:FA w a f)(e:Ex S w w'):FA w' a f:=by
 rcases f with _|⟨n,f⟩;exact⟨Sl.nil _ _⟩;refine⟨h.at_.ex e (λb o ea hb=>?_)⟩;have:=h.at_.cell 0 (by simp[NV.cells]);subst ea;exact hm b hb _ _ _ this
structure MH (HH:Nm->Nm->Hl) (S:aq):Prop where
  bl:∀L0 L1,ir (HH L0 L1)=S
  QD:∀w L0 L1,lU w (HH L0 L1)->O1 w S
structure Gr (t:ax) (c:List NV) (d0 d1:Nat) (L0 L1 L0' L1':Nm) (F:Hl):Prop where
  lA:yw c L0' L1'
  s0:L0⊆L0'
  s1:L1⊆L1'
  n0:∀e∈L0',e∈L0\/(e.1<(d0:Int)/\iX t L0 L1 F e.2)
  n1:∀e∈L1',e∈L1\/(e.1<(d1:Int)/\iX t L0 L1 F e.2)
section
variable{t:ax}{c:List NV}
theorem iX.AB{d0 d1:Nat}{L0 L1 L0' L1':Nm}{F:Hl} (h:Gr t c d0 d1 L0 L1 L0' L1' F)(g:iX t L0' L1' F x):iX t L0 L1 F x:=by
 rcases g with g|⟨k,g⟩|⟨k,g⟩;exact .inl g;rcases h.n0 _ g with h1|h1;exact .inr (.inl ⟨k,h1⟩);exact h1.2;rcases h.n1 _ g with h1|h1;exact .inr (.inr ⟨k,h1⟩);exact h1.2
theorem Gr.refl{d0 d1:Nat}{L0 L1:Nm}(h:yw c L0 L1):Gr t c d0 d1 L0 L1 L0 L1 []:=⟨h,λ_ h=>h,λ_ h=>h,λ_ h=>.inl h,λ_ h=>.inl h⟩
theorem Gr.mono{d0 d1 e0 e1:Nat}{L0 L1 L0' L1':Nm}{F F':Hl}(h:Gr t c d0 d1 L0 L1 L0' L1' F)(h0:d0<=e0)(h1:d1<=e1)(hs:F⊆F'):Gr t c e0 e1 L0 L1 L0' L1' F':=
 ⟨h.lA,h.s0,h.s1,λe he=>(h.n0 e he).imp id (λh=>⟨aH,h.2.mono (λ_ h=>h) (λ_ h=>h) hs⟩),λe he=>(h.n1 e he).imp id (λh=>⟨aH,h.2.mono (λ_ h=>h) (λ_ h=>h) hs⟩)⟩
theorem Gr.seq{d0 d1 e0 e1:Nat}{L0 L1 L0' L1' L0'' L1'':Nm}{F F' H:Hl}(h:Gr t c d0 d1 L0 L1 L0' L1' F)(g:Gr t c e0 e1 L0' L1' L0'' L1'' F')(hd:e0<=d0)(hd1:e1<=d1)(h1:F⊆H)(h2:F'⊆H):Gr t c d0 d1 L0 L1 L0'' L1'' H:=by
 have hh:=h.mono (eG _) (eG _) h1;have hb:∀{x:FV},iX t L0' L1' F' x->iX t L0 L1 H x:=λhx=>(hx.mono (λ_ h=>h) (λ_ h=>h) h2).AB hh;refine⟨g.lA,λ_ hx=>g.s0 (h.s0 hx),λ_ hx=>g.s1 (h.s1 hx),λe he=>?_,λe he=>?_⟩;rcases g.n0 e he with h3|⟨h3,h4⟩;exact hh.n0 e h3;exact .inr ⟨aH,hb h4⟩;rcases g.n1 e he with h3|⟨h3,h4⟩;exact hh.n1 e h3;exact .inr ⟨aH,hb h4⟩
theorem Gr.MX{i d0 d1:Nat}{L0 L1 La Lb:Nm}{F:Hl} (g:Gr t c d0 d1 L0 L1 La Lb F)(h0:d0<=i+1)(hf:fv.f=bT (fB (eP c i)).1)(hh:iX t La Lb F fv):Gr t c (i+1) d1 L0 L1 (La++[((i:Int),fv)]) Lb F:=
 ⟨⟨λe he=>by
  rcases dP.1 he with he|he;exact g.lA.e0 e he;rw[de.1 he];exact⟨i,rfl,hf⟩,g.lA.e1⟩,λ_ h=>cD _ (g.s0 h),g.s1,λe he=>by
  rcases dP.1 he with he|he;exact(g.n0 e he).imp id (λh=>⟨aH,h.2⟩);rw[de.1 he];exact .inr ⟨by simp only[];omega,hh.AB g⟩,g.n1⟩
theorem Gr.MW{i d0 d1:Nat}{L0 L1 La Lb:Nm}{F:Hl} (g:Gr t c d0 d1 L0 L1 La Lb F)(h0:d1<=i+1)(hf:fv.f=bT (fB (eP c i)).2)(hh:iX t La Lb F fv):Gr t c d0 (i+1) L0 L1 La (Lb++[((i:Int),fv)]) F:=
 ⟨⟨g.lA.e0,λe he=>by
  rcases dP.1 he with he|he;exact g.lA.e1 e he;rw[de.1 he];exact⟨i,rfl,hf⟩⟩,g.s0,λ_ h=>cD _ (g.s1 h),g.n0,λe he=>by
  rcases dP.1 he with he|he;exact(g.n1 e he).imp id (λh=>⟨aH,h.2⟩);rw[de.1 he];exact .inr ⟨by simp only[];omega,hh.AB g⟩⟩
structure tC (tn:ax) (c:List NV) (na:ae) (bk:Nat) (BK:af) (HH:Nm->Nm->Hl) (S:aq) (w:aB) (L0 L1:Nm):Prop where
  mh:MH HH S
  has:lU w (HH L0 L1)
  ne:bk∉S
  jh:w.heap[bk]?=some (.cells BK tn (0,0))
  fa:FA w na c
  f0:∀e∈L0,FA w e.2.a e.2.f
  f1:∀e∈L1,FA w e.2.a e.2.f
  lA:yw c L0 L1
variable{tn:ax}{na:ae}{bk:Nat}{BK:af}{HH:Nm->Nm->Hl}{S:aq}{w:aB}{L0 L1:Nm}
theorem tC.od(h:tC tn c na bk BK HH S w L0 L1):O1 w S:=h.mh.QD _ _ _ h.has
theorem iX.uD{w' w0:aB}{S2:aq}{h:Hl}{Y:List (Nat×Obj)}{d0 d1:Nat}{L0' L1':Nm}{F:Hl} (g:iX t L0' L1' F x)(hp:tC tn c na bk BK HH S w L0 L1)(gr:Gr t c d0 d1 L0 L1 L0' L1' F)(e:Ex S w w')(s:St w0 S2 w' h Y)(hs:F⊆h):FA w' x.a x.f:=by
 rcases g.AB gr with g|⟨k,g⟩|⟨k,g⟩;exact(g.mono hs).at s;exact(hp.f0 _ g).Px hp.od e;exact(hp.f1 _ g).Px hp.od e
theorem tC.step{w':aB}{h:Hl}{Y:List (Nat×Obj)}{L0' L1':Nm}{F:Hl}{d0 d1:Nat}(g:tC tn c na bk BK HH S w L0 L1)(s:St w S w' h Y)(hs:(HH L0' L1').Sublist h)(hF:F⊆h)(gr:Gr t c d0 d1 L0 L1 L0' L1' F):tC tn c na bk BK HH S w' L0' L1':=
  ⟨g.mh,(s.ij hs).has,g.ne,by rw[s.ext.block bk (aW.1 g.jh).1 g.ne];exact g.jh,g.fa.Px g.od s.ext,
   λe he=>iX.uD (x:=e.2) (.inr (.inl ⟨e.1,he⟩)) g gr s.ext s hF,λe he=>iX.uD (x:=e.2) (.inr (.inr ⟨e.1,he⟩)) g gr s.ext s hF,gr.lA⟩
def ow(t:ax)(c:List NV)(HH:Nm->Nm->Hl)(d0 d1:Nat)(u:Tr)(L0 L1:Nm)(v:aC)(h':Hl):Prop:=
 ∃fv L0' L1' F,v=FV.v fv/\h'=HH L0' L1'++F/\Gr t c d0 d1 L0 L1 L0' L1' F/\fv.f=bT u/\iX t L0' L1' F fv
end
section
variable{P:av}{r:ah}{f:ay}{R:aC->aB->Prop}{w0:aB}{Y:List (Nat×Obj)}{n:Nat}{k:al}{l:Fl}{hb:ah×Obj}{ops:aj}{i d:Nat}{rest:aq}{ty:ax}{pos:aA}{aft:ak}{g:Option (Nat×Bool)}
variable{az:aa}{ts:ab}{cal:au}{gf:ay}{vs:ai}{t tn:ax}{c:List NV}{na:ae}{bk D0 D1 e0 e1:Nat}{BK:af}{HH:Nm->Nm->Hl}{S:aq}{L0 L1 La Lb:Nm}{F:Hl}{u:Tr}{q:Nat}{Dn:aq}
theorem eQ.sC(hp:tC tn c na bk BK HH S w0 L0 L1)(gr:Gr t c D0 D1 L0 L1 La Lb F)(hj:e0<=D0/\e1<=D1)(ho:ops[i]?=some ⟨some d,.call ⟨.value cal,az,ts⟩,ty,pos,aft,g⟩)(hw:fg ops l g=true)
  (hc:fW l cal=some (.func (.func gf) #[] #[]))(hx:iT l az.toList=some vs)(hd:Nat.blt d n=true)(hcf:∀args w,(callFunc gf args).run P w=.ok (.enter gf args) w)
  (hof:∀w L0 L1,tC tn c na bk BK HH S w L0 L1->pQ P gf vs w (HH L0 L1) (ow t c HH e0 e1 u L0 L1))
  (hk:∀fv La' Lb' F',Gr t c D0 D1 L0 L1 La' Lb' F'->(∀x,iX t La Lb F x->iX t La' Lb' F' x)->fv.f=bT u->iX t La' Lb' F' fv->eQ P r f R w0 S Y n (.inRegion ops rest::k) ((d,fv.v)::l) (hb::(HH La' Lb'++F'))):
  eQ P r f R w0 S Y n (.inRegion ops (i::rest)::k) l (hb::(HH La Lb++F)):=by
 refine eQ.mW (h':=HH La Lb++(hb::F)) pv ?_;refine eQ.kE (h:=HH La Lb) (hF:=hb::F) (fs:=[]) (cs:=[]) (λ_=>ow t c HH e0 e1 u La Lb) ho hw hc hx hd hcf (λw Y' hS=>?_) (λw v h' hR=>?_);rw[dR,dL];exact hof w _ _ (hp.step hS (bK _ _) (λ_ h=>bZ _ (cF _ h)) gr);obtain⟨fv,La',Lb',F2,rfl,rfl,g2,hf,hh⟩:=hR;refine eQ.mW (h':=hb::(HH La' Lb'++(F2++F))) vK ?_;exact hk fv La' Lb' (F2++F) (gr.seq g2 hj.1 hj.2 (bL _ _) (bM _ _)) (λx hx=>hx.mono g2.s0 g2.s1 (bL _ _)) hf (hh.mono (λ_ h=>h) (λ_ h=>h) (bM _ _))
theorem fz.sC(hp:tC tn c na bk BK HH S w0 L0 L1)(gr:Gr t c D0 D1 L0 L1 La Lb F)(hj:e0<=D0/\e1<=D1)(h1:fw ops Dn=[i])(ho:ops[i]?=some ⟨some d,.call ⟨.value cal,az,ts⟩,ty,pos,aft,g⟩)(hw:fg ops l g=true)
  (hc:fW l cal=some (.func (.func gf) #[] #[]))(hx:iT l az.toList=some vs)(hd:Nat.blt d n=true)(hcf:∀args w,(callFunc gf args).run P w=.ok (.enter gf args) w)
  (hof:∀w L0 L1,tC tn c na bk BK HH S w L0 L1->pQ P gf vs w (HH L0 L1) (ow t c HH e0 e1 u L0 L1))
  (hk:∀fv La' Lb' F',Gr t c D0 D1 L0 L1 La' Lb' F'->(∀x,iX t La Lb F x->iX t La' Lb' F' x)->fv.f=bT u->iX t La' Lb' F' fv->fz P r f R w0 S Y n k ops [hb] q (i::Dn) ((d,fv.v)::l) (hb::(HH La' Lb'++F'))):
  fz P r f R w0 S Y n k ops [hb] (q+1) Dn l (hb::(HH La Lb++F)):=by
 refine fz.kE (hC:=HH La Lb) (hF:=hb::F) (fs:=[]) (cs:=[]) pv (λ_=>ow t c HH e0 e1 u La Lb) h1 ho hw hc hx hd hcf (λw Y' hS=>?_) (λw v h' hR=>?_);rw[dR,dL];exact hof w _ _ (hp.step hS (bK _ _) (λ_ h=>bZ _ (cF _ h)) gr);obtain⟨fv,La',Lb',F2,rfl,rfl,g2,hf,hh⟩:=hR;exact⟨hb::(HH La' Lb'++(F2++F)),vK,.cons_cons _ aE,hk fv La' Lb' (F2++F) (gr.seq g2 hj.1 hj.2 (bL _ _) (bM _ _)) (λx hx=>hx.mono g2.s0 g2.s1 (bL _ _)) hf (hh.mono (λ_ h=>h) (λ_ h=>h) (bM _ _))⟩
theorem fz.lF(hp:tC tn c na bk BK HH S w0 L0 L1)(gr:Gr t c D0 D1 L0 L1 La Lb F)(hj:e0<=D0/\e1<=D1)(hcf:∀args w,(callFunc gf args).run P w=.ok (.enter gf args) w)(hof:∀w L0 L1,tC tn c na bk BK HH S w L0 L1->pQ P gf vs w (HH L0 L1) (ow t c HH e0 e1 u L0 L1))(hk:∀fv La' Lb' F',Gr t c D0 D1 L0 L1 La' Lb' F'->(∀x,iX t La Lb F x->iX t La' Lb' F' x)->fv.f=bT u->iX t La' Lb' F' fv->fz P r f R w0 S Y n k ops [hb] q (i::Dn) ((d,fv.v)::l) (hb::(HH La' Lb'++F')))(h1:fw ops Dn=[i]:=by exact rfl)(ho:ops[i]?=some ⟨some d,.call ⟨.value cal,az,ts⟩,ty,pos,aft,g⟩:=by exact rfl)(hw:fg ops l g=true:=by exact rfl)(hc:fW l cal=some (.func (.func gf) #[] #[]):=by exact rfl)(hx:iT l az.toList=some vs:=by exact rfl)(hd:Nat.blt d n=true:=by exact rfl):fz P r f R w0 S Y n k ops [hb] (q+1) Dn l (hb::(HH La Lb++F)):=fz.sC (hp:=hp) (gr:=gr) (hj:=hj) (h1:=h1) (ho:=ho) (hw:=hw) (hc:=hc) (hx:=hx) (hd:=hd) (hcf:=hcf) (hof:=hof) (hk:=hk)
theorem gV.sC{h0:Hl}(hp:tC tn c na bk BK HH S w0 L0 L1)(gr:Gr t c D0 D1 L0 L1 La Lb F)(hj:e0<=D0/\e1<=D1)(h1:fw ops Dn=[i])(ho:ops[i]?=some ⟨some d,.call ⟨.value cal,az,ts⟩,ty,pos,aft,g⟩)(hw:fg ops l g=true)
  (hc:fW l cal=some (.func (.func gf) #[] #[]))(hx:iT l az.toList=some vs)(hd:Nat.blt d n=true)(hcf:∀args w,(callFunc gf args).run P w=.ok (.enter gf args) w)
  (hof:∀w L0 L1,tC tn c na bk BK HH S w L0 L1->pQ P gf vs w (HH L0 L1) (ow t c HH e0 e1 u L0 L1))
  (hk:∀fv La' Lb' F',Gr t c D0 D1 L0 L1 La' Lb' F'->fv.f=bT u->iX t La' Lb' F' fv->gV P r f R w0 S Y n k ops i h0 [] q (i::Dn) ((d,fv.v)::l) (HH La' Lb'++F')):
  gV P r f R w0 S Y n k ops i h0 [] (q+1) Dn l (HH La Lb++F):=by
 refine gV.one h1 (ik.kE (h:=HH La Lb) (hF:=F) (fs:=[]) (cs:=[]) ho hw hc hx hd hcf (λw Y' hS=>?_)) hd;rw[dR,dL];refine(hof w _ _ (hp.step hS (bK _ _) (bL _ _) gr)).mono ?_;rintro v h' ⟨fv,La',Lb',F2,rfl,rfl,g2,hf,hh⟩;rw[dk];exact⟨by rw[sd aL];exact aE,hk fv La' Lb' (F2++F) (gr.seq g2 hj.1 hj.2 (bL _ _) (bM _ _)) hf (hh.mono (λ_ h=>h) (λ_ h=>h) (bM _ _))⟩
theorem eQ.yM(gr:Gr t c D0 D1 L0 L1 La Lb F)(ho:ops[i]?=some ⟨some d,.call ⟨.value cal,az,ts⟩,ty,pos,aft,g⟩)(hw:fg ops l g=true)
  (hc:fW l cal=some (.func (.func gf) #[] #[]))(hx:iT l az.toList=some vs)(hd:Nat.blt d n=true)(hcf:∀args w,(callFunc gf args).run P w=.ok (.enter gf args) w)
  (hcall:∀w Y',St w0 S w (hb::(HH La Lb++F)) Y'->Cn P gf vs w (λv w'=>fi t w w' v (bT u)))
  (hk:∀fv F',Gr t c D0 D1 L0 L1 La Lb F'->(∀x,iX t La Lb F x->iX t La Lb F' x)->fv.f=bT u->iX t La Lb F' fv->eQ P r f R w0 S Y n (.inRegion ops rest::k) ((d,fv.v)::l) (hb::(HH La Lb++F'))):
  eQ P r f R w0 S Y n (.inRegion ops (i::rest)::k) l (hb::(HH La Lb++F)):=by
 refine eQ.rG (λw v w'=>fi t w w' v (bT u)) ho hw hc hx hd hcf hcall (λv w w' Y' hS he hO=>?_);obtain⟨q,cap,sp,rfl,hq,eV,hS'⟩:=fy hS he hO;have hpm:((q,iC t (bT u) sp)::hb::(HH La Lb++F)).Perm (hb::(HH La Lb++((q,iC t (bT u) sp)::F))):=
  (List.Perm.swap _ _ _).trans (List.Perm.cons _ pv);refine⟨_,hS'.perm hpm,?_⟩;have e1:fZ q (bT u).length cap=FV.v ⟨q.map aP,cap,bT u⟩:=by cases q<;>rfl
 rw[e1];exact hk _ _ (gr.mono (eG _) (eG _) (cm _ _)) (λx hx=>hx.mono (λ_ h=>h) (λ_ h=>h) (cm _ _)) rfl (.inl ⟨q,sp,aF,rfl,hq,eV⟩)
theorem fz.yM(gr:Gr t c D0 D1 L0 L1 La Lb F)(h1:fw ops Dn=[i])(ho:ops[i]?=some ⟨some d,.call ⟨.value cal,az,ts⟩,ty,pos,aft,g⟩)(hw:fg ops l g=true)
  (hc:fW l cal=some (.func (.func gf) #[] #[]))(hx:iT l az.toList=some vs)(hd:Nat.blt d n=true)(hcf:∀args w,(callFunc gf args).run P w=.ok (.enter gf args) w)
  (hcall:∀w Y',St w0 S w (hb::(HH La Lb++F)) Y'->Cn P gf vs w (λv w'=>fi t w w' v (bT u)))
  (hk:∀fv F',Gr t c D0 D1 L0 L1 La Lb F'->(∀x,iX t La Lb F x->iX t La Lb F' x)->fv.f=bT u->iX t La Lb F' fv->fz P r f R w0 S Y n k ops [hb] q (i::Dn) ((d,fv.v)::l) (hb::(HH La Lb++F'))):
  fz P r f R w0 S Y n k ops [hb] (q+1) Dn l (hb::(HH La Lb++F)):=by
 refine fz.call (λw v w'=>fi t w w' v (bT u)) h1 ho hw hc hx hd hcf hcall (λv w w' Y' hS he hO=>?_);obtain⟨qq,cap,sp,rfl,hq,eV,hS'⟩:=fy hS he hO;have hpm:((qq,iC t (bT u) sp)::hb::(HH La Lb++F)).Perm (hb::(HH La Lb++((qq,iC t (bT u) sp)::F))):=
  (List.Perm.swap _ _ _).trans (List.Perm.cons _ pv);refine⟨_,hS'.perm hpm,.cons_cons _ aE,?_⟩;have e1:fZ qq (bT u).length cap=FV.v ⟨qq.map aP,cap,bT u⟩:=by cases qq<;>rfl
 rw[e1];exact hk _ _ (gr.mono (eG _) (eG _) (cm _ _)) (λx hx=>hx.mono (λ_ h=>h) (λ_ h=>h) (cm _ _)) rfl (.inl ⟨qq,sp,aF,rfl,hq,eV⟩)
end
def EC(n:Nat)(L:Nm):List FV:=(List.range n).map (λk:Nat=>(ic iq L (k:Int)).getD ⟨none,0,[]⟩)
def oW(n:Nat)(L:Nm):ao:=(List.range n).map (λk:Nat=>(ic iq L (k:Int)).isSome)
abbrev rH(tS tB:ax)(n by' bo hy ho:Nat)(L0 L1:Nm):Hl:=[(some by',ob FV.v tS (EC n L0) []),(some bo,ob FV.v tS (EC n L1) []),(some hy,ob Value.bool tB (oW n L0) []),(some ho,ob Value.bool tB (oW n L1) [])]
abbrev HG(na:ae)(nl nc by' bo hy ho:Nat):af:=#[.slice na nl nc,.slice (aR by') nl nl,.slice (aR bo) nl nl,.slice (aR hy) nl nl,.slice (aR ho) nl nl]
theorem zc{n:Nat}{L:Nm}:(EC n L).length=n:=by simp[EC]
theorem y9{n:Nat}{L:Nm}:(oW n L).length=n:=by simp[oW]
theorem vY{n i:Nat}{L:Nm}{d:FV}(hi:i<n)(h:ic iq L (i:Int)=some x):(EC n L).getD i d=x:=by
 simp[EC,aX,hi,h]
theorem vS{n i:Nat}{L:Nm}{d:Bool}(hi:i<n):(oW n L).getD i d=(ic iq L (i:Int)).isSome:=by
 simp[oW,aX,hi]
theorem tT{L:Nm}{i k:Nat} (h:ic iq L (i:Int)=none):ic iq (L++[((i:Int),x)]) (k:Int)=if k=i then some x else ic iq L (k:Int):=by
 induction L with
 |nil=>
  rw[dR,ic,ic];by_cases hk:k=i;subst hk;simp[iq];rw[if_neg hk,if_neg (by simp[iq];omega)];rfl
 |cons e L ih=>
  obtain⟨a,b⟩:=e;rw[ic]at h;rw[dz,ic,ic];split at h;cases h;rename_i hq;rw[ih h];split;rename_i hk;rw[if_neg];rintro rfl;exact hq hk;rfl
theorem C5{n i:Nat}{L:Nm} (h:ic iq L (i:Int)=none):(EC n L).set i x=EC n (L++[((i:Int),x)]):=by
 apply List.ext_getElem?;intro k;simp only[EC,List.getElem?_set,dM,List.length_range,dn,tT h];by_cases hk:k<n;rw[List.getElem?_range hk];by_cases e:i=k;subst e;simp[hk];simp[e,Ne.symm e];rw[bX (by simpa using hk)];by_cases e:i=k;subst e;simp[hk];simp[e]
theorem C3{n i:Nat}{L:Nm} (h:ic iq L (i:Int)=none):(oW n L).set i true=oW n (L++[((i:Int),x)]):=by
 apply List.ext_getElem?;intro k;simp only[oW,List.getElem?_set,dM,List.length_range,dn,tT h];by_cases hk:k<n;rw[List.getElem?_range hk];by_cases e:i=k;subst e;simp[hk];simp[e,Ne.symm e];rw[bX (by simpa using hk)];by_cases e:i=k;subst e;simp[hk];simp[e]
theorem NK{tS tB:ax}{n by' bo hy ho:Nat}:MH (rH tS tB n by' bo hy ho) [by',bo,hy,ho]:=by
 refine⟨λ_ _=>rfl,λw L0 L1 hh b hb o k j hc=>?_⟩;have h0:=(hh.own _ aF by' rfl).1;have h1:=(hh.own _ (cF _ aF) bo rfl).1;have h2:=(hh.own _ (cF _ (cF _ aF)) hy rfl).1;have h3:=(hh.own _ (cF _ (cF _ (cF _ aF))) ho rfl).1;simp only[ew,dE,eM]at hb;rcases hb with rfl|rfl|rfl|rfl;rw[World.cell?]at hc;simp only[h0]at hc;simp[FV.v]at hc;rw[World.cell?]at hc;simp only[h1]at hc;simp[FV.v]at hc;rw[World.cell?]at hc;simp only[h2]at hc;simp at hc;rw[World.cell?]at hc;simp only[h3]at hc;simp at hc
theorem Jk{n:Nat}:EC n []=List.replicate n ⟨none,0,[]⟩:=by
 rw[List.eq_replicate_iff];exact⟨zc,λb hb=>by obtain⟨k,_,rfl⟩:=eA.1 hb;rfl⟩
theorem Jh{n:Nat}:oW n []=List.replicate n false:=by
 rw[List.eq_replicate_iff];exact⟨y9,λb hb=>by obtain⟨k,_,rfl⟩:=eA.1 hb;rfl⟩
theorem zI{c:List NV}{i:Nat}(hi:i<c.length)(hO:fT c)(hX:jd c[i].op=true)(hY:iH c[i].op=false):∃kx:Nat,c[i].x=(kx:Int)/\kx<i/\eP c i=.un c[i].op c[i].i c[i].e c[i].g (eP c kx):=by
 have h:=(hO i hi).x hX;refine⟨c[i].x.toNat,aH,aH,?_⟩;rcases iB hi hO with⟨h1,_⟩|⟨_,_,h1⟩|⟨h1,_⟩;rw[hX]at h1;cases h1;exact h1;rw[hY]at h1;cases h1
theorem tm{c:List NV}{i:Nat}(hi:i<c.length)(hO:fT c)(hY:iH c[i].op=true):∃kx ky:Nat,c[i].x=(kx:Int)/\c[i].y=(ky:Int)/\kx<i/\ky<i/\eP c i=.bin c[i].op c[i].i c[i].e c[i].g (eP c kx) (eP c ky):=by
 have hX:=jQ hY;have h:=(hO i hi).x hX;have h2:=(hO i hi).y hY;refine⟨c[i].x.toNat,c[i].y.toNat,aH,aH,aH,aH,?_⟩;rcases iB hi hO with⟨h1,_⟩|⟨_,h1,_⟩|⟨_,h1⟩;rw[hX]at h1;cases h1;rw[hY]at h1;cases h1;exact h1
theorem y6{c:List NV}{i:Nat}(hi:i<c.length)(hO:fT c)(hX:jd c[i].op=false):eP c i=.leaf c[i].op c[i].i c[i].e c[i].g:=by
 have hY:=rk hX;rcases iB hi hO with⟨_,h1⟩|⟨h1,_,_⟩|⟨h1,_⟩;exact h1;rw[hX]at h1;cases h1;rw[hY]at h1;cases h1
theorem so{t:ax}{c:List NV}{d0 d1:Nat}{HH:Nm->Nm->Hl}{S:aq}{w0 w':aB}{L0 L1 La Lb:Nm}{F:Hl}{u:Tr} {hb:ah×Obj}(gr:Gr t c d0 d1 L0 L1 La Lb F)(hf:fv.f=bT u)(hh:iX t La Lb F fv)(hS:St w0 S w' (hb::(HH La Lb++F)) []):∃h',ow t c HH d0 d1 u L0 L1 fv.v h'/\St w0 S w' h' []:=
 ⟨_,⟨fv,La,Lb,F,rfl,rfl,gr,hf,hh⟩,hS.ij (List.sublist_cons_self _ _)⟩
theorem FA.ND{w:aB}{S:aq}{a:ae}{f:List NV}(hm:O1 w S)(h:FA w a f)(hp:0<f.length):Ce S w a f:=by
 rcases f with _|⟨n,f⟩;simp at hp;refine⟨h.at_,λb o ea hb=>?_⟩;have:=h.at_.cell 0 (by simp[NV.cells]);subst ea;exact hm b hb _ _ _ this
theorem LB{c:List NV}{i:Nat}(hi:i<c.length)(hO:fT c)(n1:¬c[i].op=1)(n2:¬c[i].op=2)(n4:¬c[i].op=4)(n5:¬c[i].op=5)(n6:¬c[i].op=6)(n7:¬c[i].op=7)(n8:¬c[i].op=8)(n9:¬c[i].op=9)(n10:¬c[i].op=10):(fB (eP c i)).2=fH (fB (eP c i)).1:=by
 rcases iB hi hO with⟨_,h1⟩|⟨_,_,h1⟩|⟨_,h1⟩;rw[h1,fB];simp[n1,n2];rw[h1,fB];simp[n4,n9,n10];rw[h1,fB];simp[n5,n6,n7,n8]
end
end Go.Proofs.Wit
