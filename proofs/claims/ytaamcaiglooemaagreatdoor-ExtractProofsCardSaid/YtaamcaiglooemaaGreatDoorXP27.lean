/- Laws of walks, each under its own conditions. -/
import Derived.Test.YtaamcaiglooemaaGreatDoorXP17
set_option maxRecDepth 100000
set_option maxHeartbeats 40000000
namespace Go.Proofs.Wit
open Go Go.RowKit
section
variable{P:av}{r:ah}{f:ay}{R:aC->aB->Prop}{w0:aB}{S:aq}{Y:List (Nat×Obj)}{n:Nat}{k:al}{l:Fl}{h hb:Hl}{ops:aj}{q:Nat}{Dn:aq}
theorem fz.kE{i d:Nat}{ty:ax}{pos:aA}{aft:ak}{g:Option (Nat×Bool)}{az:aa}{ts:ab}{cal:au}{gf:ay}{fs cs vs:ai}{hC hF:Hl}(hp:h.Perm (hC++hF))(Rc:aB->aC->Hl->Prop)(h1:fw ops Dn=[i])(ho:ops[i]?=some ⟨some d,.call ⟨.value cal,az,ts⟩,ty,pos,aft,g⟩)(hw:fg ops l g=true)
  (hc:fW l cal=some (.func (.func gf) fs.toArray cs.toArray))(hx:iT l az.toList=some vs)(hd:Nat.blt d n=true)(hcf:∀args w,(callFunc gf args).run P w=.ok (.enter gf args) w)
  (hcall:∀w Y',St w0 S w (hC++hF) Y'->pQ P gf (fs++vs++cs) w hC (Rc w))
  (hk:∀w v h',Rc w v h'->∃H,(h'++hF).Perm H/\hb.Sublist H/\fz P r f R w0 S Y n k ops hb q (i::Dn) ((d,v)::l) H):fz P r f R w0 S Y n k ops hb (q+1) Dn l h:=by
 refine fz.one h1 ⟨_,ho,rfl,rfl,rfl,hd,.inl ⟨hw,λt w Ds Y' hF' hS=>.inr ⟨gf,(fs++vs++cs).toArray,λv w'=>∃h',Rc w v h'/\St w (ir hC) w' h' [],?_,?_,λv w' ⟨h',h1,h2⟩=>?_⟩⟩⟩ hd;have e1:=lO (P:=P) (ty:=ty) (ts:=ts) (Ds:=Ds) (w:=w) hF' hc hx;simp only[execOp,Sem.run_bind,e1,Result.andThen_ok,invoke,hcf];simp;exact Calls.mono (hcall w Y' (hS.perm hp)) (λe w' ⟨v,h',e1,e2,e3⟩=>⟨v,e1,h',e2,e3⟩);obtain⟨H,hp2,hs,hg⟩:=hk w v h' h1;exact⟨H,((hS.perm hp).frame h2).perm hp2,hs,hg⟩
end
section
variable{P:av}{r:ah}{f:ay}{R:aC->aB->Prop}{w0:aB}{Y:List (Nat×Obj)}{n:Nat}{k:al}{l:Fl}{hb:ah×Obj}{ops:aj}{i d:Nat}{ty:ax}{pos:aA}{aft:ak}{g:Option (Nat×Bool)}
variable{az:aa}{ts:ab}{cal:au}{gf:ay}{vs:ai}{t tn:ax}{c:List NV}{na:ae}{nc bk m0 m1 D D':Nat}{L0 L1 La Lb:Nm}{F:Hl}{u:Tr}{q:Nat}{Dn:aq}
theorem fz.tP(hp:tD t tn c na nc bk m0 m1 w0 L0 L1)(gr:jx t c D L0 L1 La Lb F)(hj:D'<=D)(h1:fw ops Dn=[i])(ho:ops[i]?=some ⟨some d,.call ⟨.value cal,az,ts⟩,ty,pos,aft,g⟩)(hw:fg ops l g=true)
  (hc:fW l cal=some (.func (.func gf) #[] #[]))(hx:iT l az.toList=some vs)(hd:Nat.blt d n=true)(hcf:∀args w,(callFunc gf args).run P w=.ok (.enter gf args) w)
  (hof:∀w L0 L1,tD t tn c na nc bk m0 m1 w L0 L1->pQ P gf vs w (qE m0 L0 m1 L1) (pO t c m0 m1 D' u L0 L1))
  (hk:∀fv La' Lb' F',jx t c D L0 L1 La' Lb' F'->(∀x,iX t La Lb F x->iX t La' Lb' F' x)->fv.f=bT u->iX t La' Lb' F' fv->fz P r f R w0 [m0,m1] Y n k ops [hb] q (i::Dn) ((d,fv.v)::l) (hb::(qE m0 La' m1 Lb'++F'))):
  fz P r f R w0 [m0,m1] Y n k ops [hb] (q+1) Dn l (hb::(qE m0 La m1 Lb++F)):=by
 refine fz.kE (hC:=qE m0 La m1 Lb) (hF:=hb::F) (fs:=[]) (cs:=[]) pv (λ_=>pO t c m0 m1 D' u La Lb) h1 ho hw hc hx hd hcf (λw Y' hS=>?_) (λw v h' hR=>?_);rw[dR,dL];exact hof w _ _ (hp.step hS (bK _ _) (λ_ h=>bZ _ (cF _ h)) gr);obtain⟨fv,La',Lb',F2,rfl,rfl,g2,hf,hh⟩:=hR;exact⟨hb::(qE m0 La' m1 Lb'++(F2++F)),vK,.cons_cons _ aE,hk fv La' Lb' (F2++F) (gr.seq g2 hj (bL _ _) (bM _ _)) (λx hx=>hx.mono g2.s0 g2.s1 (bL _ _)) hf (hh.mono (λ_ h=>h) (λ_ h=>h) (bM _ _))⟩
theorem fz.lH(hp:tD t tn c na nc bk m0 m1 w0 L0 L1)(gr:jx t c D L0 L1 La Lb F)(hj:D'<=D)(hcf:∀args w,(callFunc gf args).run P w=.ok (.enter gf args) w)(hof:∀w L0 L1,tD t tn c na nc bk m0 m1 w L0 L1->pQ P gf vs w (qE m0 L0 m1 L1) (pO t c m0 m1 D' u L0 L1))(hk:∀fv La' Lb' F',jx t c D L0 L1 La' Lb' F'->(∀x,iX t La Lb F x->iX t La' Lb' F' x)->fv.f=bT u->iX t La' Lb' F' fv->fz P r f R w0 [m0,m1] Y n k ops [hb] q (i::Dn) ((d,fv.v)::l) (hb::(qE m0 La' m1 Lb'++F')))(h1:fw ops Dn=[i]:=by exact rfl)(ho:ops[i]?=some ⟨some d,.call ⟨.value cal,az,ts⟩,ty,pos,aft,g⟩:=by exact rfl)(hw:fg ops l g=true:=by exact rfl)(hc:fW l cal=some (.func (.func gf) #[] #[]):=by exact rfl)(hx:iT l az.toList=some vs:=by exact rfl)(hd:Nat.blt d n=true:=by exact rfl):fz P r f R w0 [m0,m1] Y n k ops [hb] (q+1) Dn l (hb::(qE m0 La m1 Lb++F)):=fz.tP (hp:=hp) (gr:=gr) (hj:=hj) (h1:=h1) (ho:=ho) (hw:=hw) (hc:=hc) (hx:=hx) (hd:=hd) (hcf:=hcf) (hof:=hof) (hk:=hk)
theorem fz.yW(gr:jx t c D L0 L1 La Lb F)(h1:fw ops Dn=[i])(ho:ops[i]?=some ⟨some d,.call ⟨.value cal,az,ts⟩,ty,pos,aft,g⟩)(hw:fg ops l g=true)
  (hc:fW l cal=some (.func (.func gf) #[] #[]))(hx:iT l az.toList=some vs)(hd:Nat.blt d n=true)(hcf:∀args w,(callFunc gf args).run P w=.ok (.enter gf args) w)
  (hcall:∀w Y',St w0 [m0,m1] w (hb::(qE m0 La m1 Lb++F)) Y'->Cn P gf vs w (λv w'=>fi t w w' v (bT u)))
  (hk:∀fv F',jx t c D L0 L1 La Lb F'->(∀x,iX t La Lb F x->iX t La Lb F' x)->fv.f=bT u->iX t La Lb F' fv->fz P r f R w0 [m0,m1] Y n k ops [hb] q (i::Dn) ((d,fv.v)::l) (hb::(qE m0 La m1 Lb++F'))):
  fz P r f R w0 [m0,m1] Y n k ops [hb] (q+1) Dn l (hb::(qE m0 La m1 Lb++F)):=by
 refine fz.call (λw v w'=>fi t w w' v (bT u)) h1 ho hw hc hx hd hcf hcall (λv w w' Y' hS he hO=>?_);obtain⟨qq,cap,sp,rfl,hq,eV,hS'⟩:=fy hS he hO;have hpm:((qq,iC t (bT u) sp)::hb::(qE m0 La m1 Lb++F)).Perm (hb::(qE m0 La m1 Lb++((qq,iC t (bT u) sp)::F))):=
  (List.Perm.swap _ _ _).trans (List.Perm.cons _ pv);refine⟨_,hS'.perm hpm,.cons_cons _ aE,?_⟩;have e1:fZ qq (bT u).length cap=FV.v ⟨qq.map aP,cap,bT u⟩:=by cases qq<;>rfl
 rw[e1];exact hk _ _ (gr.mono (eG _) (cm _ _)) (λx hx=>hx.mono (λ_ h=>h) (λ_ h=>h) (cm _ _)) rfl (.inl ⟨qq,sp,aF,rfl,hq,eV⟩)
end
end Go.Proofs.Wit
