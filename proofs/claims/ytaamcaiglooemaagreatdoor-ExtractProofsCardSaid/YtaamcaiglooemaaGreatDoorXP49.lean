/- Laws of walks, each under its own conditions. -/
import Derived.Test.YtaamcaiglooemaaGreatDoorXP43
set_option maxRecDepth 100000
set_option maxHeartbeats 40000000
namespace Go.Proofs.Wit
open Go Go.RowKit
section
variable{P:av}{tn tw tl:ax}{ef:Bool->aC}{bw:Nat}{Γ:List FV}{σ:Sg}{s:Ws}
variable{w0:aB}{S:aq}{n:Nat}{l:Fl}{ops:aj}{i d:Nat}{ty:ax}{pos:aA}{aft:ak}{g:Option (Nat×Bool)}
variable{az:aa}{ts:ab}{cal:au}{gf:ay}{vs:ai}
theorem ik.B2{K:aC->Hl->Prop}{pre H hR':Hl}{res:Nat×Sg}(hW:jP tn Γ σ s)(hsub:hR'.Sublist (pre++H))(ho:ops[i]?=some ⟨some d,.call ⟨.value cal,az,ts⟩,ty,pos,aft,g⟩)(hw:fg ops l g=true)
  (hc:fW l cal=some (.func (.func gf) #[] #[]))(hx:iT l az.toList=some vs)(hd:Nat.blt d n=true)(hcf:∀args w,(callFunc gf args).run P w=.ok (.enter gf args) w)
  (hcall:∀w Y',St w0 S w ((pre++H)++gD tw tl (ef σ.bad) bw s) Y'->sr P tn tw tl ef bw Γ σ gf vs w hR' res)
  (hk:∀s' Γ',jP tn Γ' res.2 s'->Γ⊆Γ'->K (aS (res.1:Int)) (pre++(gD tw tl (ef res.2.bad) bw s'++H))):ik P w0 S n (pre++(gD tw tl (ef σ.bad) bw s++H)) ops i l d K:=by
 have hp:(pre++(gD tw tl (ef σ.bad) bw s++H)).Perm (gD tw tl (ef σ.bad) bw s++(pre++H)):=Ab.trans cd;refine⟨_,ho,rfl,rfl,rfl,hd,.inl ⟨hw,λt w Ds Y' hF' hS=>.inr ⟨gf,vs.toArray,λv w'=>∃h',(∃s' Γ',v=aS (res.1:Int)/\h'=gD tw tl (ef res.2.bad) bw s'/\jP tn Γ' res.2 s'/\Γ⊆Γ')/\St w (ir (gD tw tl (ef σ.bad) bw s)) w' h' [],?_,?_,λv w' ⟨h',h1,h2⟩=>?_⟩⟩⟩;have e1:=lO (P:=P) (ty:=ty) (ts:=ts) (Ds:=Ds) (w:=w) (first:=#[]) (captured:=#[]) hF' hc hx;simp only[execOp,Sem.run_bind,e1,Result.andThen_ok,invoke,hcf];simp;have:=hcall w Y' (hS.perm Ab) s hW ((hS.perm hp).has.sub (cN aD hsub));exact Calls.mono this (λe w' ⟨v,h',e1,e2,e3⟩=>⟨v,e1,h',e2,e3⟩);obtain⟨s',Γ',rfl,rfl,hW',hs'⟩:=h1;exact⟨_,((hS.perm hp).frame h2).perm (cd.trans Ab.symm),hk s' Γ' hW' hs'⟩
end
end Go.Proofs.Wit
