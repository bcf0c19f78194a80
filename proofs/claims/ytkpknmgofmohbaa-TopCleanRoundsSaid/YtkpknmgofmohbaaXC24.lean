/- The rows of these laws and their tied cards are proved: for every input the law returns true and each argument reads as before, the listed variables being tied to the text. -/
import Derived.Test.YtkpknmgofmohbaaXC22
import Derived.Test.YtkpknmgofmohbaaXC23
import Derived.Test.YtkpknmgofmohbaaXC03
import Derived.Test.YtkpknmgofmohbaaXC05
namespace Go.Proofs.Ytkpknmgofmohbaa
open Go Go.RowKit Go.ChangeShapes Go.WideShapes Go.ChangeAt Go.Proofs.Wit
set_option maxRecDepth 100000 in
theorem topCleanRounds_lifted (os:Os) (started:os.Started) (H:Type) (enc:TypeId×Value→H):
  ReturnsInHanded {} Try.checked os 3 .any (Rows.topCleanRoundsSpec.pre6 enc Try.prog Try.f3 Rows.topCleanRoundsRow.domain false) (Rows.topCleanRoundsSpec.post enc Try.prog Try.f3 false true false false):=by
 refine returnsInHanded_of_change (C:=Try.checked) ud started (by kernel_rfl) Try.func3
  (ChangeSpec.witness6 (enc:=enc) (C:=Try.checked) false ⟨#[],#[.int .u8 0,.agg #[.int .u8 0,.int .u8 0],.slice none 0 0],[]⟩ 8 (by kernel_rfl) (by kernel_rfl) (by kernel_rfl) (by kernel_rfl)) ?_
 intro W base args ds gs before hval0 hW hcnd _
 have hval:∀(j:Nat) t v,Try.f3.params[j]?=some t→args[j]?=some v→Value.okWide Try.prog W .any base t v:=hval0
 have hW':=hW
 obtain ⟨p,q,hA0,hV,rfl,hfz,hnd⟩:=hW
 have hA:DataW.TrodAll enc Try.prog W 0 (fun _=>true) true Try.f3.params.toList args.toList ds p:=hA0
 have hlt:∀x∈p,x.block<W.heap.size:=fun x hx=>by simpa using hW'.lt x (by simp [hx])
 have hAk:=hA
 rw [Try.params3] at hA hval
 obtain ⟨v0,v1,v2,d0,d1,d2,p0,p1,p2,rfl,rfl,rfl,h0,h1,h2⟩:=trodAll_three hA
 obtain ⟨rfl,rfl⟩:=trodVars_none hV
 obtain ⟨y0,rfl,hy0⟩:=mg Try.underlying5 (hval 0 5 v0 rfl rfl) h0
 obtain ⟨y1,z1,rfl,hy1,hz1⟩:=kH Try.underlying22 Try.underlying5 (by kernel_rfl) (by kernel_rfl) (hval 1 22 v1 rfl rfl) h1
 obtain ⟨a2,xs2,c2,rfl,hs2,hb2,hl2⟩:=kG Try.underlying23 Try.underlying5 (by kernel_rfl) h2 (hval 2 23 v2 rfl rfl)
 have fin:=ir y0 y1 z1 hy0 hy1 hz1 a2 c2 xs2 W hs2 hb2 hl2
 refine Calls.mono fin (fun e W' ⟨v,hv,he,hr⟩=>?_)
 subst hv;subst hr
 have hb:Below W.heap.size W W':=he.toBelow
 refine ⟨_,rfl,⟨_,_,_,[],_,[],hW',trodAll_mk1 (shut_bool Try.underlying4 true),eJ rh hb (by kernel_rfl) hAk hlt,rfl,hb.frame _,fun h=>by cases h⟩⟩
theorem topCleanRounds_holds:Rows.TopCleanRoundsSaid:=
 OpenClaim.holds_of_wide 3 Try.f3 rfl rfl rfl rfl rfl rfl rfl ⟨rfl,rfl,rfl,rfl,rfl⟩ rfl rfl rfl rfl rfl (by kernel_rfl) Try.func3 (by kernel_rfl)
  (of_decide_eq_true (by kernel_rfl)) (by unfold Func.isWrapper;first|(rw [if_pos (by decide+kernel)];kernel_rfl)|(rw [if_neg (by decide+kernel)];exact ⟨rfl,rfl⟩))
  (fun os started H enc _=>topCleanRounds_lifted os started H enc)
end Go.Proofs.Ytkpknmgofmohbaa
