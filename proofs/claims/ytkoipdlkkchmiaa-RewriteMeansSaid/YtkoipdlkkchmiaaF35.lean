/- The rows of these laws and their tied cards are proved: for every input the law returns true and each argument reads as before, the listed variables being tied to the text. -/
import Derived.Test.YtkoipdlkkchmiaaF31
import Derived.Test.YtkoipdlkkchmiaaF32
import Derived.Test.YtkoipdlkkchmiaaF34
import Derived.Test.YtkoipdlkkchmiaaF03
namespace Go.Proofs.Ytkoipdlkkchmiaa
open Go Go.RowKit Go.ChangeShapes Go.WideShapes Go.ChangeAt Go.Proofs.Wit
set_option maxRecDepth 100000 in
theorem rewriteMeans_lifted (os : Os) (started : os.Started) (H : Type) (enc : TypeId × Value → H) :
    ReturnsInHanded {} Try.checked os 8 .any (Rows.rewriteMeansSpec.pre6 enc Try.prog Try.f8 Rows.rewriteMeansRow.domain false) (Rows.rewriteMeansSpec.post enc Try.prog Try.f8 false true false false) := by
  refine returnsInHanded_of_change (C := Try.checked) ownK started (by kernel_rfl) Try.func8
    (ChangeSpec.witness6 (enc := enc) (C := Try.checked) false ⟨#[], #[.slice none 0 0, .agg #[.int .u8 0, .int .u8 0, .int .u8 0, .int .u8 0, .int .u8 0, .int .u8 0, .int .u8 0, .int .u8 0, .int .u8 0, .int .u8 0, .int .u8 0, .int .u8 0]], []⟩ 8 (by kernel_rfl) (by kernel_rfl) (by kernel_rfl) (by kernel_rfl)) ?_
  intro W base args ds gs before hval0 hW hcnd _
  have hval : ∀ (j : Nat) t v, Try.f8.params[j]? = some t → args[j]? = some v → Value.okWide Try.prog W .any base t v := hval0
  have hW' := hW
  obtain ⟨p, q, hA0, hV, rfl, hfz, hnd⟩ := hW
  have hA : DataW.TrodAll enc Try.prog W 0 (fun _ => true) true Try.f8.params.toList args.toList ds p := hA0
  have hlt : ∀ x ∈ p, x.block < W.heap.size := fun x hx => by simpa using hW'.lt x (by simp [hx])
  have hAk := hA
  rw [Try.params8] at hA hval
  obtain ⟨v0, v1, d0, d1, p0, p1, rfl, rfl, rfl, h0, h1⟩ := trodAll_two hA
  obtain ⟨rfl, rfl⟩ := trodVars_none hV
  obtain ⟨a0, f0, c0, rfl, hs0, hl0, hc0⟩ := open_nodes Try.underlying22 Try.underlying49 (by kernel_rfl) (by kernel_rfl) Try.underlying3 Try.underlying3 Try.underlying3 Try.underlying3 Try.underlying3 Try.underlying3 h0 (hval 0 22 v0 rfl rfl)
  obtain ⟨m1, rfl⟩ := open_worlds Try.underlying43 Try.underlying42 Try.underlying5 Try.underlying40 Try.underlying5 rfl rfl (by kernel_rfl) (by kernel_rfl) (by kernel_rfl) (by kernel_rfl) (by kernel_rfl) h1 (hval 1 43 v1 rfl rfl)
  have fin := means08_c a0 c0 f0 m1 W hs0 hl0
  refine Calls.mono fin (fun e W' ⟨v, hv, he, hr⟩ => ?_)
  subst hv; subst hr
  have hb : Below W.heap.size W W' := he.toBelow
  refine ⟨_, rfl, ⟨_, _, _, [], _, [], hW', trodAll_mk1 (shut_bool Try.underlying4 true), trodAll_stays laidOk hb (by kernel_rfl) hAk hlt, rfl, hb.frame _, fun h => by cases h⟩⟩
theorem rewriteMeans_holds : Rows.RewriteMeansSaid :=
  OpenClaim.holds_of_wide 8 Try.f8 rfl rfl rfl rfl rfl rfl rfl ⟨rfl, rfl, rfl, rfl, rfl⟩ rfl rfl rfl rfl rfl (by kernel_rfl) Try.func8 (by kernel_rfl)
    (of_decide_eq_true (by kernel_rfl)) (by unfold Func.isWrapper; first | (rw [if_pos (by decide +kernel)]; kernel_rfl) | (rw [if_neg (by decide +kernel)]; exact ⟨rfl, rfl⟩))
    (fun os started H enc _ => rewriteMeans_lifted os started H enc)
end Go.Proofs.Ytkoipdlkkchmiaa
