/- The rows of these laws and their tied cards are proved: for every input the law returns true and each argument reads as before, the listed variable being tied to the text. -/
import Derived.Test.YtoiafcoaeomnlaaDoorK1
import Derived.Test.YtoiafcoaeomnlaaDoorL8
namespace Go.Proofs.YtoiafcoaeomnlaaDoor
open Go Go.RowKit Go.ChangeShapes Go.WideShapes Go.ChangeAt Go.Proofs.Wit
set_option maxRecDepth 100000 in
theorem relationSteps_lifted (os : Os) (started : os.Started) (H : Type) (enc : TypeId × Value → H) :
    ReturnsInHanded {} Tryd.checked os 6 .any (fun w args => (Rows.relationStepsSpec.pre enc Tryd.prog Tryd.f6 [] false w args ∧ laidMetH Tryd.prog Rows.relationStepsRow.laid w) ∧ sizedMet enc Tryd.prog Tryd.f6 (OpenSpec.ofChange Rows.relationStepsSpec) false w args)
      (Rows.relationStepsSpec.post enc Tryd.prog Tryd.f6 false true false false) := by
  refine returnsInHanded_of_change_and (C := Tryd.checked) (X := fun w _ => laidMetH Tryd.prog Rows.relationStepsRow.laid w) (fun _ _ _ hh h => h.of_heap hh) ownK started (by kernel_rfl) Tryd.func6
    (ChangeSpec.witness_shaped (enc := enc) (C := Tryd.checked) (os := os) (X := fun w _ => laidMetH Tryd.prog Rows.relationStepsRow.laid w) false (World.laidAll Tryd.prog os Rows.relationStepsRow.laid) #[.slice none 0 0, .int .u64 0, .int .u64 0] 8 (World.laidAll_os _ _ _)
      (World.shaped_of_ZipB (by kernel_rfl) (by kernel_rfl)) (by kernel_rfl) (by kernel_rfl) (by kernel_rfl)
      (by rw [MakeChecks.laidMetH_plain _ _ _ (by kernel_rfl)]; exact laidMet_laidAll _ (by kernel_rfl) (by kernel_rfl))) ?_
  intro W base args ds gs before hval0 hW _ _ hL _
  have hval : ∀ (j : Nat) t v, Tryd.f6.params[j]? = some t → args[j]? = some v → Value.okWide Tryd.prog W .any base t v := hval0
  have hW' := hW
  obtain ⟨p, q, hA0, hV, rfl, _, _⟩ := hW
  have hA : DataW.TrodAll enc Tryd.prog W 0 (fun _ => true) true Tryd.f6.params.toList args.toList ds p := hA0
  have hT := tab_of_laid hL
  have hlt : ∀ x ∈ p, x.block < W.heap.size := fun x hx => by simpa using hW'.lt x (by simp [hx])
  have hAk := hA
  rw [Tryd.params6] at hA hval
  obtain ⟨v0, v1, v2, d0, d1, d2, p0, p1, p2, rfl, rfl, rfl, h0, h1, h2⟩ := trodAll_three hA
  obtain ⟨rfl, rfl⟩ := trodVars_none hV
  obtain ⟨a0, xs0, c0, rfl, hs0, hl0, hc0⟩ := open_words Tryd.underlying22 Tryd.underlying27 (by kernel_rfl) h0 (fun x hx => hlt x (by simp [hx])) (hval 0 22 v0 rfl rfl)
  obtain ⟨x1, rfl, rfl, hp1, wf1⟩ := open_int Tryd.underlying27 (hval 1 27 v1 rfl rfl) h1
  obtain ⟨x2, rfl, rfl, hp2, wf2⟩ := open_int Tryd.underlying27 (hval 2 27 v2 rfl rfl) h2
  have fin := steps_c a0 c0 xs0 (BitVec.ofInt 64 x1) (BitVec.ofInt 64 x2) W hT hs0 hl0
  rw [← wf_u64 wf1] at fin
  rw [← wf_u64 wf2] at fin
  refine Calls.mono fin (fun e W' ⟨v, hv, he, hr⟩ => ?_)
  subst hv; subst hr
  have hb : Below W.heap.size W W' := he.toBelow
  refine ⟨_, rfl, ⟨_, _, _, [], _, [], hW', trodAll_mk1 (shut_bool Tryd.underlying4 true), trodAll_stays laidOk hb (by kernel_rfl) hAk hlt, rfl, hb.frame _, fun h => by cases h⟩⟩
theorem relationSteps_holds : Rows.RelationStepsSaid :=
  OpenClaim.holds_of_wide 6 Tryd.f6 rfl rfl rfl rfl rfl rfl rfl ⟨rfl, rfl, rfl, rfl, rfl⟩ rfl rfl rfl rfl rfl (by kernel_rfl) Tryd.func6 (by kernel_rfl)
    (of_decide_eq_true (by kernel_rfl)) (by unfold Func.isWrapper; first | (rw [if_pos (by decide +kernel)]; kernel_rfl) | (rw [if_neg (by decide +kernel)]; exact ⟨rfl, rfl⟩))
    (fun os started H enc _ => relationSteps_lifted os started H enc)
theorem relationSteps_card : Rows.RelationStepsCardSaid :=
  Claim7.holds_tied_plain_at .later [] [.data] true (true, "46591c4af33484dc9bf1d8d9d54c523421315ab885b89f3713062cc7d823908a") false relationSteps_holds (fun _ h => by cases h) (by kernel_rfl) (fun _ h => by cases h) relationSteps_row_tie rfl ⟨rfl, rfl⟩ (by kernel_rfl) rfl
    (fun f fn hf hfn => by
      obtain rfl : f = 6 := Option.some.inj ((show Tryd.prog.funcNamed "witting/wittinglaw02.RelationSteps" = some 6 by kernel_rfl).symm.trans hf) |>.symm
      obtain rfl : fn = Tryd.f6 := (Option.some.inj (Tryd.func6.symm.trans hfn)).symm
      exact ⟨by kernel_rfl, fun j t ht => by
        rw [Tryd.params6] at ht
        have hm : t ∈ [22, 27, 27] := by simpa using Array.mem_of_getElem? ht
        have hall : ([22, 27, 27].all fun u => !Tryd.prog.wantsStandIn u) = true := by kernel_rfl
        exact (show Tryd.prog.wantsStandIn t = false by simpa using List.all_eq_true.1 hall t hm)⟩)
    (by kernel_rfl)
end Go.Proofs.YtoiafcoaeomnlaaDoor
