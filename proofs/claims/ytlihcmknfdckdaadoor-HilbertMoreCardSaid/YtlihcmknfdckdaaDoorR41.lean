/- The rows of these laws and their tied cards are proved: for every input the law returns true and each argument reads as before, the listed variables being tied to the text. -/
import Derived.Test.YtlihcmknfdckdaaDoorR34
import Derived.Test.YtlihcmknfdckdaaDoorR40
import Derived.Test.YtlihcmknfdckdaaDoorR04
namespace Go.Proofs.YtlihcmknfdckdaaDoor
open Go Go.RowKit Go.ChangeShapes Go.WideShapes Go.ChangeAt Go.Proofs.Wit
set_option maxRecDepth 100000 in
theorem hilbertMore_lifted (os : Os) (started : os.Started) (H : Type) (enc : TypeId × Value → H) :
    ReturnsInHanded {} Tryd.checked os 6 .any (fun w args => (Rows.hilbertMoreSpec.pre enc Tryd.prog Tryd.f6 [] false w args ∧ laidMetH Tryd.prog Rows.hilbertMoreRow.laid w) ∧ sizedMet enc Tryd.prog Tryd.f6 (OpenSpec.ofChange Rows.hilbertMoreSpec) false w args)
      (Rows.hilbertMoreSpec.post enc Tryd.prog Tryd.f6 false true false false) := by
  refine returnsInHanded_of_change_and (C := Tryd.checked) (X := fun w _ => laidMetH Tryd.prog Rows.hilbertMoreRow.laid w) (fun _ _ _ hh h => h.of_heap hh) ownK started (by kernel_rfl) Tryd.func6
    (ChangeSpec.witness_shaped (enc := enc) (C := Tryd.checked) (os := os) (X := fun w _ => laidMetH Tryd.prog Rows.hilbertMoreRow.laid w) false (World.doorLaid Tryd.prog 600 os) #[.slice none 0 0] 8 rfl (World.shaped_of_RefB (by kernel_rfl) (by kernel_rfl)) (by kernel_rfl) (by kernel_rfl) (by kernel_rfl) (door_met os _)) ?_
  intro W base args ds gs before hval0 hW _ _ hL _
  have hval : ∀ (j : Nat) t v, Tryd.f6.params[j]? = some t → args[j]? = some v → Value.okWide Tryd.prog W .any base t v := hval0
  have hW' := hW
  obtain ⟨p, q, hA0, hV, rfl, _, _⟩ := hW
  have hA : DataW.TrodAll enc Tryd.prog W 0 (fun _ => true) true Tryd.f6.params.toList args.toList ds p := hA0
  have hT := axs_of_laid hL
  have hlt : ∀ x ∈ p, x.block < W.heap.size := fun x hx => by simpa using hW'.lt x (by simp [hx])
  have hAk := hA
  rw [Tryd.params6] at hA hval
  obtain ⟨v0, d0, rfl, rfl, h0⟩ := trodAll_one hA
  obtain ⟨rfl, rfl⟩ := trodVars_none hV
  obtain ⟨a0, ls0, c0, rfl, hs0, hl0, hc0⟩ := open_lines Tryd.underlying22 Tryd.underlying40 (by kernel_rfl) (by kernel_rfl) Tryd.underlying3 Tryd.underlying3 Tryd.underlying3 Tryd.underlying3 Tryd.underlying23 Tryd.underlying80 (by kernel_rfl) (by kernel_rfl) Tryd.underlying3 Tryd.underlying3 Tryd.underlying3 Tryd.underlying3 Tryd.underlying3 Tryd.underlying3 h0 (hval 0 22 v0 rfl rfl)
  have fin := hilbertMore_c a0 c0 ls0 W hT hs0
  refine Calls.mono fin (fun e W' ⟨v, hv, he, hr⟩ => ?_)
  subst hv; subst hr
  have hb : Below W.heap.size W W' := he.toBelow
  refine ⟨_, rfl, ⟨_, _, _, [], _, [], hW', trodAll_mk1 (shut_bool Tryd.underlying4 true), trodAll_stays laidOk hb (by kernel_rfl) hAk hlt, rfl, hb.frame _, fun h => by cases h⟩⟩
theorem hilbertMore_holds : Rows.HilbertMoreSaid :=
  OpenClaim.holds_of_wide 6 Tryd.f6 rfl rfl rfl rfl rfl rfl rfl ⟨rfl, rfl, rfl, rfl, rfl⟩ rfl rfl rfl rfl rfl (by kernel_rfl) Tryd.func6 (by kernel_rfl)
    (of_decide_eq_true (by kernel_rfl)) (by unfold Func.isWrapper; first | (rw [if_pos (by decide +kernel)]; kernel_rfl) | (rw [if_neg (by decide +kernel)]; exact ⟨rfl, rfl⟩))
    (fun os started H enc _ => hilbertMore_lifted os started H enc)
theorem hilbertMore_card : Rows.HilbertMoreCardSaid :=
  Claim7.holds_tied_plain_at .later [] [.funcs] true (true, "eaa8e28010de35d750abf47484d5236c85ad7b799dc361f13b12b76f14c0c105") false hilbertMore_holds (fun _ h => by cases h) (by kernel_rfl) (fun _ h => by cases h) hilbertMore_row_tie rfl ⟨rfl, rfl⟩ (by kernel_rfl) rfl
    (fun f fn hf hfn => by
      obtain rfl : f = 6 := Option.some.inj ((show Tryd.prog.funcNamed "witting/wittinglaw49.HilbertMore" = some 6 by kernel_rfl).symm.trans hf) |>.symm
      obtain rfl : fn = Tryd.f6 := (Option.some.inj (Tryd.func6.symm.trans hfn)).symm
      exact ⟨by kernel_rfl, fun j t ht => by
        rw [Tryd.params6] at ht
        have hm : t ∈ [22] := by simpa using Array.mem_of_getElem? ht
        have hall : ([22].all fun u => !Tryd.prog.wantsStandIn u) = true := by kernel_rfl
        exact (show Tryd.prog.wantsStandIn t = false by simpa using List.all_eq_true.1 hall t hm)⟩)
    (by kernel_rfl)
set_option maxRecDepth 100000 in
theorem hilbertSound_lifted (os : Os) (started : os.Started) (H : Type) (enc : TypeId × Value → H) :
    ReturnsInHanded {} Tryd.checked os 5 .any (fun w args => (Rows.hilbertSoundSpec.pre enc Tryd.prog Tryd.f5 [] false w args ∧ laidMetH Tryd.prog Rows.hilbertSoundRow.laid w) ∧ sizedMet enc Tryd.prog Tryd.f5 (OpenSpec.ofChange Rows.hilbertSoundSpec) false w args)
      (Rows.hilbertSoundSpec.post enc Tryd.prog Tryd.f5 false true false false) := by
  refine returnsInHanded_of_change_and (C := Tryd.checked) (X := fun w _ => laidMetH Tryd.prog Rows.hilbertSoundRow.laid w) (fun _ _ _ hh h => h.of_heap hh) ownK started (by kernel_rfl) Tryd.func5
    (ChangeSpec.witness_shaped (enc := enc) (C := Tryd.checked) (os := os) (X := fun w _ => laidMetH Tryd.prog Rows.hilbertSoundRow.laid w) false (World.doorLaid Tryd.prog 600 os) #[.int .i64 0, .slice none 0 0, .agg #[.int .i64 0, .slice none 0 0, .slice none 0 0]] 8 rfl (World.shaped_of_RefB (by kernel_rfl) (by kernel_rfl)) (by kernel_rfl) (by kernel_rfl) (by kernel_rfl) (door_met os _)) ?_
  intro W base args ds gs before hval0 hW _ _ hL _
  have hval : ∀ (j : Nat) t v, Tryd.f5.params[j]? = some t → args[j]? = some v → Value.okWide Tryd.prog W .any base t v := hval0
  have hW' := hW
  obtain ⟨p, q, hA0, hV, rfl, _, _⟩ := hW
  have hA : DataW.TrodAll enc Tryd.prog W 0 (fun _ => true) true Tryd.f5.params.toList args.toList ds p := hA0
  have hT := axs_of_laid hL
  have hlt : ∀ x ∈ p, x.block < W.heap.size := fun x hx => by simpa using hW'.lt x (by simp [hx])
  have hAk := hA
  rw [Tryd.params5] at hA hval
  obtain ⟨v0, v1, v2, d0, d1, d2, p0, p1, p2, rfl, rfl, rfl, h0, h1, h2⟩ := trodAll_three hA
  obtain ⟨rfl, rfl⟩ := trodVars_none hV
  obtain ⟨n0, hv0⟩ := okWide_int Tryd.underlying3 (hval 0 3 v0 rfl rfl)
  subst hv0
  obtain ⟨a1, ls1, c1, rfl, hs1, hl1, hc1⟩ := open_lines Tryd.underlying22 Tryd.underlying40 (by kernel_rfl) (by kernel_rfl) Tryd.underlying3 Tryd.underlying3 Tryd.underlying3 Tryd.underlying3 Tryd.underlying23 Tryd.underlying80 (by kernel_rfl) (by kernel_rfl) Tryd.underlying3 Tryd.underlying3 Tryd.underlying3 Tryd.underlying3 Tryd.underlying3 Tryd.underlying3 h1 (hval 1 22 v1 rfl rfl)
  obtain ⟨m2, rfl, hm2⟩ := open_model Tryd.underlying35 (by kernel_rfl) (by kernel_rfl) Tryd.underlying3 Tryd.underlying32 Tryd.underlying33 Tryd.underlying32 Tryd.underlying37 (by kernel_rfl) (by kernel_rfl) (hval 2 35 v2 rfl rfl) h2
  have fin := hilbertSound_c n0 a1 c1 ls1 m2 W hT hs1 hm2
  refine Calls.mono fin (fun e W' ⟨v, hv, he, hr⟩ => ?_)
  subst hv; subst hr
  have hb : Below W.heap.size W W' := he.toBelow
  refine ⟨_, rfl, ⟨_, _, _, [], _, [], hW', trodAll_mk1 (shut_bool Tryd.underlying4 true), trodAll_stays laidOk hb (by kernel_rfl) hAk hlt, rfl, hb.frame _, fun h => by cases h⟩⟩
theorem hilbertSound_holds : Rows.HilbertSoundSaid :=
  OpenClaim.holds_of_wide 5 Tryd.f5 rfl rfl rfl rfl rfl rfl rfl ⟨rfl, rfl, rfl, rfl, rfl⟩ rfl rfl rfl rfl rfl (by kernel_rfl) Tryd.func5 (by kernel_rfl)
    (of_decide_eq_true (by kernel_rfl)) (by unfold Func.isWrapper; first | (rw [if_pos (by decide +kernel)]; kernel_rfl) | (rw [if_neg (by decide +kernel)]; exact ⟨rfl, rfl⟩))
    (fun os started H enc _ => hilbertSound_lifted os started H enc)
theorem hilbertSound_card : Rows.HilbertSoundCardSaid :=
  Claim7.holds_tied_plain_at .later [] [.funcs] true (true, "eaa8e28010de35d750abf47484d5236c85ad7b799dc361f13b12b76f14c0c105") false hilbertSound_holds (fun _ h => by cases h) (by kernel_rfl) (fun _ h => by cases h) hilbertSound_row_tie rfl ⟨rfl, rfl⟩ (by kernel_rfl) rfl
    (fun f fn hf hfn => by
      obtain rfl : f = 5 := Option.some.inj ((show Tryd.prog.funcNamed "witting/wittinglaw49.HilbertSound" = some 5 by kernel_rfl).symm.trans hf) |>.symm
      obtain rfl : fn = Tryd.f5 := (Option.some.inj (Tryd.func5.symm.trans hfn)).symm
      exact ⟨by kernel_rfl, fun j t ht => by
        rw [Tryd.params5] at ht
        have hm : t ∈ [3, 22, 35] := by simpa using Array.mem_of_getElem? ht
        have hall : ([3, 22, 35].all fun u => !Tryd.prog.wantsStandIn u) = true := by kernel_rfl
        exact (show Tryd.prog.wantsStandIn t = false by simpa using List.all_eq_true.1 hall t hm)⟩)
    (by kernel_rfl)
set_option maxRecDepth 100000 in
theorem hilbertRefuses_lifted (os : Os) (started : os.Started) (H : Type) (enc : TypeId × Value → H) :
    ReturnsInHanded {} Tryd.checked os 7 .any (fun w args => (Rows.hilbertRefusesSpec.pre enc Tryd.prog Tryd.f7 [] false w args ∧ laidMetH Tryd.prog Rows.hilbertRefusesRow.laid w) ∧ sizedMet enc Tryd.prog Tryd.f7 (OpenSpec.ofChange Rows.hilbertRefusesSpec) false w args)
      (Rows.hilbertRefusesSpec.post enc Tryd.prog Tryd.f7 false true false false) := by
  refine returnsInHanded_of_change_and (C := Tryd.checked) (X := fun w _ => laidMetH Tryd.prog Rows.hilbertRefusesRow.laid w) (fun _ _ _ hh h => h.of_heap hh) ownK started (by kernel_rfl) Tryd.func7
    (ChangeSpec.witness_shaped (enc := enc) (C := Tryd.checked) (os := os) (X := fun w _ => laidMetH Tryd.prog Rows.hilbertRefusesRow.laid w) false (World.doorLaid Tryd.prog 600 os) #[.int .i64 0, .slice none 0 0, .agg #[.int .i64 0, .slice none 0 0, .slice none 0 0]] 8 rfl (World.shaped_of_RefB (by kernel_rfl) (by kernel_rfl)) (by kernel_rfl) (by kernel_rfl) (by kernel_rfl) (door_met os _)) ?_
  intro W base args ds gs before hval0 hW _ _ hL _
  have hval : ∀ (j : Nat) t v, Tryd.f7.params[j]? = some t → args[j]? = some v → Value.okWide Tryd.prog W .any base t v := hval0
  have hW' := hW
  obtain ⟨p, q, hA0, hV, rfl, _, _⟩ := hW
  have hA : DataW.TrodAll enc Tryd.prog W 0 (fun _ => true) true Tryd.f7.params.toList args.toList ds p := hA0
  have hT := axs_of_laid hL
  have hlt : ∀ x ∈ p, x.block < W.heap.size := fun x hx => by simpa using hW'.lt x (by simp [hx])
  have hAk := hA
  rw [Tryd.params7] at hA hval
  obtain ⟨v0, v1, v2, d0, d1, d2, p0, p1, p2, rfl, rfl, rfl, h0, h1, h2⟩ := trodAll_three hA
  obtain ⟨rfl, rfl⟩ := trodVars_none hV
  obtain ⟨n0, hv0⟩ := okWide_int Tryd.underlying3 (hval 0 3 v0 rfl rfl)
  subst hv0
  obtain ⟨a1, ls1, c1, rfl, hs1, hl1, hc1⟩ := open_lines Tryd.underlying22 Tryd.underlying40 (by kernel_rfl) (by kernel_rfl) Tryd.underlying3 Tryd.underlying3 Tryd.underlying3 Tryd.underlying3 Tryd.underlying23 Tryd.underlying80 (by kernel_rfl) (by kernel_rfl) Tryd.underlying3 Tryd.underlying3 Tryd.underlying3 Tryd.underlying3 Tryd.underlying3 Tryd.underlying3 h1 (hval 1 22 v1 rfl rfl)
  obtain ⟨m2, rfl, hm2⟩ := open_model Tryd.underlying35 (by kernel_rfl) (by kernel_rfl) Tryd.underlying3 Tryd.underlying32 Tryd.underlying33 Tryd.underlying32 Tryd.underlying37 (by kernel_rfl) (by kernel_rfl) (hval 2 35 v2 rfl rfl) h2
  have fin := hilbertRefuses_c n0 a1 c1 ls1 m2 W hT hs1 hm2
  refine Calls.mono fin (fun e W' ⟨v, hv, he, hr⟩ => ?_)
  subst hv; subst hr
  have hb : Below W.heap.size W W' := he.toBelow
  refine ⟨_, rfl, ⟨_, _, _, [], _, [], hW', trodAll_mk1 (shut_bool Tryd.underlying4 true), trodAll_stays laidOk hb (by kernel_rfl) hAk hlt, rfl, hb.frame _, fun h => by cases h⟩⟩
theorem hilbertRefuses_holds : Rows.HilbertRefusesSaid :=
  OpenClaim.holds_of_wide 7 Tryd.f7 rfl rfl rfl rfl rfl rfl rfl ⟨rfl, rfl, rfl, rfl, rfl⟩ rfl rfl rfl rfl rfl (by kernel_rfl) Tryd.func7 (by kernel_rfl)
    (of_decide_eq_true (by kernel_rfl)) (by unfold Func.isWrapper; first | (rw [if_pos (by decide +kernel)]; kernel_rfl) | (rw [if_neg (by decide +kernel)]; exact ⟨rfl, rfl⟩))
    (fun os started H enc _ => hilbertRefuses_lifted os started H enc)
theorem hilbertRefuses_card : Rows.HilbertRefusesCardSaid :=
  Claim7.holds_tied_plain_at .later [] [.funcs] true (true, "eaa8e28010de35d750abf47484d5236c85ad7b799dc361f13b12b76f14c0c105") false hilbertRefuses_holds (fun _ h => by cases h) (by kernel_rfl) (fun _ h => by cases h) hilbertRefuses_row_tie rfl ⟨rfl, rfl⟩ (by kernel_rfl) rfl
    (fun f fn hf hfn => by
      obtain rfl : f = 7 := Option.some.inj ((show Tryd.prog.funcNamed "witting/wittinglaw49.HilbertRefuses" = some 7 by kernel_rfl).symm.trans hf) |>.symm
      obtain rfl : fn = Tryd.f7 := (Option.some.inj (Tryd.func7.symm.trans hfn)).symm
      exact ⟨by kernel_rfl, fun j t ht => by
        rw [Tryd.params7] at ht
        have hm : t ∈ [3, 22, 35] := by simpa using Array.mem_of_getElem? ht
        have hall : ([3, 22, 35].all fun u => !Tryd.prog.wantsStandIn u) = true := by kernel_rfl
        exact (show Tryd.prog.wantsStandIn t = false by simpa using List.all_eq_true.1 hall t hm)⟩)
    (by kernel_rfl)
end Go.Proofs.YtlihcmknfdckdaaDoor
