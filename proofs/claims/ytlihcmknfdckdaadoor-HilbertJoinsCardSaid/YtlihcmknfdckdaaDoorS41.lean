/- The rows of these laws and their tied cards are proved: for every input the law returns true and each argument reads as before, the listed variables being tied to the text. -/
import Derived.Test.YtlihcmknfdckdaaDoorS33
import Derived.Test.YtlihcmknfdckdaaDoorS40
import Derived.Test.YtlihcmknfdckdaaDoorS04
namespace Go.Proofs.YtlihcmknfdckdaaDoor
open Go Go.RowKit Go.ChangeShapes Go.WideShapes Go.ChangeAt Go.Proofs.Wit
set_option maxRecDepth 100000 in
theorem hilbertJoins_lifted (os : Os) (started : os.Started) (H : Type) (enc : TypeId × Value → H) :
  ReturnsInHanded {} Tryd.checked os 10 .any (fun w args => (Rows.hilbertJoinsSpec.pre enc Tryd.prog Tryd.f10 [] false w args ∧ laidMetH Tryd.prog Rows.hilbertJoinsRow.laid w) ∧ sizedMet enc Tryd.prog Tryd.f10 (OpenSpec.ofChange Rows.hilbertJoinsSpec) false w args)
   (Rows.hilbertJoinsSpec.post enc Tryd.prog Tryd.f10 false true false false) := by
 refine returnsInHanded_of_change_and (C := Tryd.checked) (X := fun w _ => laidMetH Tryd.prog Rows.hilbertJoinsRow.laid w) (fun _ _ _ hh h => h.of_heap hh) ownK started (by kernel_rfl) Tryd.func10
  (ChangeSpec.witness_shaped (enc := enc) (C := Tryd.checked) (os := os) (X := fun w _ => laidMetH Tryd.prog Rows.hilbertJoinsRow.laid w) false (World.doorLaid Tryd.prog 600 os) #[.int .i64 0, .slice none 0 0, .slice none 0 0] 8 rfl (World.shaped_of_RefB (by kernel_rfl) (by kernel_rfl)) (by kernel_rfl) (by kernel_rfl) (by kernel_rfl) (door_met os _)) ?_
 intro W base args ds gs before hval0 hW _ _ hL _
 have hval : ∀ (j : Nat) t v, Tryd.f10.params[j]? = some t → args[j]? = some v → Value.okWide Tryd.prog W .any base t v := hval0
 have hW' := hW
 obtain ⟨p, q, hA0, hV, rfl, _, _⟩ := hW
 have hA : DataW.TrodAll enc Tryd.prog W 0 (fun _ => true) true Tryd.f10.params.toList args.toList ds p := hA0
 have hT := axs_of_laid hL
 have hlt : ∀ x ∈ p, x.block < W.heap.size := fun x hx => by simpa using hW'.lt x (by simp [hx])
 have hAk := hA
 rw [Tryd.params10] at hA hval
 obtain ⟨v0, v1, v2, d0, d1, d2, p0, p1, p2, rfl, rfl, rfl, h0, h1, h2⟩ := trodAll_three hA
 obtain ⟨rfl, rfl⟩ := trodVars_none hV
 obtain ⟨n0, hv0⟩ := okWide_int Tryd.underlying3 (hval 0 3 v0 rfl rfl)
 subst hv0
 obtain ⟨a1, ls1, c1, rfl, hs1, hl1, hc1⟩ := open_lines Tryd.underlying22 Tryd.underlying40 (by kernel_rfl) (by kernel_rfl) Tryd.underlying3 Tryd.underlying3 Tryd.underlying3 Tryd.underlying3 Tryd.underlying23 Tryd.underlying80 (by kernel_rfl) (by kernel_rfl) Tryd.underlying3 Tryd.underlying3 Tryd.underlying3 Tryd.underlying3 Tryd.underlying3 Tryd.underlying3 h1 (hval 1 22 v1 rfl rfl)
 obtain ⟨a2, ls2, c2, rfl, hs2, hl2, hc2⟩ := open_lines Tryd.underlying22 Tryd.underlying40 (by kernel_rfl) (by kernel_rfl) Tryd.underlying3 Tryd.underlying3 Tryd.underlying3 Tryd.underlying3 Tryd.underlying23 Tryd.underlying80 (by kernel_rfl) (by kernel_rfl) Tryd.underlying3 Tryd.underlying3 Tryd.underlying3 Tryd.underlying3 Tryd.underlying3 Tryd.underlying3 h2 (hval 2 22 v2 rfl rfl)
 have fin := hilbertJoins_c n0 a1 c1 ls1 a2 c2 ls2 W hT hs1 hs2
 refine Calls.mono fin (fun e W' ⟨v, hv, he, hr⟩ => ?_)
 subst hv; subst hr
 have hb : Below W.heap.size W W' := he.toBelow
 refine ⟨_, rfl, ⟨_, _, _, [], _, [], hW', trodAll_mk1 (shut_bool Tryd.underlying4 true), trodAll_stays laidOk hb (by kernel_rfl) hAk hlt, rfl, hb.frame _, fun h => by cases h⟩⟩
theorem hilbertJoins_holds : Rows.HilbertJoinsSaid :=
 OpenClaim.holds_of_wide 10 Tryd.f10 rfl rfl rfl rfl rfl rfl rfl ⟨rfl, rfl, rfl, rfl, rfl⟩ rfl rfl rfl rfl rfl (by kernel_rfl) Tryd.func10 (by kernel_rfl)
  (of_decide_eq_true (by kernel_rfl)) (by unfold Func.isWrapper; first | (rw [if_pos (by decide +kernel)]; kernel_rfl) | (rw [if_neg (by decide +kernel)]; exact ⟨rfl, rfl⟩))
  (fun os started H enc _ => hilbertJoins_lifted os started H enc)
theorem hilbertJoins_card : Rows.HilbertJoinsCardSaid :=
 Claim7.holds_tied_plain_at .later [] [.funcs] true (true, "eaa8e28010de35d750abf47484d5236c85ad7b799dc361f13b12b76f14c0c105") false hilbertJoins_holds (fun _ h => by cases h) (by kernel_rfl) (fun _ h => by cases h) hilbertJoins_row_tie rfl ⟨rfl, rfl⟩ (by kernel_rfl) rfl
  (fun f fn hf hfn => by
   obtain rfl : f = 10 := Option.some.inj ((show Tryd.prog.funcNamed "witting/wittinglaw49.HilbertJoins" = some 10 by kernel_rfl).symm.trans hf) |>.symm
   obtain rfl : fn = Tryd.f10 := (Option.some.inj (Tryd.func10.symm.trans hfn)).symm
   exact ⟨by kernel_rfl, fun j t ht => by
    rw [Tryd.params10] at ht
    have hm : t ∈ [3, 22, 22] := by simpa using Array.mem_of_getElem? ht
    have hall : ([3, 22, 22].all fun u => !Tryd.prog.wantsStandIn u) = true := by kernel_rfl
    exact (show Tryd.prog.wantsStandIn t = false by simpa using List.all_eq_true.1 hall t hm)⟩)
  (by kernel_rfl)
set_option maxRecDepth 100000 in
theorem hilbertPrunes_lifted (os : Os) (started : os.Started) (H : Type) (enc : TypeId × Value → H) :
  ReturnsInHanded {} Tryd.checked os 9 .any (fun w args => (Rows.hilbertPrunesSpec.pre enc Tryd.prog Tryd.f9 [] false w args ∧ laidMetH Tryd.prog Rows.hilbertPrunesRow.laid w) ∧ sizedMet enc Tryd.prog Tryd.f9 (OpenSpec.ofChange Rows.hilbertPrunesSpec) false w args)
   (Rows.hilbertPrunesSpec.post enc Tryd.prog Tryd.f9 false true false false) := by
 refine returnsInHanded_of_change_and (C := Tryd.checked) (X := fun w _ => laidMetH Tryd.prog Rows.hilbertPrunesRow.laid w) (fun _ _ _ hh h => h.of_heap hh) ownK started (by kernel_rfl) Tryd.func9
  (ChangeSpec.witness_shaped (enc := enc) (C := Tryd.checked) (os := os) (X := fun w _ => laidMetH Tryd.prog Rows.hilbertPrunesRow.laid w) false (World.doorLaid Tryd.prog 600 os) #[.int .i64 0, .slice none 0 0] 8 rfl (World.shaped_of_RefB (by kernel_rfl) (by kernel_rfl)) (by kernel_rfl) (by kernel_rfl) (by kernel_rfl) (door_met os _)) ?_
 intro W base args ds gs before hval0 hW _ _ hL _
 have hval : ∀ (j : Nat) t v, Tryd.f9.params[j]? = some t → args[j]? = some v → Value.okWide Tryd.prog W .any base t v := hval0
 have hW' := hW
 obtain ⟨p, q, hA0, hV, rfl, _, _⟩ := hW
 have hA : DataW.TrodAll enc Tryd.prog W 0 (fun _ => true) true Tryd.f9.params.toList args.toList ds p := hA0
 have hT := axs_of_laid hL
 have hlt : ∀ x ∈ p, x.block < W.heap.size := fun x hx => by simpa using hW'.lt x (by simp [hx])
 have hAk := hA
 rw [Tryd.params9] at hA hval
 obtain ⟨v0, v1, d0, d1, p0, p1, rfl, rfl, rfl, h0, h1⟩ := trodAll_two hA
 obtain ⟨rfl, rfl⟩ := trodVars_none hV
 obtain ⟨n0, hv0⟩ := okWide_int Tryd.underlying3 (hval 0 3 v0 rfl rfl)
 subst hv0
 obtain ⟨a1, ls1, c1, rfl, hs1, hl1, hc1⟩ := open_lines Tryd.underlying22 Tryd.underlying40 (by kernel_rfl) (by kernel_rfl) Tryd.underlying3 Tryd.underlying3 Tryd.underlying3 Tryd.underlying3 Tryd.underlying23 Tryd.underlying80 (by kernel_rfl) (by kernel_rfl) Tryd.underlying3 Tryd.underlying3 Tryd.underlying3 Tryd.underlying3 Tryd.underlying3 Tryd.underlying3 h1 (hval 1 22 v1 rfl rfl)
 have fin := hilbertPrunes_c n0 a1 c1 ls1 W hT hs1
 refine Calls.mono fin (fun e W' ⟨v, hv, he, hr⟩ => ?_)
 subst hv; subst hr
 have hb : Below W.heap.size W W' := he.toBelow
 refine ⟨_, rfl, ⟨_, _, _, [], _, [], hW', trodAll_mk1 (shut_bool Tryd.underlying4 true), trodAll_stays laidOk hb (by kernel_rfl) hAk hlt, rfl, hb.frame _, fun h => by cases h⟩⟩
theorem hilbertPrunes_holds : Rows.HilbertPrunesSaid :=
 OpenClaim.holds_of_wide 9 Tryd.f9 rfl rfl rfl rfl rfl rfl rfl ⟨rfl, rfl, rfl, rfl, rfl⟩ rfl rfl rfl rfl rfl (by kernel_rfl) Tryd.func9 (by kernel_rfl)
  (of_decide_eq_true (by kernel_rfl)) (by unfold Func.isWrapper; first | (rw [if_pos (by decide +kernel)]; kernel_rfl) | (rw [if_neg (by decide +kernel)]; exact ⟨rfl, rfl⟩))
  (fun os started H enc _ => hilbertPrunes_lifted os started H enc)
theorem hilbertPrunes_card : Rows.HilbertPrunesCardSaid :=
 Claim7.holds_tied_plain_at .later [] [.funcs] true (true, "eaa8e28010de35d750abf47484d5236c85ad7b799dc361f13b12b76f14c0c105") false hilbertPrunes_holds (fun _ h => by cases h) (by kernel_rfl) (fun _ h => by cases h) hilbertPrunes_row_tie rfl ⟨rfl, rfl⟩ (by kernel_rfl) rfl
  (fun f fn hf hfn => by
   obtain rfl : f = 9 := Option.some.inj ((show Tryd.prog.funcNamed "witting/wittinglaw49.HilbertPrunes" = some 9 by kernel_rfl).symm.trans hf) |>.symm
   obtain rfl : fn = Tryd.f9 := (Option.some.inj (Tryd.func9.symm.trans hfn)).symm
   exact ⟨by kernel_rfl, fun j t ht => by
    rw [Tryd.params9] at ht
    have hm : t ∈ [3, 22] := by simpa using Array.mem_of_getElem? ht
    have hall : ([3, 22].all fun u => !Tryd.prog.wantsStandIn u) = true := by kernel_rfl
    exact (show Tryd.prog.wantsStandIn t = false by simpa using List.all_eq_true.1 hall t hm)⟩)
  (by kernel_rfl)
end Go.Proofs.YtlihcmknfdckdaaDoor
