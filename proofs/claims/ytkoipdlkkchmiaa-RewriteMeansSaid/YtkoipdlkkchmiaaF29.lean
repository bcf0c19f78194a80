/- What calls of the program return, under the conditions that each theorem states. -/
import Derived.Test.YtkoipdlkkchmiaaF26
import Derived.Test.YtkoipdlkkchmiaaF27
import Derived.Test.YtkoipdlkkchmiaaF25
import Derived.Test.YtkoipdlkkchmiaaF28
import Derived.Test.YtkoipdlkkchmiaaF03
namespace Go.Proofs.Ytkoipdlkkchmiaa
open Go.RowKit Go.Proofs.Wit
/-! the chapter's examples -/
theorem eq_c (a : Option Addr) (ca : Nat) (f : List NV) (b : Option Addr) (cb : Nat) (g : List NV) (w : World) (ha : FA w a f) (hb : FA w b g) (hl : f.length ≤ 200) (h : f = g) :
    Cn Try.prog 14 [.slice a f.length ca, .slice b g.length cb] w (fun v _ => v = .bool true) := by
  have := rEqual_c a ca f b cb g w ha hb (by unfold maxLen; omega)
  rw [decide_eq_true h] at this; exact this
theorem example_c (w : World) : Cn Try.prog 34 [] w (fun v w' => OwnN 49 w w' v exL) := by
  refine Cn.of Try.func34 rfl rfl ?_
  refine gS (gR ?_)
  refine gAs ?_
  refine gE (gS (gR ?_))
  iterate 5 refine GoH.v (Vop.bld rfl rfl rfl rfl (bld (c := [_, _, _, _, _, _]) Try.underlying49 (Szs.cons Try.sizeOf3 (Szs.cons Try.sizeOf3 (Szs.cons Try.sizeOf3 (Szs.cons Try.sizeOf3 (Szs.cons Try.sizeOf3 (Szs.cons Try.sizeOf3 Szs.nil)))))) Try.zeroValue49 rfl)) ?_
  refine GoH.bsN (c := [_, _, _, _, _, _, _, _, _, _, _, _, _, _, _, _, _, _, _, _, _, _, _, _, _, _, _, _, _, _]) rfl rfl rfl rfl Try.underlying22 Try.sizeOf49 Try.zeroValue49 rfl rfl (fun b6 => ?_)
  refine gAs ?_
  refine gE ?_
  refine GoH.ret Try.f34 Try.func34 rfl (fun w' hS => ?_)
  exact ⟨hS.ext, some b6, 5, [], rfl, (fun e => by cases e), rfl, fun b hb => by cases hb; exact ⟨hS.fresh (j := 0) rfl, hS.get (j := 0) rfl⟩⟩
set_option maxRecDepth 8000 in
theorem awake08_c (w : World) : Cn Try.prog 11 [] w (fun v _ => v = .bool true) := by
  have hl2 : ∀ t : Tr, (bT t).length ≤ 200 := bT_le
  have h0 := f0T_ok 0 (by decide)
  have h1 := f0T_ok 1 (by decide)
  refine Cn.of Try.func11 rfl rfl ?_
  refine gS (gR ?_)
  refine gAs ?_
  refine gE (gS (gR ?_))
  refine GoH.callM _ rfl rfl rfl rfl rfl (fun _ _ => Try.call34 _ _) (fun w _ hS => (by exact example_c w)) ?_
  rintro v w1 w2 Y' hS he ho
  obtain ⟨q0, cap0, sp0, rfl, hq0, hcap0, hS'⟩ := gainN hS he ho
  refine ⟨_, hS', ?_⟩
  refine GoH.callM _ rfl rfl rfl rfl rfl (fun _ _ => Try.call32 _ _) (fun w _ hS => (by exact nnf_c (q0.map (fun b => ⟨b, 0, none⟩)) cap0 exL w (faAt hS 0 rfl (fun e => (hq0 e).1)) (by decide))) ?_
  rintro v w1 w2 Y' hS he ⟨sv, o1, e1, rfl, ho, hn⟩
  obtain ⟨rfl, rfl⟩ := ex_nnf hn
  obtain ⟨q1, cap1, sp1, rfl, hq1, hcap1, hS'⟩ := gainN hS he ho
  refine ⟨_, hS', ?_⟩
  refine gMv ?_
  iterate 2 refine gEx ?_
  iterate 2 refine gAs ?_
  refine gE (gS (gR ?_))
  iterate 5 refine GoH.v (Vop.bld rfl rfl rfl rfl (bld (c := [_, _, _, _, _, _]) Try.underlying49 (Szs.cons Try.sizeOf3 (Szs.cons Try.sizeOf3 (Szs.cons Try.sizeOf3 (Szs.cons Try.sizeOf3 (Szs.cons Try.sizeOf3 (Szs.cons Try.sizeOf3 Szs.nil)))))) Try.zeroValue49 rfl)) ?_
  refine GoH.bsN (c := [_, _, _, _, _, _, _, _, _, _, _, _, _, _, _, _, _, _, _, _, _, _, _, _, _, _, _, _, _, _]) rfl rfl rfl rfl Try.underlying22 Try.sizeOf49 Try.zeroValue49 rfl rfl (fun b23 => ?_)
  refine GoH.callM _ rfl rfl rfl rfl rfl (fun _ _ => Try.call12 _ _) (fun w _ hS => (by exact simplify_c (some ⟨b23, 0, none⟩) 5 exS w ⟨Sl.blk (sp := []) (hS.get (j := 0) rfl)⟩ (by decide))) ?_
  rintro v w1 w2 Y' hS he ⟨sv, o1, e1, rfl, ho, hn⟩
  obtain ⟨rfl, rfl⟩ := ex_sim hn
  obtain ⟨q3, cap3, sp3, rfl, hq3, hcap3, hS'⟩ := gainN hS he ho
  refine ⟨_, hS', ?_⟩
  refine gMv ?_
  iterate 2 refine gEx ?_
  iterate 2 refine gAs ?_
  refine gE (gS (gR ?_))
  iterate 3 refine GoH.v (Vop.bld rfl rfl rfl rfl (bld (c := [_, _, _, _, _, _]) Try.underlying49 (Szs.cons Try.sizeOf3 (Szs.cons Try.sizeOf3 (Szs.cons Try.sizeOf3 (Szs.cons Try.sizeOf3 (Szs.cons Try.sizeOf3 (Szs.cons Try.sizeOf3 Szs.nil)))))) Try.zeroValue49 rfl)) ?_
  refine GoH.bsN (c := [_, _, _, _, _, _, _, _, _, _, _, _, _, _, _, _, _, _]) rfl rfl rfl rfl Try.underlying22 Try.sizeOf49 Try.zeroValue49 rfl rfl (fun b31 => ?_)
  refine GoH.v (Vop.bld rfl rfl rfl rfl (bld (c := [_, _, _, _, _, _]) Try.underlying49 (Szs.cons Try.sizeOf3 (Szs.cons Try.sizeOf3 (Szs.cons Try.sizeOf3 (Szs.cons Try.sizeOf3 (Szs.cons Try.sizeOf3 (Szs.cons Try.sizeOf3 Szs.nil)))))) Try.zeroValue49 rfl)) ?_
  refine GoH.bsN (c := [_, _, _, _, _, _]) rfl rfl rfl rfl Try.underlying22 Try.sizeOf49 Try.zeroValue49 rfl rfl (fun b33 => ?_)
  refine GoH.v (Vop.bld rfl rfl rfl rfl (bld (c := [_, _, _, _, _, _]) Try.underlying49 (Szs.cons Try.sizeOf3 (Szs.cons Try.sizeOf3 (Szs.cons Try.sizeOf3 (Szs.cons Try.sizeOf3 (Szs.cons Try.sizeOf3 (Szs.cons Try.sizeOf3 Szs.nil)))))) Try.zeroValue49 rfl)) ?_
  refine GoH.bsN (c := [_, _, _, _, _, _]) rfl rfl rfl rfl Try.underlying22 Try.sizeOf49 Try.zeroValue49 rfl rfl (fun b35 => ?_)
  refine GoH.bsN (c := [_, _]) rfl rfl rfl rfl Try.underlying29 Try.sizeOf22 Try.zeroValue22 rfl rfl (fun b36 => ?_)
  refine GoH.callM _ rfl rfl rfl rfl rfl (fun _ _ => Try.call15 _ _) (fun w _ hS => (by exact subst_c (some ⟨b31, 0, none⟩) 3 exA (some ⟨b36, 0, none⟩) 2 [⟨some ⟨b33, 0, none⟩, 1, [⟨3, 1, 0, 0, 0, 0⟩]⟩, ⟨some ⟨b35, 0, none⟩, 1, [⟨3, 0, 0, 0, 0, 0⟩]⟩] w ⟨Sl.blk (sp := []) (hS.get (j := 3) rfl)⟩ (by decide) (Sl.blk (sp := []) (hS.get (j := 0) rfl)) (all2 (p := fun g : FV => FA _ g.a g.f) ⟨Sl.blk (sp := []) (hS.get (j := 2) rfl)⟩ ⟨Sl.blk (sp := []) (hS.get (j := 1) rfl)⟩) (all2 (p := fun g : FV => g.f.length ≤ maxLen) (by simp [maxLen]) (by simp [maxLen])) (by simp [maxLen]))) ?_
  rintro v w1 w2 Y' hS he ⟨sv, o1, e1, rfl, ho, hn⟩
  obtain ⟨rfl, rfl⟩ := ex_sub hn
  obtain ⟨q5, cap5, sp5, rfl, hq5, hcap5, hS'⟩ := gainN hS he ho
  refine ⟨_, hS', ?_⟩
  refine gMv ?_
  iterate 2 refine gEx ?_
  iterate 2 refine gAs ?_
  refine gE (gS (gR ?_))
  iterate 2 refine GoH.v (Vop.bld rfl rfl rfl rfl (bld (c := [_, _, _, _, _, _]) Try.underlying49 (Szs.cons Try.sizeOf3 (Szs.cons Try.sizeOf3 (Szs.cons Try.sizeOf3 (Szs.cons Try.sizeOf3 (Szs.cons Try.sizeOf3 (Szs.cons Try.sizeOf3 Szs.nil)))))) Try.zeroValue49 rfl)) ?_
  refine GoH.bsN (c := [_, _, _, _, _, _, _, _, _, _, _, _]) rfl rfl rfl rfl Try.underlying22 Try.sizeOf49 Try.zeroValue49 rfl rfl (fun b43 => ?_)
  refine GoH.callM _ rfl rfl rfl rfl rfl (fun _ _ => Try.call20 _ _) (fun w _ hS => (by exact closure_c (some ⟨b43, 0, none⟩) 2 exN w ⟨Sl.blk (sp := []) (hS.get (j := 0) rfl)⟩ (by decide))) ?_
  rintro v w1 w2 Y' hS he ⟨sv, gs, e1, rfl, ⟨q7, cap7, sp7, H, rfl, hq7, hcap7, hnew, hin⟩, hcl⟩
  obtain ⟨hge, rfl⟩ := ex_clo hcl
  obtain ⟨g0, g1, rfl⟩ : ∃ g0 g1, gs = [g0, g1] := by
    rcases gs with _ | ⟨g0, _ | ⟨g1, _ | ⟨g2, gs⟩⟩⟩
    · simp at hge
    · simp at hge
    · exact ⟨g0, g1, rfl⟩
    · simp at hge
  obtain ⟨he0, he1⟩ : g0.f = bT (f0T 0) ∧ g1.f = bT (ntT (f0T 0)) := by simpa using hge
  obtain ⟨b7, rfl⟩ : ∃ b, q7 = some b := by
    cases q7 with
    | none => exact absurd (hq7 rfl).1 (by simp)
    | some b => exact ⟨b, rfl⟩
  have hi0 := hin g0 (by simp)
  have hi1 := hin g1 (by simp)
  refine ⟨_, hS.gainPre (pre := [_]) he hnew, ?_⟩
  refine gMv ?_
  iterate 2 refine gEx ?_
  iterate 2 refine gAs ?_
  refine gE (gS (gR ?_))
  iterate 2 refine GoH.v (Vop.bld rfl rfl rfl rfl (bld (c := [_, _, _, _, _, _]) Try.underlying49 (Szs.cons Try.sizeOf3 (Szs.cons Try.sizeOf3 (Szs.cons Try.sizeOf3 (Szs.cons Try.sizeOf3 (Szs.cons Try.sizeOf3 (Szs.cons Try.sizeOf3 Szs.nil)))))) Try.zeroValue49 rfl)) ?_
  refine GoH.bsN (c := [_, _, _, _, _, _, _, _, _, _, _, _]) rfl rfl rfl rfl Try.underlying22 Try.sizeOf49 Try.zeroValue49 rfl rfl (fun b50 => ?_)
  refine GoH.callM _ rfl rfl rfl rfl rfl (fun _ _ => Try.call23 _ _) (fun w _ hS => (by exact negateF_c (some ⟨b50, 0, none⟩) 2 exN w ⟨Sl.blk (sp := []) (hS.get (j := 0) rfl)⟩ (by decide))) ?_
  rintro v w1 w2 Y' hS he ⟨sv, o1, e1, rfl, ho, hn⟩
  obtain ⟨rfl, rfl⟩ := ex_neg hn
  obtain ⟨q9, cap9, sp9, rfl, hq9, hcap9, hS'⟩ := gainN hS he ho
  refine ⟨_, hS', ?_⟩
  refine gMv ?_
  iterate 2 refine gEx ?_
  iterate 2 refine gAs ?_
  refine gE (gS (gS (gR ?_)))
  refine gMv ?_
  refine GoH.v (Vop.bin rfl rfl rfl rfl (bNeV (v := false) rfl) rfl) ?_
  iterate 2 refine gMv ?_
  refine GoH.v (Vop.bin rfl rfl rfl rfl (bNeV (v := false) rfl) rfl) ?_
  refine gPf ?_
  iterate 2 refine gMv ?_
  refine GoH.v (Vop.bin rfl rfl rfl rfl (bNeV (v := false) rfl) rfl) ?_
  refine gPf ?_
  iterate 2 refine gMv ?_
  refine GoH.v (Vop.bin rfl rfl rfl rfl (bNeV (v := false) rfl) rfl) ?_
  refine gPf ?_
  iterate 2 refine gMv ?_
  refine GoH.v (Vop.bin rfl rfl rfl rfl (bNeV (v := false) rfl) rfl) ?_
  refine gPf ?_
  iterate 2 refine gMv ?_
  refine gBl Try.underlying29 ?_
  refine GoH.v (Vop.bin rfl rfl rfl rfl (bNeV (v := false) rfl) rfl) ?_
  refine gPf ?_
  refine gE (GoH.condF rfl (gK (gS (gR ?_))))
  refine GoH.callM _ rfl rfl rfl rfl rfl (fun _ _ => Try.call36 _ _) (fun w _ hS => (by exact rfact_c 0 (by decide) w)) ?_
  rintro v w1 w2 Y' hS he ho
  obtain ⟨q77, cap77, sp77, rfl, hq77, hcap77, hS'⟩ := gainN hS he ho
  refine ⟨_, hS', ?_⟩
  refine GoH.callM _ rfl rfl rfl rfl rfl (fun _ _ => Try.call36 _ _) (fun w _ hS => (by exact rfact_c 1 (by decide) w)) ?_
  rintro v w1 w2 Y' hS he ho
  obtain ⟨q78, cap78, sp78, rfl, hq78, hcap78, hS'⟩ := gainN hS he ho
  refine ⟨_, hS', ?_⟩
  refine GoH.callM _ rfl rfl rfl rfl rfl (fun _ _ => Try.call38 _ _) (fun w _ hS => (by exact rnot_c (q78.map (fun b => ⟨b, 0, none⟩)) cap78 _ (f0T 1) w (faAt hS 0 rfl (fun e => (hq78 e).1)) rfl h1)) ?_
  rintro v w1 w2 Y' hS he ho
  obtain ⟨q79, cap79, sp79, rfl, hq79, hcap79, hS'⟩ := gainN hS he ho
  refine ⟨_, hS', ?_⟩
  refine GoH.callM _ rfl rfl rfl rfl rfl (fun _ _ => Try.call37 _ _) (fun w _ hS => (by exact rposs_c 1 (by decide) (q79.map (fun b => ⟨b, 0, none⟩)) cap79 _ (ntT (f0T 1)) w (faAt hS 0 rfl (fun e => (hq79 e).1)) rfl (ntT_ok h1))) ?_
  rintro v w1 w2 Y' hS he ho
  obtain ⟨q80, cap80, sp80, rfl, hq80, hcap80, hS'⟩ := gainN hS he ho
  refine ⟨_, hS', ?_⟩
  refine GoH.callM _ rfl rfl rfl rfl rfl (fun _ _ => Try.call35 _ _) (fun w _ hS => (by exact rand_c (q77.map (fun b => ⟨b, 0, none⟩)) cap77 _ (f0T 0) (q80.map (fun b => ⟨b, 0, none⟩)) cap80 _ (.un 10 1 0 0 (ntT (f0T 1))) w (faAt hS 3 rfl (fun e => (hq77 e).1)) rfl h0 (faAt hS 0 rfl (fun e => (hq80 e).1)) rfl (knP_ok (.inr rfl) (by decide) (ntT_ok h1)))) ?_
  rintro v w1 w2 Y' hS he ho
  obtain ⟨q81, cap81, sp81, rfl, hq81, hcap81, hS'⟩ := gainN hS he ho
  refine ⟨_, hS', ?_⟩
  refine gAs ?_
  refine gE (gS ?_)
  refine GoH.drawCh 37 mixed ?_
  refine RdC.v (i := 0) (Vop.mv rfl rfl rfl rfl) rfl rfl (by repeat (first | exact List.Sublist.refl _ | exact List.nil_sublist _ | refine List.Sublist.cons_cons _ ?_ | refine List.Sublist.cons _ ?_)) ?_
  refine RdC.v (i := 1) (Vop.mv rfl rfl rfl rfl) rfl rfl (by repeat (first | exact List.Sublist.refl _ | exact List.nil_sublist _ | refine List.Sublist.cons_cons _ ?_ | refine List.Sublist.cons _ ?_)) ?_
  refine RdC.callP (i := 2) rfl rfl rfl rfl rfl rfl (fun _ _ => Try.call14 _ _) (fun w _ hS => (by exact eq_c (q1.map (fun b => ⟨b, 0, none⟩)) cap1 _ (q81.map (fun b => ⟨b, 0, none⟩)) cap81 _ w (faAt hS 16 rfl (fun e => (hq1 e).1)) (faAt hS 0 rfl (fun e => (hq81 e).1)) (hl2 _) rfl)) (by repeat (first | exact List.Sublist.refl _ | exact List.nil_sublist _ | refine List.Sublist.cons_cons _ ?_ | refine List.Sublist.cons _ ?_)) ?_
  refine RdC.v (i := 3) (Vop.mv rfl rfl rfl rfl) rfl rfl (by repeat (first | exact List.Sublist.refl _ | exact List.nil_sublist _ | refine List.Sublist.cons_cons _ ?_ | refine List.Sublist.cons _ ?_)) ?_
  refine RdC.v (i := 4) (Vop.mv rfl rfl rfl rfl) rfl rfl (by repeat (first | exact List.Sublist.refl _ | exact List.nil_sublist _ | refine List.Sublist.cons_cons _ ?_ | refine List.Sublist.cons _ ?_)) ?_
  refine RdC.call (i := 5) _ rfl rfl rfl rfl rfl rfl (fun _ _ => Try.call39 _ _) (fun w _ hS => (by exact rtrue_c w)) ?_
  rintro v w1 w2 Y' hS he ho
  obtain ⟨r1, capr1, spr1, rfl, hqr1, hcapr1, hS'⟩ := gainN hS he ho
  refine ⟨_, hS', (by repeat (first | exact List.Sublist.refl _ | refine List.Sublist.cons _ ?_)), ?_⟩
  refine RdC.callP (i := 6) rfl rfl rfl rfl rfl rfl (fun _ _ => Try.call14 _ _) (fun w _ hS => (by exact eq_c (q3.map (fun b => ⟨b, 0, none⟩)) cap3 _ (r1.map (fun b => ⟨b, 0, none⟩)) capr1 _ w (faAt hS 15 rfl (fun e => (hq3 e).1)) (faAt hS 0 rfl (fun e => (hqr1 e).1)) (hl2 _) rfl)) (by repeat (first | exact List.Sublist.refl _ | exact List.nil_sublist _ | refine List.Sublist.cons_cons _ ?_ | refine List.Sublist.cons _ ?_)) ?_
  refine RdC.v (i := 7) (Vop.pickT rfl rfl rfl rfl rfl) rfl rfl (by repeat (first | exact List.Sublist.refl _ | exact List.nil_sublist _ | refine List.Sublist.cons_cons _ ?_ | refine List.Sublist.cons _ ?_)) ?_
  refine RdC.v (i := 8) (Vop.mv rfl rfl rfl rfl) rfl rfl (by repeat (first | exact List.Sublist.refl _ | exact List.nil_sublist _ | refine List.Sublist.cons_cons _ ?_ | refine List.Sublist.cons _ ?_)) ?_
  refine RdC.v (i := 9) (Vop.mv rfl rfl rfl rfl) rfl rfl (by repeat (first | exact List.Sublist.refl _ | exact List.nil_sublist _ | refine List.Sublist.cons_cons _ ?_ | refine List.Sublist.cons _ ?_)) ?_
  refine RdC.call (i := 10) _ rfl rfl rfl rfl rfl rfl (fun _ _ => Try.call36 _ _) (fun w _ hS => (by exact rfact_c 1 (by decide) w)) ?_
  rintro v w1 w2 Y' hS he ho
  obtain ⟨r2, capr2, spr2, rfl, hqr2, hcapr2, hS'⟩ := gainN hS he ho
  refine ⟨_, hS', (by repeat (first | exact List.Sublist.refl _ | refine List.Sublist.cons _ ?_)), ?_⟩
  refine RdC.call (i := 11) _ rfl rfl rfl rfl rfl rfl (fun _ _ => Try.call36 _ _) (fun w _ hS => (by exact rfact_c 0 (by decide) w)) ?_
  rintro v w1 w2 Y' hS he ho
  obtain ⟨r3, capr3, spr3, rfl, hqr3, hcapr3, hS'⟩ := gainN hS he ho
  refine ⟨_, hS', (by repeat (first | exact List.Sublist.refl _ | refine List.Sublist.cons _ ?_)), ?_⟩
  refine RdC.call (i := 12) _ rfl rfl rfl rfl rfl rfl (fun _ _ => Try.call35 _ _) (fun w _ hS => (by exact rand_c (r2.map (fun b => ⟨b, 0, none⟩)) capr2 _ (f0T 1) (r3.map (fun b => ⟨b, 0, none⟩)) capr3 _ (f0T 0) w (faAt hS 1 rfl (fun e => (hqr2 e).1)) rfl h1 (faAt hS 0 rfl (fun e => (hqr3 e).1)) rfl h0)) ?_
  rintro v w1 w2 Y' hS he ho
  obtain ⟨r4, capr4, spr4, rfl, hqr4, hcapr4, hS'⟩ := gainN hS he ho
  refine ⟨_, hS', (by repeat (first | exact List.Sublist.refl _ | refine List.Sublist.cons _ ?_)), ?_⟩
  refine RdC.callP (i := 13) rfl rfl rfl rfl rfl rfl (fun _ _ => Try.call14 _ _) (fun w _ hS => (by exact eq_c (q5.map (fun b => ⟨b, 0, none⟩)) cap5 _ (r4.map (fun b => ⟨b, 0, none⟩)) capr4 _ w (faAt hS 13 rfl (fun e => (hq5 e).1)) (faAt hS 0 rfl (fun e => (hqr4 e).1)) (hl2 _) rfl)) (by repeat (first | exact List.Sublist.refl _ | exact List.nil_sublist _ | refine List.Sublist.cons_cons _ ?_ | refine List.Sublist.cons _ ?_)) ?_
  refine RdC.v (i := 14) (Vop.pickT rfl rfl rfl rfl rfl) rfl rfl (by repeat (first | exact List.Sublist.refl _ | exact List.nil_sublist _ | refine List.Sublist.cons_cons _ ?_ | refine List.Sublist.cons _ ?_)) ?_
  refine RdC.v (i := 15) (Vop.mv rfl rfl rfl rfl) rfl rfl (by repeat (first | exact List.Sublist.refl _ | exact List.nil_sublist _ | refine List.Sublist.cons_cons _ ?_ | refine List.Sublist.cons _ ?_)) ?_
  refine RdC.v (i := 16) (Vop.mv rfl rfl rfl rfl) rfl rfl (by repeat (first | exact List.Sublist.refl _ | exact List.nil_sublist _ | refine List.Sublist.cons_cons _ ?_ | refine List.Sublist.cons _ ?_)) ?_
  refine RdC.v (i := 17) (Vop.idxS rfl rfl rfl rfl rfl Try.underlying29 Try.sizeOf22 (0) ⟨rfl, (by simp)⟩) rfl rfl (by repeat (first | exact List.Sublist.refl _ | exact List.nil_sublist _ | refine List.Sublist.cons_cons _ ?_ | refine List.Sublist.cons _ ?_)) ?_
  refine RdC.v (i := 18) (Vop.ldE FV.v FV.z rfl rfl rfl rfl Try.isAgg22 7 rfl (by simp)) rfl rfl (by repeat (first | exact List.Sublist.refl _ | exact List.nil_sublist _ | refine List.Sublist.cons_cons _ ?_ | refine List.Sublist.cons _ ?_)) ?_
  refine RdC.call (i := 19) _ rfl rfl rfl rfl rfl rfl (fun _ _ => Try.call36 _ _) (fun w _ hS => (by exact rfact_c 0 (by decide) w)) ?_
  rintro v w1 w2 Y' hS he ho
  obtain ⟨r5, capr5, spr5, rfl, hqr5, hcapr5, hS'⟩ := gainN hS he ho
  refine ⟨_, hS', (by repeat (first | exact List.Sublist.refl _ | refine List.Sublist.cons _ ?_)), ?_⟩
  refine RdC.callP (i := 20) rfl rfl rfl rfl rfl rfl (fun _ _ => Try.call14 _ _) (fun w _ hS => (by exact eq_c g0.a g0.c g0.f (r5.map (fun b => ⟨b, 0, none⟩)) capr5 _ w ((hi0.mono (fun _ h => List.mem_cons_of_mem _ (List.mem_cons_of_mem _ (List.mem_cons_of_mem _ (List.mem_cons_of_mem _ (List.mem_cons_of_mem _ (List.mem_cons_of_mem _ (List.mem_cons_of_mem _ (List.mem_cons_of_mem _ (List.mem_cons_of_mem _ (List.mem_cons_of_mem _ (List.mem_cons_of_mem _ (List.mem_cons_of_mem _ (List.mem_cons_of_mem _ (List.mem_cons_of_mem _ (List.mem_cons_of_mem _ (List.mem_cons_of_mem _ (List.mem_cons_of_mem _ (List.mem_cons_of_mem _ (List.mem_cons_of_mem _ (List.mem_cons_of_mem _ (List.mem_cons_of_mem _ (List.mem_cons_of_mem _ (List.mem_cons_of_mem _ (h))))))))))))))))))))))))).at hS) (faAt hS 0 rfl (fun e => (hqr5 e).1)) (by rw [he0]; exact hl2 _) he0)) (by repeat (first | exact List.Sublist.refl _ | exact List.nil_sublist _ | refine List.Sublist.cons_cons _ ?_ | refine List.Sublist.cons _ ?_)) ?_
  refine RdC.v (i := 21) (Vop.pickT rfl rfl rfl rfl rfl) rfl rfl (by repeat (first | exact List.Sublist.refl _ | exact List.nil_sublist _ | refine List.Sublist.cons_cons _ ?_ | refine List.Sublist.cons _ ?_)) ?_
  refine RdC.v (i := 22) (Vop.mv rfl rfl rfl rfl) rfl rfl (by repeat (first | exact List.Sublist.refl _ | exact List.nil_sublist _ | refine List.Sublist.cons_cons _ ?_ | refine List.Sublist.cons _ ?_)) ?_
  refine RdC.v (i := 23) (Vop.mv rfl rfl rfl rfl) rfl rfl (by repeat (first | exact List.Sublist.refl _ | exact List.nil_sublist _ | refine List.Sublist.cons_cons _ ?_ | refine List.Sublist.cons _ ?_)) ?_
  refine RdC.v (i := 24) (Vop.idxS rfl rfl rfl rfl rfl Try.underlying29 Try.sizeOf22 (1) ⟨rfl, (by simp)⟩) rfl rfl (by repeat (first | exact List.Sublist.refl _ | exact List.nil_sublist _ | refine List.Sublist.cons_cons _ ?_ | refine List.Sublist.cons _ ?_)) ?_
  refine RdC.v (i := 25) (Vop.ldE FV.v FV.z rfl rfl rfl rfl Try.isAgg22 7 rfl (by simp)) rfl rfl (by repeat (first | exact List.Sublist.refl _ | exact List.nil_sublist _ | refine List.Sublist.cons_cons _ ?_ | refine List.Sublist.cons _ ?_)) ?_
  refine RdC.call (i := 26) _ rfl rfl rfl rfl rfl rfl (fun _ _ => Try.call36 _ _) (fun w _ hS => (by exact rfact_c 0 (by decide) w)) ?_
  rintro v w1 w2 Y' hS he ho
  obtain ⟨r6, capr6, spr6, rfl, hqr6, hcapr6, hS'⟩ := gainN hS he ho
  refine ⟨_, hS', (by repeat (first | exact List.Sublist.refl _ | refine List.Sublist.cons _ ?_)), ?_⟩
  refine RdC.call (i := 27) _ rfl rfl rfl rfl rfl rfl (fun _ _ => Try.call38 _ _) (fun w _ hS => (by exact rnot_c (r6.map (fun b => ⟨b, 0, none⟩)) capr6 _ (f0T 0) w (faAt hS 0 rfl (fun e => (hqr6 e).1)) rfl h0)) ?_
  rintro v w1 w2 Y' hS he ho
  obtain ⟨r7, capr7, spr7, rfl, hqr7, hcapr7, hS'⟩ := gainN hS he ho
  refine ⟨_, hS', (by repeat (first | exact List.Sublist.refl _ | refine List.Sublist.cons _ ?_)), ?_⟩
  refine RdC.callP (i := 28) rfl rfl rfl rfl rfl rfl (fun _ _ => Try.call14 _ _) (fun w _ hS => (by exact eq_c g1.a g1.c g1.f (r7.map (fun b => ⟨b, 0, none⟩)) capr7 _ w ((hi1.mono (fun _ h => List.mem_cons_of_mem _ (List.mem_cons_of_mem _ (List.mem_cons_of_mem _ (List.mem_cons_of_mem _ (List.mem_cons_of_mem _ (List.mem_cons_of_mem _ (List.mem_cons_of_mem _ (List.mem_cons_of_mem _ (List.mem_cons_of_mem _ (List.mem_cons_of_mem _ (List.mem_cons_of_mem _ (List.mem_cons_of_mem _ (List.mem_cons_of_mem _ (List.mem_cons_of_mem _ (List.mem_cons_of_mem _ (List.mem_cons_of_mem _ (List.mem_cons_of_mem _ (List.mem_cons_of_mem _ (List.mem_cons_of_mem _ (List.mem_cons_of_mem _ (List.mem_cons_of_mem _ (List.mem_cons_of_mem _ (List.mem_cons_of_mem _ (List.mem_cons_of_mem _ (List.mem_cons_of_mem _ (h))))))))))))))))))))))))))).at hS) (faAt hS 0 rfl (fun e => (hqr7 e).1)) (by rw [he1]; exact hl2 _) he1)) (by repeat (first | exact List.Sublist.refl _ | exact List.nil_sublist _ | refine List.Sublist.cons_cons _ ?_ | refine List.Sublist.cons _ ?_)) ?_
  refine RdC.v (i := 29) (Vop.pickT rfl rfl rfl rfl rfl) rfl rfl (by repeat (first | exact List.Sublist.refl _ | exact List.nil_sublist _ | refine List.Sublist.cons_cons _ ?_ | refine List.Sublist.cons _ ?_)) ?_
  refine RdC.v (i := 30) (Vop.mv rfl rfl rfl rfl) rfl rfl (by repeat (first | exact List.Sublist.refl _ | exact List.nil_sublist _ | refine List.Sublist.cons_cons _ ?_ | refine List.Sublist.cons _ ?_)) ?_
  refine RdC.v (i := 31) (Vop.mv rfl rfl rfl rfl) rfl rfl (by repeat (first | exact List.Sublist.refl _ | exact List.nil_sublist _ | refine List.Sublist.cons_cons _ ?_ | refine List.Sublist.cons _ ?_)) ?_
  refine RdC.call (i := 32) _ rfl rfl rfl rfl rfl rfl (fun _ _ => Try.call36 _ _) (fun w _ hS => (by exact rfact_c 0 (by decide) w)) ?_
  rintro v w1 w2 Y' hS he ho
  obtain ⟨r8, capr8, spr8, rfl, hqr8, hcapr8, hS'⟩ := gainN hS he ho
  refine ⟨_, hS', (by repeat (first | exact List.Sublist.refl _ | refine List.Sublist.cons _ ?_)), ?_⟩
  refine RdC.callP (i := 33) rfl rfl rfl rfl rfl rfl (fun _ _ => Try.call14 _ _) (fun w _ hS => (by exact eq_c (q9.map (fun b => ⟨b, 0, none⟩)) cap9 _ (r8.map (fun b => ⟨b, 0, none⟩)) capr8 _ w (faAt hS 13 rfl (fun e => (hq9 e).1)) (faAt hS 0 rfl (fun e => (hqr8 e).1)) (hl2 _) rfl)) (by repeat (first | exact List.Sublist.refl _ | exact List.nil_sublist _ | refine List.Sublist.cons_cons _ ?_ | refine List.Sublist.cons _ ?_)) ?_
  refine RdC.v (i := 34) (Vop.pickT rfl rfl rfl rfl rfl) rfl rfl (by repeat (first | exact List.Sublist.refl _ | exact List.nil_sublist _ | refine List.Sublist.cons_cons _ ?_ | refine List.Sublist.cons _ ?_)) ?_
  refine RdC.v (i := 35) (Vop.asg rfl rfl rfl rfl) rfl rfl (by repeat (first | exact List.Sublist.refl _ | exact List.nil_sublist _ | refine List.Sublist.cons_cons _ ?_ | refine List.Sublist.cons _ ?_)) ?_
  refine RdC.done rfl ?_
  refine gE ?_
  refine GoH.ret Try.f11 Try.func11 rfl (fun w' hS => ?_)
  exact ⟨hS.ext, rfl⟩
end Go.Proofs.Ytkoipdlkkchmiaa
