/- What calls of the program return, under the conditions that each theorem states. -/
import Derived.Test.YtlihcmknfdckdaaDoorS29
import Derived.Test.YtlihcmknfdckdaaDoorS30
import Derived.Test.YtlihcmknfdckdaaDoorS04
namespace Go.Proofs.YtlihcmknfdckdaaDoor
open Go.RowKit Go.Proofs.Wit Tryd
/-! the examples of the law of proofs -/
theorem gfact_c (i : Nat) (hi : i < 8) (w : World) : Cn Tryd.prog 34 [.int .i64 i] w (fun v w' => OwnN 80 w w' v (bT (.leaf 3 i 0 0))) := by
 have hf : fldE 3 (i : Int) 0 0 = 0 := by
  have : ∀ j : Fin 8, fldE 3 ((j.val : Nat) : Int) 0 0 = 0 := by decide
  exact this ⟨i, hi⟩
 refine Cn.of func34 rfl rfl ?_
 refine gS (gR ?_); refine gAs ?_; refine gE (gS (gR ?_)); refine gMv ?_
 refine GoH.v (Vop.bld rfl rfl rfl rfl (bld (c := [_, _, _, _, _, _]) underlying80 (Szs.cons sizeOf3 (Szs.cons sizeOf3 (Szs.cons sizeOf3 (Szs.cons sizeOf3 (Szs.cons sizeOf3 (Szs.cons sizeOf3 Szs.nil)))))) zeroValue80 rfl)) ?_
 refine gM rfl rfl rfl rfl rfl call69 (fun w _ hS => (by exact rone_c 3 i 0 0 w (by decide) rfl hf)) ?_
 rintro v w1 w2 Y' hS he ho
 obtain ⟨q, cap, sp, rfl, hq, hcap, hS'⟩ := gainN hS he ho
 refine ⟨_, hS', ?_⟩
 refine gAs ?_; refine gE ?_
 refine gT func34 fun w' hS => ?_
 exact ⟨hS.ext, OwnN.mk hS 0 rfl rfl hq hcap⟩
def monL (f1 f2 f3 f4 : FV) : List LV := [⟨f1, 1, 0, 0, 0⟩, ⟨f2, 11, 0, 0, 0⟩, ⟨f3, 2, 0, 0, 0⟩, ⟨f4, 10, 1, 2, 0⟩]
set_option maxRecDepth 8000 in
theorem mono_c (w : World) : Cn Tryd.prog 37 [] w (fun v w' => ∃ (b : Nat) (H : Hl) (f1 f2 f3 f4 : FV), v = .slice (some ⟨b, 0, none⟩) 4 4 ∧ NewH w w' ((some b, obL 40 (monL f1 f2 f3 f4) []) :: H) ∧
  (f1.In 80 H ∧ f2.In 80 H ∧ f3.In 80 H ∧ f4.In 80 H) ∧ f1.f = bT moT ∧ f2.f = bT (kwT 0 moT) ∧ f3.f = bT (imT (kwT 0 moT) mpT) ∧ f4.f = bT mpT) := by
 have hpq := ad_ok pT_ok qT_ok
 have hkp : (kwT 0 pT).ok := kw_ok (by decide) pT_ok
 have hkpq : (kwT 0 (adT pT qT)).ok := kw_ok (by decide) hpq
 have hkmo : (kwT 0 moT).ok := kw_ok (by decide) moT_ok
 refine Cn.of func37 rfl rfl ?_
 refine gS (gR ?_); refine gAs ?_; refine gE (gS (gR ?_))
 refine gM rfl rfl rfl rfl rfl call34 (fun w _ hS => (by exact gfact_c 0 (by decide) w)) ?_
 rintro v w1 w2 Y' hS he ho
 obtain ⟨qp, cqp, spqp, rfl, hqp, hcqp, hS'⟩ := gainN hS he ho
 refine ⟨_, hS', ?_⟩
 refine gM rfl rfl rfl rfl rfl call34 (fun w _ hS => (by exact gfact_c 1 (by decide) w)) ?_
 rintro v w1 w2 Y' hS he ho
 obtain ⟨qq, cqq, spqq, rfl, hqq, hcqq, hS'⟩ := gainN hS he ho
 refine ⟨_, hS', ?_⟩
 iterate 2 refine gAs ?_
 refine gE (gS (gR ?_))
 iterate 2 refine gMv ?_
 refine gM rfl rfl rfl rfl rfl call71 (fun w _ hS => (by exact gand_c ⟨(qp.map (fun b => ⟨b, 0, none⟩)), cqp, bT pT⟩ ⟨(qq.map (fun b => ⟨b, 0, none⟩)), cqq, bT qT⟩ pT qT w (faAt hS 1 rfl (fun e => (hqp e).1)) rfl pT_ok (faAt hS 0 rfl (fun e => (hqq e).1)) rfl qT_ok)) ?_
 rintro v w1 w2 Y' hS he ho
 obtain ⟨qpq, cqpq, spqpq, rfl, hqpq, hcqpq, hS'⟩ := gainN hS he ho
 refine ⟨_, hS', ?_⟩
 refine gMv ?_
 refine gM rfl rfl rfl rfl rfl call27 (fun w _ hS => (by exact gimp_c ⟨(qpq.map (fun b => ⟨b, 0, none⟩)), cqpq, bT (adT pT qT)⟩ ⟨(qp.map (fun b => ⟨b, 0, none⟩)), cqp, bT pT⟩ (adT pT qT) pT w (faAt hS 0 rfl (fun e => (hqpq e).1)) rfl hpq (faAt hS 2 rfl (fun e => (hqp e).1)) rfl pT_ok)) ?_
 rintro v w1 w2 Y' hS he ho
 obtain ⟨qf, cqf, spqf, rfl, hqf, hcqf, hS'⟩ := gainN hS he ho
 refine ⟨_, hS', ?_⟩
 refine gAs ?_; refine gE (gS (gR ?_)); refine gMv ?_
 refine GoH.v (Vop.bld rfl rfl rfl rfl (bld (c := [_, _, _, _, _]) underlying40 (Szs.cons sizeOf23 (Szs.cons sizeOf3 (Szs.cons sizeOf3 (Szs.cons sizeOf3 (Szs.cons sizeOf3 Szs.nil))))) zeroValue40 rfl)) ?_
 refine gMv ?_
 refine gM rfl rfl rfl rfl rfl call36 (fun w _ hS => (by exact gknow_c 0 (by decide) ⟨(qf.map (fun b => ⟨b, 0, none⟩)), cqf, bT moT⟩ moT w (faAt hS 0 rfl (fun e => (hqf e).1)) rfl moT_ok)) ?_
 rintro v w1 w2 Y' hS he ho
 obtain ⟨q2, cq2, spq2, rfl, hq2, hcq2, hS'⟩ := gainN hS he ho
 refine ⟨_, hS', ?_⟩
 refine GoH.v (Vop.bld rfl rfl rfl rfl (bld (c := [_, _, _, _, _]) underlying40 (Szs.cons sizeOf23 (Szs.cons sizeOf3 (Szs.cons sizeOf3 (Szs.cons sizeOf3 (Szs.cons sizeOf3 Szs.nil))))) zeroValue40 rfl)) ?_
 refine gMv ?_
 refine gM rfl rfl rfl rfl rfl call36 (fun w _ hS => (by exact gknow_c 0 (by decide) ⟨(qf.map (fun b => ⟨b, 0, none⟩)), cqf, bT moT⟩ moT w (faAt hS 1 rfl (fun e => (hqf e).1)) rfl moT_ok)) ?_
 rintro v w1 w2 Y' hS he ho
 obtain ⟨q3, cq3, spq3, rfl, hq3, hcq3, hS'⟩ := gainN hS he ho
 refine ⟨_, hS', ?_⟩
 iterate 2 refine gMv ?_
 refine gM rfl rfl rfl rfl rfl call71 (fun w _ hS => (by exact gand_c ⟨(qp.map (fun b => ⟨b, 0, none⟩)), cqp, bT pT⟩ ⟨(qq.map (fun b => ⟨b, 0, none⟩)), cqq, bT qT⟩ pT qT w (faAt hS 5 rfl (fun e => (hqp e).1)) rfl pT_ok (faAt hS 4 rfl (fun e => (hqq e).1)) rfl qT_ok)) ?_
 rintro v w1 w2 Y' hS he ho
 obtain ⟨q4, cq4, spq4, rfl, hq4, hcq4, hS'⟩ := gainN hS he ho
 refine ⟨_, hS', ?_⟩
 refine gM rfl rfl rfl rfl rfl call36 (fun w _ hS => (by exact gknow_c 0 (by decide) ⟨(q4.map (fun b => ⟨b, 0, none⟩)), cq4, bT (adT pT qT)⟩ (adT pT qT) w (faAt hS 0 rfl (fun e => (hq4 e).1)) rfl hpq)) ?_
 rintro v w1 w2 Y' hS he ho
 obtain ⟨q5, cq5, spq5, rfl, hq5, hcq5, hS'⟩ := gainN hS he ho
 refine ⟨_, hS', ?_⟩
 refine gMv ?_
 refine gM rfl rfl rfl rfl rfl call36 (fun w _ hS => (by exact gknow_c 0 (by decide) ⟨(qp.map (fun b => ⟨b, 0, none⟩)), cqp, bT pT⟩ pT w (faAt hS 7 rfl (fun e => (hqp e).1)) rfl pT_ok)) ?_
 rintro v w1 w2 Y' hS he ho
 obtain ⟨q6, cq6, spq6, rfl, hq6, hcq6, hS'⟩ := gainN hS he ho
 refine ⟨_, hS', ?_⟩
 refine gM rfl rfl rfl rfl rfl call27 (fun w _ hS => (by exact gimp_c ⟨(q5.map (fun b => ⟨b, 0, none⟩)), cq5, bT (kwT 0 (adT pT qT))⟩ ⟨(q6.map (fun b => ⟨b, 0, none⟩)), cq6, bT (kwT 0 pT)⟩ (kwT 0 (adT pT qT)) (kwT 0 pT) w (faAt hS 1 rfl (fun e => (hq5 e).1)) rfl hkpq (faAt hS 0 rfl (fun e => (hq6 e).1)) rfl hkp)) ?_
 rintro v w1 w2 Y' hS he ho
 obtain ⟨q7, cq7, spq7, rfl, hq7, hcq7, hS'⟩ := gainN hS he ho
 refine ⟨_, hS', ?_⟩
 refine gM rfl rfl rfl rfl rfl call27 (fun w _ hS => (by exact gimp_c ⟨(q3.map (fun b => ⟨b, 0, none⟩)), cq3, bT (kwT 0 moT)⟩ ⟨(q7.map (fun b => ⟨b, 0, none⟩)), cq7, bT mpT⟩ (kwT 0 moT) mpT w (faAt hS 4 rfl (fun e => (hq3 e).1)) rfl hkmo (faAt hS 0 rfl (fun e => (hq7 e).1)) rfl mpT_ok)) ?_
 rintro v w1 w2 Y' hS he ho
 obtain ⟨q8, cq8, spq8, rfl, hq8, hcq8, hS'⟩ := gainN hS he ho
 refine ⟨_, hS', ?_⟩
 refine GoH.v (Vop.bld rfl rfl rfl rfl (bld (c := [_, _, _, _, _]) underlying40 (Szs.cons sizeOf23 (Szs.cons sizeOf3 (Szs.cons sizeOf3 (Szs.cons sizeOf3 (Szs.cons sizeOf3 Szs.nil))))) zeroValue40 rfl)) ?_
 iterate 2 refine gMv ?_
 refine gM rfl rfl rfl rfl rfl call71 (fun w _ hS => (by exact gand_c ⟨(qp.map (fun b => ⟨b, 0, none⟩)), cqp, bT pT⟩ ⟨(qq.map (fun b => ⟨b, 0, none⟩)), cqq, bT qT⟩ pT qT w (faAt hS 10 rfl (fun e => (hqp e).1)) rfl pT_ok (faAt hS 9 rfl (fun e => (hqq e).1)) rfl qT_ok)) ?_
 rintro v w1 w2 Y' hS he ho
 obtain ⟨q9, cq9, spq9, rfl, hq9, hcq9, hS'⟩ := gainN hS he ho
 refine ⟨_, hS', ?_⟩
 refine gM rfl rfl rfl rfl rfl call36 (fun w _ hS => (by exact gknow_c 0 (by decide) ⟨(q9.map (fun b => ⟨b, 0, none⟩)), cq9, bT (adT pT qT)⟩ (adT pT qT) w (faAt hS 0 rfl (fun e => (hq9 e).1)) rfl hpq)) ?_
 rintro v w1 w2 Y' hS he ho
 obtain ⟨qa, cqa, spqa, rfl, hqa, hcqa, hS'⟩ := gainN hS he ho
 refine ⟨_, hS', ?_⟩
 refine gMv ?_
 refine gM rfl rfl rfl rfl rfl call36 (fun w _ hS => (by exact gknow_c 0 (by decide) ⟨(qp.map (fun b => ⟨b, 0, none⟩)), cqp, bT pT⟩ pT w (faAt hS 12 rfl (fun e => (hqp e).1)) rfl pT_ok)) ?_
 rintro v w1 w2 Y' hS he ho
 obtain ⟨qb, cqb, spqb, rfl, hqb, hcqb, hS'⟩ := gainN hS he ho
 refine ⟨_, hS', ?_⟩
 refine gM rfl rfl rfl rfl rfl call27 (fun w _ hS => (by exact gimp_c ⟨(qa.map (fun b => ⟨b, 0, none⟩)), cqa, bT (kwT 0 (adT pT qT))⟩ ⟨(qb.map (fun b => ⟨b, 0, none⟩)), cqb, bT (kwT 0 pT)⟩ (kwT 0 (adT pT qT)) (kwT 0 pT) w (faAt hS 1 rfl (fun e => (hqa e).1)) rfl hkpq (faAt hS 0 rfl (fun e => (hqb e).1)) rfl hkp)) ?_
 rintro v w1 w2 Y' hS he ho
 obtain ⟨qc, cqc, spqc, rfl, hqc, hcqc, hS'⟩ := gainN hS he ho
 refine ⟨_, hS', ?_⟩
 refine GoH.v (Vop.bld rfl rfl rfl rfl (bld (c := [_, _, _, _, _]) underlying40 (Szs.cons sizeOf23 (Szs.cons sizeOf3 (Szs.cons sizeOf3 (Szs.cons sizeOf3 (Szs.cons sizeOf3 Szs.nil))))) zeroValue40 rfl)) ?_
 refine GoH.bsN (c := [_, _, _, _, _, _, _, _, _, _, _, _, _, _, _, _, _, _, _, _]) rfl rfl rfl rfl underlying22 sizeOf40 zeroValue40 rfl rfl (fun b35 => ?_)
 refine gAs ?_; refine gE ?_
 refine gT func37 fun w' hS => ?_
 exact ⟨hS.ext, b35, _, ⟨(qf.map (fun b => ⟨b, 0, none⟩)), cqf, bT moT⟩, ⟨(q2.map (fun b => ⟨b, 0, none⟩)), cq2, bT (kwT 0 moT)⟩, ⟨(q8.map (fun b => ⟨b, 0, none⟩)), cq8, bT (imT (kwT 0 moT) mpT)⟩, ⟨(qc.map (fun b => ⟨b, 0, none⟩)), cqc, bT mpT⟩, rfl, NewH.of hS, ⟨⟨qf, spqf, List.mem_of_getElem? (i := 11) rfl, rfl, hqf, hcqf⟩, ⟨q2, spq2, List.mem_of_getElem? (i := 10) rfl, rfl, hq2, hcq2⟩, ⟨q8, spq8, List.mem_of_getElem? (i := 4) rfl, rfl, hq8, hcq8⟩, ⟨qc, spqc, List.mem_of_getElem? (i := 0) rfl, rfl, hqc, hcqc⟩⟩, rfl, rfl, rfl, rfl⟩
theorem ax_kn4 : axR 4 (bT knT) = 3 ∧ axE 4 (bT knT) = 0 := by
 have ht := top_b knT_ok form_kn
 refine ⟨?_, by rw [axE, if_neg (by decide), form_kn]⟩
 rw [axR, if_neg (by rw [form_kn]; decide), ht]
 have h0 : ruleF 4 knT 0 = 0 := rfl
 have h1 := (ruleF_step h0).2 (fun h => tau_kn h.2)
 have h2 := (ruleF_step h1).2 (fun h => K_kn h.2)
 exact ruleF_at (k := 2) (by decide) h2 ⟨rfl, T_kn⟩
theorem ax_kn0 : axR 0 (bT knT) = 0 ∧ axE 0 (bT knT) = 0 := by
 have ht := top_b knT_ok form_kn
 refine ⟨?_, by rw [axE, if_neg (by decide), form_kn]⟩
 rw [axR, if_neg (by rw [form_kn]; decide), ht]
 have h0 : ruleF 0 knT 0 = 0 := rfl
 have h1 := (ruleF_step h0).2 (fun h => tau_kn h.2)
 have h2 := (ruleF_step h1).2 (fun h => K_kn h.2)
 have h3 := (ruleF_step h2).2 (fun h => absurd h.1 (by decide))
 have h4 := (ruleF_step h3).2 (fun h => absurd h.1 (by decide))
 have h5 := (ruleF_step h4).2 (fun h => absurd h.1 (by decide))
 have h6 := (ruleF_step h5).2 (fun h => absurd h.1 (by decide))
 have h7 := (ruleF_step h6).2 (fun h => P_kn h.2)
 have h8 := (ruleF_step h7).2 (fun h => E_kn h.2)
 exact (ruleF_step h8).2 (fun h => C_kn h.2)
theorem lines_ok {l : Int} {ls : List LV} (h : ∀ (k : Nat) (hk : k < ls.length), lineE l ls k ls[k] = 0) : ∀ k, k ≤ ls.length → linesE l ls k = 0
 | 0, _ => rfl
 | k + 1, hk => by rw [linesE_succ (lines_ok h k (by omega)) (by omega)]; exact h k (by omega)
theorem check_ok {l : Int} {ls : List LV} (hl : 0 ≤ l ∧ l ≤ 6) (h0 : 0 < ls.length) (h4 : ls.length ≤ 400) (h : ∀ (k : Nat) (hk : k < ls.length), lineE l ls k ls[k] = 0) : checkH l ls = 0 := by
 rw [checkH, if_neg (by omega), if_neg (by omega), if_neg (by omega)]
 exact lines_ok h _ (Nat.le_refl _)
theorem chk_or {f1 f2 : FV} (h1 : f1.f = bT orT) (h2 : f2.f = bT (kwT 1 orT)) : checkH 0 [⟨f1, 1, 0, 0, 0⟩, ⟨f2, 11, 0, 0, 1⟩] = 0 := by
 have hk : (kwT 1 orT).ok := kw_ok (by decide) orT_ok
 refine check_ok (by decide) (by simp) (by simp) (fun k hk' => ?_)
 match k, hk' with
 | 0, _ => exact lineE_ok (by show formE f1.f = 0; rw [h1]; exact form_or) (by show (1 : Int) ≤ 1 ∧ (1 : Int) ≤ 12; decide) (by rfl) rfl (by show AxTau (topT f1.f); rw [h1, top_b orT_ok form_or]; exact tau_or)
 | 1, _ => exact lineE_ok (by show formE f2.f = 0; rw [h2]; exact form_kor) (by show (1 : Int) ≤ 11 ∧ (11 : Int) ≤ 12; decide) (by rfl) rfl (by show topT f2.f = kwT 1 (topT f1.f); rw [h1, h2, top_b orT_ok form_or, top_b hk form_kor])
 | k + 2, hk => simp at hk; omega
theorem chk_kn {f1 : FV} (h1 : f1.f = bT knT) : checkH 0 [⟨f1, 3, 0, 0, 0⟩] = 12 := by
 rw [checkH, if_neg (by decide), if_neg (by simp), if_neg (by simp)]
 show linesE 0 [⟨f1, 3, 0, 0, 0⟩] 1 = 12
 rw [linesE_succ (k := 0) rfl (by simp)]
 show lineE 0 _ 0 ⟨f1, 3, 0, 0, 0⟩ = 12
 have hn : numE ((0 : Nat) : Int) ⟨f1, 3, 0, 0, 0⟩ = 0 := rfl
 rw [lineE, if_neg (by show ¬ formE f1.f ≠ 0; rw [h1, form_kn]; simp), if_neg (by show ¬ ((3 : Int) < 1 ∨ (12 : Int) < 3); decide), if_neg (by rw [hn]; simp)]
 exact if_pos rfl
theorem chk_mono {f1 f2 f3 f4 : FV} (h1 : f1.f = bT moT) (h2 : f2.f = bT (kwT 0 moT)) (h3 : f3.f = bT (imT (kwT 0 moT) mpT)) (h4 : f4.f = bT mpT) : checkH 0 (monL f1 f2 f3 f4) = 0 := by
 have hk : (kwT 0 moT).ok := kw_ok (by decide) moT_ok
 have hK : (imT (kwT 0 moT) mpT).ok := im_ok hk mpT_ok
 refine check_ok (by decide) (by simp [monL]) (by simp [monL]) (fun k hk' => ?_)
 match k, hk' with
 | 0, _ => exact lineE_ok (by show formE f1.f = 0; rw [h1]; exact form_mo) (by show (1 : Int) ≤ 1 ∧ (1 : Int) ≤ 12; decide) (by rfl) rfl (by show AxTau (topT f1.f); rw [h1, top_b moT_ok form_mo]; exact tau_mo)
 | 1, _ => exact lineE_ok (by show formE f2.f = 0; rw [h2]; exact form_kmo) (by show (1 : Int) ≤ 11 ∧ (11 : Int) ≤ 12; decide) (by rfl) rfl (by show topT f2.f = kwT 0 (topT f1.f); rw [h1, h2, top_b moT_ok form_mo, top_b hk form_kmo])
 | 2, _ => exact lineE_ok (by show formE f3.f = 0; rw [h3]; exact form_K) (by show (1 : Int) ≤ 2 ∧ (2 : Int) ≤ 12; decide) (by rfl) rfl (by show AxK (topT f3.f); rw [h3, top_b hK form_K]; exact K_mo)
 | 3, _ => exact lineE_ok (by show formE f4.f = 0; rw [h4]; exact form_mp) (by show (1 : Int) ≤ 10 ∧ (10 : Int) ≤ 12; decide) (by rfl) rfl (by show topT f3.f = imT (topT f2.f) (topT f4.f); rw [h2, h3, h4, top_b hk form_kmo, top_b hK form_K, top_b mpT_ok form_mp])
 | k + 4, hk => simp [monL] at hk; omega
set_option maxRecDepth 8000 in
theorem awake49_c (w : World) (hT : Axs w) : Cn Tryd.prog 13 [] w (fun v _ => v = .bool true) := by
 refine Cn.of func13 rfl rfl ?_
 refine gS (gR ?_); refine gAs ?_; refine gE (gS (gR ?_))
 refine gM rfl rfl rfl rfl rfl call34 (fun w _ hS => (by exact gfact_c 0 (by decide) w)) ?_
 rintro v w1 w2 Y' hS he ho
 obtain ⟨qp, cqp, spqp, rfl, hqp, hcqp, hS'⟩ := gainN hS he ho
 refine ⟨_, hS', ?_⟩
 refine gAs ?_; refine gE (gS (gR ?_))
 iterate 2 refine gMv ?_
 refine gM rfl rfl rfl rfl rfl call35 (fun w _ hS => (by exact gnot_c ⟨(qp.map (fun b => ⟨b, 0, none⟩)), cqp, bT pT⟩ pT w (faAt hS 0 rfl (fun e => (hqp e).1)) rfl pT_ok)) ?_
 rintro v w1 w2 Y' hS he ho
 obtain ⟨qn, cqn, spqn, rfl, hqn, hcqn, hS'⟩ := gainN hS he ho
 refine ⟨_, hS', ?_⟩
 refine gM rfl rfl rfl rfl rfl call28 (fun w _ hS => (by exact gor_c ⟨(qp.map (fun b => ⟨b, 0, none⟩)), cqp, bT pT⟩ ⟨(qn.map (fun b => ⟨b, 0, none⟩)), cqn, bT (ntT pT)⟩ pT (ntT pT) w (faAt hS 1 rfl (fun e => (hqp e).1)) rfl pT_ok (faAt hS 0 rfl (fun e => (hqn e).1)) rfl (nt_ok pT_ok))) ?_
 rintro v w1 w2 Y' hS he ho
 obtain ⟨qo, cqo, spqo, rfl, hqo, hcqo, hS'⟩ := gainN hS he ho
 refine ⟨_, hS', ?_⟩
 refine gAs ?_; refine gE (gS (gR ?_)); refine gMv ?_
 refine gM rfl rfl rfl rfl rfl call36 (fun w _ hS => (by exact gknow_c 0 (by decide) ⟨(qp.map (fun b => ⟨b, 0, none⟩)), cqp, bT pT⟩ pT w (faAt hS 2 rfl (fun e => (hqp e).1)) rfl pT_ok)) ?_
 rintro v w1 w2 Y' hS he ho
 obtain ⟨qk, cqk, spqk, rfl, hqk, hcqk, hS'⟩ := gainN hS he ho
 refine ⟨_, hS', ?_⟩
 refine gMv ?_
 refine gM rfl rfl rfl rfl rfl call27 (fun w _ hS => (by exact gimp_c ⟨(qk.map (fun b => ⟨b, 0, none⟩)), cqk, bT (kwT 0 pT)⟩ ⟨(qp.map (fun b => ⟨b, 0, none⟩)), cqp, bT pT⟩ (kwT 0 pT) pT w (faAt hS 0 rfl (fun e => (hqk e).1)) rfl (kw_ok (by decide) pT_ok) (faAt hS 3 rfl (fun e => (hqp e).1)) rfl pT_ok)) ?_
 rintro v w1 w2 Y' hS he ho
 obtain ⟨qi, cqi, spqi, rfl, hqi, hcqi, hS'⟩ := gainN hS he ho
 refine ⟨_, hS', ?_⟩
 refine gAs ?_; refine gE (gS (gR ?_)); refine gMv ?_
 refine gM rfl rfl rfl rfl rfl call18 (fun w _ hS => (by exact haxiom_c 4 (qi.map (fun b => ⟨b, 0, none⟩)) cqi (bT knT) w (hT.ex hS.ext) (faAt hS 0 rfl (fun e => (hqi e).1)) (bT_max rfl))) ?_
 rintro v w1 w2 Y' hS he rfl
 refine ⟨_, hS.later he, ?_⟩
 rw [ax_kn4.1, ax_kn4.2]
 refine gMv ?_
 iterate 2 refine gEx ?_
 iterate 2 refine gAs ?_
 refine gE (gS (gR ?_)); refine gMv ?_
 refine gM rfl rfl rfl rfl rfl call18 (fun w _ hS => (by exact haxiom_c 0 (qi.map (fun b => ⟨b, 0, none⟩)) cqi (bT knT) w (hT.ex hS.ext) (faAt hS 0 rfl (fun e => (hqi e).1)) (bT_max rfl))) ?_
 rintro v w1 w2 Y' hS he rfl
 refine ⟨_, hS.later he, ?_⟩
 rw [ax_kn0.1, ax_kn0.2]
 refine gMv ?_
 iterate 2 refine gEx ?_
 iterate 2 refine gAs ?_
 refine gE (gS (gR ?_))
 refine gM rfl rfl rfl rfl rfl call37 (fun w _ hS => (by exact mono_c w)) ?_
 rintro v w1 w2 Y' hS he ⟨bm, H, f1, f2, f3, f4, rfl, hnew, ⟨i1, i2, i3, i4⟩, e1, e2, e3, e4⟩
 have hcm := chk_mono e1 e2 e3 e4
 refine ⟨_, hS.gainPre (pre := [_]) he hnew, ?_⟩
 refine gAs ?_; refine gE (gS (gR ?_)); refine gMv ?_
 refine gBx rfl rfl rfl rfl (bEqV (v := true) rfl) ?_
 iterate 2 refine gMv ?_
 refine gBx rfl rfl rfl rfl (bEqV (v := true) rfl) ?_
 refine gPt ?_
 iterate 2 refine gMv ?_
 refine gBx rfl rfl rfl rfl (bEqV (v := true) rfl) ?_
 refine gPt ?_
 iterate 2 refine gMv ?_
 refine gBx rfl rfl rfl rfl (bEqV (v := true) rfl) ?_
 refine gPt ?_
 iterate 2 refine gMv ?_
 refine GoH.v (Vop.bld rfl rfl rfl rfl (bld (c := [_, _, _, _, _]) underlying40 (Szs.cons sizeOf23 (Szs.cons sizeOf3 (Szs.cons sizeOf3 (Szs.cons sizeOf3 (Szs.cons sizeOf3 Szs.nil))))) zeroValue40 rfl)) ?_
 refine gMv ?_
 refine gM rfl rfl rfl rfl rfl call36 (fun w _ hS => (by exact gknow_c 1 (by decide) ⟨(qo.map (fun b => ⟨b, 0, none⟩)), cqo, bT orT⟩ orT w (faAt hS 3 rfl (fun e => (hqo e).1)) rfl orT_ok)) ?_
 rintro v w1 w2 Y' hS he ho
 obtain ⟨q1, cq1, spq1, rfl, hq1, hcq1, hS'⟩ := gainN hS he ho
 refine ⟨_, hS', ?_⟩
 refine GoH.v (Vop.bld rfl rfl rfl rfl (bld (c := [_, _, _, _, _]) underlying40 (Szs.cons sizeOf23 (Szs.cons sizeOf3 (Szs.cons sizeOf3 (Szs.cons sizeOf3 (Szs.cons sizeOf3 Szs.nil))))) zeroValue40 rfl)) ?_
 refine GoH.bsN (c := [_, _, _, _, _, _, _, _, _, _]) rfl rfl rfl rfl underlying22 sizeOf40 zeroValue40 rfl rfl (fun b49 => ?_)
 refine gP rfl rfl rfl rfl rfl call14 (fun w _ hS => (by exact hcheck_c 0 (some ⟨b49, 0, none⟩) 2 [⟨⟨(qo.map (fun b => ⟨b, 0, none⟩)), cqo, bT orT⟩, 1, 0, 0, 0⟩, ⟨⟨(q1.map (fun b => ⟨b, 0, none⟩)), cq1, bT (kwT 1 orT)⟩, 11, 0, 0, 1⟩] w ⟨Sl.blk (hS.get (j := 0) rfl), List.forall_mem_cons.2 ⟨⟨(faAt hS 5 rfl (fun e => (hqo e).1)), (show (bT orT).length ≤ maxLen from bT_max rfl)⟩, List.forall_mem_cons.2 ⟨⟨(faAt hS 1 rfl (fun e => (hq1 e).1)), (show (bT (kwT 1 orT)).length ≤ maxLen from bT_max rfl)⟩, (fun _ h => by cases h)⟩⟩⟩ (hT.ex hS.ext))) ?_
 refine gBx rfl rfl rfl rfl (bEqV (v := true) (by rw [chk_or rfl rfl]; rfl)) ?_
 refine gPt ?_
 iterate 2 refine gMv ?_
 refine GoH.v (Vop.bld rfl rfl rfl rfl (bld (c := [_, _, _, _, _]) underlying40 (Szs.cons sizeOf23 (Szs.cons sizeOf3 (Szs.cons sizeOf3 (Szs.cons sizeOf3 (Szs.cons sizeOf3 Szs.nil))))) zeroValue40 rfl)) ?_
 refine GoH.bsN (c := [_, _, _, _, _]) rfl rfl rfl rfl underlying22 sizeOf40 zeroValue40 rfl rfl (fun b56 => ?_)
 refine gP rfl rfl rfl rfl rfl call14 (fun w _ hS => (by exact hcheck_c 0 (some ⟨b56, 0, none⟩) 1 [⟨⟨(qi.map (fun b => ⟨b, 0, none⟩)), cqi, bT knT⟩, 3, 0, 0, 0⟩] w ⟨Sl.blk (hS.get (j := 0) rfl), List.forall_mem_cons.2 ⟨⟨(faAt hS 4 rfl (fun e => (hqi e).1)), (show (bT knT).length ≤ maxLen from bT_max rfl)⟩, (fun _ h => by cases h)⟩⟩ (hT.ex hS.ext))) ?_
 refine gBx rfl rfl rfl rfl (bEqV (v := true) (by rw [chk_kn rfl]; rfl)) ?_
 refine gPt ?_
 iterate 2 refine gMv ?_
 refine gP rfl rfl rfl rfl rfl call14 (fun w _ hS => (by exact hcheck_c 0 (some ⟨bm, 0, none⟩) 4 (monL f1 f2 f3 f4) w ⟨Sl.blk (hS.get (j := 3) rfl), List.forall_mem_cons.2 ⟨⟨(i1.mono (fun z hz => by repeat (first | exact hz | refine List.mem_cons_of_mem _ ?_ | refine List.mem_append_right _ ?_))).at hS, (show f1.f.length ≤ maxLen by rw [e1]; exact bT_max rfl)⟩, List.forall_mem_cons.2 ⟨⟨(i2.mono (fun z hz => by repeat (first | exact hz | refine List.mem_cons_of_mem _ ?_ | refine List.mem_append_right _ ?_))).at hS, (show f2.f.length ≤ maxLen by rw [e2]; exact bT_max rfl)⟩, List.forall_mem_cons.2 ⟨⟨(i3.mono (fun z hz => by repeat (first | exact hz | refine List.mem_cons_of_mem _ ?_ | refine List.mem_append_right _ ?_))).at hS, (show f3.f.length ≤ maxLen by rw [e3]; exact bT_max rfl)⟩, List.forall_mem_cons.2 ⟨⟨(i4.mono (fun z hz => by repeat (first | exact hz | refine List.mem_cons_of_mem _ ?_ | refine List.mem_append_right _ ?_))).at hS, (show f4.f.length ≤ maxLen by rw [e4]; exact bT_max rfl)⟩, (fun _ h => by cases h)⟩⟩⟩⟩⟩ (hT.ex hS.ext))) ?_
 refine gBx rfl rfl rfl rfl (bEqV (v := true) (by rw [hcm]; rfl)) ?_
 refine gPt ?_
 iterate 3 refine gMv ?_
 refine GoH.v (Vop.idxS rfl rfl rfl rfl rfl underlying22 sizeOf40 (3) ⟨rfl, (by show 3 < 4; decide)⟩) ?_
 refine GoH.v (Vop.fldA (a := some ⟨bm, 0, none⟩) (o := (3) * 5) rfl rfl rfl rfl underlying40 rfl sizeOf23 ((3) * 5 + 0) rfl) ?_
 refine GoH.v (Vop.ld rfl rfl rfl rfl isAgg23 (fun w _ hS => Sl.fld (enc := LV.cells) (sz := 5) (a := some ⟨bm, 0, none⟩) (Sl.blk (hS.get (j := 3) rfl)) (fun _ => rfl) (by show 3 < 4; decide) rfl)) ?_
 refine gP rfl rfl rfl rfl rfl call16 (fun w _ hS => (by exact hproves_c 0 (some ⟨bm, 0, none⟩) 4 (monL f1 f2 f3 f4) f4.a f4.c f4.f w ⟨Sl.blk (hS.get (j := 3) rfl), List.forall_mem_cons.2 ⟨⟨(i1.mono (fun z hz => by repeat (first | exact hz | refine List.mem_cons_of_mem _ ?_ | refine List.mem_append_right _ ?_))).at hS, (show f1.f.length ≤ maxLen by rw [e1]; exact bT_max rfl)⟩, List.forall_mem_cons.2 ⟨⟨(i2.mono (fun z hz => by repeat (first | exact hz | refine List.mem_cons_of_mem _ ?_ | refine List.mem_append_right _ ?_))).at hS, (show f2.f.length ≤ maxLen by rw [e2]; exact bT_max rfl)⟩, List.forall_mem_cons.2 ⟨⟨(i3.mono (fun z hz => by repeat (first | exact hz | refine List.mem_cons_of_mem _ ?_ | refine List.mem_append_right _ ?_))).at hS, (show f3.f.length ≤ maxLen by rw [e3]; exact bT_max rfl)⟩, List.forall_mem_cons.2 ⟨⟨(i4.mono (fun z hz => by repeat (first | exact hz | refine List.mem_cons_of_mem _ ?_ | refine List.mem_append_right _ ?_))).at hS, (show f4.f.length ≤ maxLen by rw [e4]; exact bT_max rfl)⟩, (fun _ h => by cases h)⟩⟩⟩⟩⟩ (hT.ex hS.ext) ((i4.mono (fun z hz => by repeat (first | exact hz | refine List.mem_cons_of_mem _ ?_ | refine List.mem_append_right _ ?_))).at hS) (by rw [e4]; exact bT_max rfl))) ?_
 rw [show (decide (checkH 0 (monL f1 f2 f3 f4) = 0) && sameB (((monL f1 f2 f3 f4).map (fun x => x.f.f)).getD ((monL f1 f2 f3 f4).length - 1) []) f4.f) = true from by
  rw [hcm]
  show (true && sameB f4.f f4.f) = true
  rw [e4, sameB_cf (cf_b mpT_ok form_mp) mpT_ok, decide_eq_true rfl]; rfl]
 refine gPt ?_
 iterate 3 refine gMv ?_
 refine gP rfl rfl rfl rfl rfl call16 (fun w _ hS => (by exact hproves_c 0 (some ⟨bm, 0, none⟩) 4 (monL f1 f2 f3 f4) (qi.map (fun b => ⟨b, 0, none⟩)) cqi (bT knT) w ⟨Sl.blk (hS.get (j := 3) rfl), List.forall_mem_cons.2 ⟨⟨(i1.mono (fun z hz => by repeat (first | exact hz | refine List.mem_cons_of_mem _ ?_ | refine List.mem_append_right _ ?_))).at hS, (show f1.f.length ≤ maxLen by rw [e1]; exact bT_max rfl)⟩, List.forall_mem_cons.2 ⟨⟨(i2.mono (fun z hz => by repeat (first | exact hz | refine List.mem_cons_of_mem _ ?_ | refine List.mem_append_right _ ?_))).at hS, (show f2.f.length ≤ maxLen by rw [e2]; exact bT_max rfl)⟩, List.forall_mem_cons.2 ⟨⟨(i3.mono (fun z hz => by repeat (first | exact hz | refine List.mem_cons_of_mem _ ?_ | refine List.mem_append_right _ ?_))).at hS, (show f3.f.length ≤ maxLen by rw [e3]; exact bT_max rfl)⟩, List.forall_mem_cons.2 ⟨⟨(i4.mono (fun z hz => by repeat (first | exact hz | refine List.mem_cons_of_mem _ ?_ | refine List.mem_append_right _ ?_))).at hS, (show f4.f.length ≤ maxLen by rw [e4]; exact bT_max rfl)⟩, (fun _ h => by cases h)⟩⟩⟩⟩⟩ (hT.ex hS.ext) (faAt hS 4 rfl (fun e => (hqi e).1)) (bT_max rfl))) ?_
 rw [show (decide (checkH 0 (monL f1 f2 f3 f4) = 0) && sameB (((monL f1 f2 f3 f4).map (fun x => x.f.f)).getD ((monL f1 f2 f3 f4).length - 1) []) (bT knT)) = false from by
  rw [hcm]
  show (true && sameB f4.f (bT knT)) = false
  rw [e4, sameB_cf (cf_b mpT_ok form_mp) knT_ok, decide_eq_false (by decide)]; rfl]
 refine gUn uNot ?_; refine gPt ?_; refine gAs ?_; refine gE ?_
 refine gT func13 fun w' hS => ?_
 exact ⟨hS.ext, rfl⟩
end Go.Proofs.YtlihcmknfdckdaaDoor
namespace Go.Proofs.YtlihcmknfdckdaaDoor
open Go.RowKit Go.Proofs.Wit Tryd
theorem gfewL_c (A : Option Addr) (cA : Nat) (ls : List LV) (n : Nat) (w : World) (hn : n ≤ 1000) (hA : LA w A ls) : Cn Tryd.prog 11 [.slice A ls.length cA, .int .i64 n] w (fun v _ => ∃ b, v = .bool b ∧ (b = true → ls.length ≤ n ∧ ∀ x ∈ ls, x.f.f.length ≤ 60)) := by
  refine Cn.of func11 rfl rfl ?_
  refine gS (gR ?_); refine gAs ?_; refine gE (gS (gS (gR ?_))); refine gMv ?_; refine gBl underlying22 ?_; refine gMv ?_; refine gBi bGt ?_; refine gE ?_
  refine gC (fun hc => ?_) fun hc => ?_
  ·
   have h1 : n < ls.length := by simp at hc; omega
   refine gS (gR ?_); refine gAs ?_; refine gE ?_
   refine gT func11 fun w' hS => ?_
   exact ⟨hS.ext, false, rfl, fun h => by cases h⟩
  ·
   have h1 : ¬ n < ls.length := by simp at hc; omega
   refine gK (gS (gS (gR ?_))); refine gMv ?_; refine gBl underlying22 ?_; refine gMv ?_; refine gE (gB ?_)
   refine GoH.loop (σ := Nat) (fun k => [(11, .slice A ls.length cA), (12, .int .i64 ls.length), (13, .int .i64 k)]) (fun _ => [])
     (fun k => k ≤ ls.length ∧ ∀ x ∈ ls.take k, x.f.f.length ≤ 60) (fun k => ls.length - k) 0 ⟨Nat.zero_le _, fun x hx => by simp at hx⟩ ⟨rfl, rfl, rfl, trivial⟩ (List.nil_sublist _) (fun k hI IH => ?_)
   obtain ⟨hk, h0⟩ := hI
   refine gS (gR ?_); refine gBi bLt ?_; refine gE (gS ?_)
   refine gC (fun hc => ?_) fun hc => ?_
   ·
    have hlt : k < ls.length := by simpa using hc
    refine gK (gS (gB (gS (gR ?_))))
    refine GoH.v (Vop.idxN rfl rfl rfl rfl rfl underlying22 sizeOf40 ⟨_, (hA).at_⟩ (flat_len (enc := LV.cells) (sz := 5) (fun _ => rfl)) (by decide) (k) ⟨rfl, hlt⟩) ?_
    refine GoH.v (Vop.ldN (cs := LV.cells ls[k]) rfl rfl rfl rfl isAgg40 sizeOf40 (fun w _ hS => Sl.many (enc := LV.cells) (sz := 5) (hA.ex0 hS.ext).at_ (fun _ => rfl) hlt)) ?_
    refine GoH.alc rfl rfl rfl (fun _ => zeroValue40 _) (fun b6 => ?_)
    refine GoH.stB rfl rfl rfl rfl sizeOf40 0 rfl rfl rfl rfl ?_
    refine gE (gS (gR ?_)); refine gFp underlying40 sizeOf23 0 ?_; refine gLo isAgg23 0 ?_; refine gBl underlying23 ?_; refine gBi bGt ?_; refine gE ?_
    refine gC (fun hc => ?_) fun hc => ?_
    ·
     have h2 : 60 < ls[k].f.f.length := by simp at hc; omega
     refine gS (gR ?_); refine gAs ?_; refine gE ?_
     refine gT func11 fun w' hS => ?_
     exact ⟨hS.ext, false, rfl, fun h => by cases h⟩
    ·
     have h2 : ¬ 60 < ls[k].f.f.length := by simp at hc; omega
     refine gK (gIb (gR ?_)); refine gBx rfl rfl rfl rfl (bAdd (by omega)) ?_; refine gMv ?_; refine gE ?_
     refine IH (k + 1) _ _ ⟨hlt, fun x hx => ?_⟩ (by omega) ⟨rfl, rfl, rfl, trivial⟩ (List.nil_sublist _)
     rw [List.take_succ_eq_append_getElem hlt] at hx
     rcases List.mem_append.1 hx with hx | hx
     · exact h0 x hx
     · rw [List.mem_singleton.1 hx]; omega
   ·
    have hge : ¬ k < ls.length := by simpa using hc
    obtain rfl : k = ls.length := by omega
    rw [List.take_length] at h0
    refine GoH.exit rfl (gS (gR ?_))
    refine gAs ?_; refine gE ?_
    refine gT func11 fun w' hS => ?_
    exact ⟨hS.ext, true, rfl, fun _ => ⟨by omega, h0⟩⟩
end Go.Proofs.YtlihcmknfdckdaaDoor
