/- What calls of the program return, under the conditions that each theorem states. -/
import Derived.Test.YthojdcaojjmoaaaGreatDoorB36
import Derived.Test.YthojdcaojjmoaaaGreatDoorB35
import Derived.Test.YthojdcaojjmoaaaGreatDoorB13
import Derived.Test.YthojdcaojjmoaaaGreatDoorB37
import Derived.Test.YthojdcaojjmoaaaGreatDoorB04
import Derived.Test.YthojdcaojjmoaaaGreatDoorB11
import Derived.Test.YthojdcaojjmoaaaGreatDoorB27
import Derived.Test.YthojdcaojjmoaaaGreatDoorB33
namespace Go.Proofs.YthojdcaojjmoaaaGreatDoor
open Go.RowKit Go.Proofs.Wit
def optR : Option Nat → Int × Int
  | none => (0, 6)
  | some k => ((k : Int), 0)
theorem dpD_val {m : MV} {v x : Int} (hck : chkD m [v, x] = 0) : dpD m v x = optR (dst m.n.toNat m.val m.rel v.toNat x.toNat) := by
  rw [dpD, if_neg (by simp [hck])]
  cases dst m.n.toNat m.val m.rel v.toNat x.toNat <;> rfl
theorem dp_ex {b22 b21 b20 : Nat} (v x : Int) {k : Option Nat} (hv : 0 ≤ v ∧ v < 3) (hx : 0 ≤ x ∧ x < 3) (h : dst 3 exV exM v.toNat x.toNat = k) : dpD (mvE b22 b21 b20 [2#64, 4#64, 4#64]) v x = optR k := by
  have hck : chkD (mvE b22 b21 b20 [2#64, 4#64, 4#64]) [v, x] = 0 := chkD_zero.2 ⟨ex_valM, fun y hy => by
    simp only [List.mem_cons, List.not_mem_nil, or_false] at hy
    rcases hy with rfl | rfl
    · exact hv
    · exact hx⟩
  rw [dpD_val hck, ← h]; rfl
theorem form_get {m : MV} {n : Nat} {v x : Int} {f : List NV} {e : Int} {k : Nat} (h : FormP m v x f e) (hn : m.n = (n : Int)) (h5 : n ≤ 5) (hv : ValM m.n m.val m.rel) (hv2 : 0 ≤ v ∧ v < m.n) (hx : 0 ≤ x ∧ x < m.n) (hd : dst n m.val m.rel v.toNat x.toNat = some k) : e = 0 ∧ f.length ≤ 200 ∧ ∃ t, PlnF n m.val m.rel f t ∧ TellT n m.val m.rel v.toNat x.toNat k t := by
  have hn1 := hv.n1
  have hn64 := hv.n64
  have hck : chkD m [v, x] = 0 := chkD_zero.2 ⟨hv, fun y hy => by
    simp only [List.mem_cons, List.not_mem_nil, or_false] at hy
    rcases hy with rfl | rfl
    · exact hv2
    · exact hx⟩
  have hvN : ValM (n : Int) m.val m.rel := by rw [← hn]; exact hv
  have hdp : dpD m v x = ((k : Int), 0) := by rw [dpD, if_neg (by simp [hck]), hn, Int.toNat_natCast, hd]
  rcases h with h | h | ⟨_, rfl, hne, j, t, hj, ht, hf⟩
  · rw [hdp] at h; exact absurd rfl h.1
  · exact absurd h.2.2.2 (by omega)
  · rw [hn, Int.toNat_natCast] at ht hj
    rw [hd] at hj
    obtain rfl := Option.some.inj hj
    exact ⟨rfl, by rw [hf]; exact bT_le _, t, PlnF.of hvN ht.ok ht.pl hf hne, ht⟩
theorem holdS_of {m : MV} {n : Nat} {f : List NV} {t : Tr} (h : PlnF n m.val m.rel f t) (hn : m.n = (n : Int)) : holdS m n f = semT n m.val m.rel t ∧ holdE m.n m.val m.rel f = 0 := by
  have h0 : holdE m.n m.val m.rel f = 0 := by rw [hn]; exact h.hold
  exact ⟨by rw [holdS, if_pos h0, h.top], h0⟩
end Go.Proofs.YthojdcaojjmoaaaGreatDoor
namespace Go.Proofs.YthojdcaojjmoaaaGreatDoor
open Go.RowKit Go.Proofs.Wit
/-! the examples of the laws on distinguishing formulas -/
theorem amodel_c (w : World) : Cn Tryz.prog 24 [] w (fun v w' => ∃ b17 b16 b15, v = (mvE b17 b16 b15 [2#64, 4#64, 4#64]).v ∧ NewH w w' [(some b17, ob Row.v 22 [⟨some ⟨b16, 0, none⟩, 3, [2#64, 4#64, 4#64]⟩] []), (some b16, ob U 33 [2#64, 4#64, 4#64] []), (some b15, ob U 33 exV [])]) := by
  refine Cn.of Tryz.func24 rfl rfl ?_
  refine gS (gR ?_)
  refine GoH.alc rfl rfl rfl (fun _ => Tryz.zeroValue25 _) (fun b0 => ?_)
  refine gE (gS (gR ?_))
  refine GoH.bsN (c := [_]) rfl rfl rfl rfl Tryz.underlying22 Tryz.sizeOf33 Tryz.zeroValue33 rfl rfl (fun b1 => ?_)
  refine GoH.bsN (c := [_, _, _]) rfl rfl rfl rfl Tryz.underlying22 Tryz.sizeOf33 Tryz.zeroValue33 rfl rfl (fun b2 => ?_)
  refine GoH.bsN (c := [_]) rfl rfl rfl rfl Tryz.underlying23 Tryz.sizeOf22 Tryz.zeroValue22 rfl rfl (fun b3 => ?_)
  refine GoH.v (Vop.bld rfl rfl rfl rfl (bld (c := [_, _, _]) Tryz.underlying25 (Szs.cons Tryz.sizeOf3 (Szs.cons Tryz.sizeOf22 (Szs.cons Tryz.sizeOf23 Szs.nil))) Tryz.zeroValue25 rfl)) ?_
  refine GoH.stB rfl rfl rfl rfl Tryz.sizeOf25 3 rfl rfl rfl rfl ?_
  refine gE ?_
  refine GoH.retH Tryz.f24 Tryz.func24 _ (resH.cell rfl Tryz.isAgg25 Tryz.sizeOf25 (j := 3) rfl rfl resH.nil) (fun w' hS => ?_)
  exact ⟨hS.ext, b3, b2, b1, rfl, (NewH.of hS).sub (.cons_cons _ (.cons_cons _ (.cons_cons _ (.cons _ .slnil))))⟩
set_option maxRecDepth 8000 in
theorem aawake11_c (w : World) (hT : Tab w) : Cn Tryz.prog 10 [] w (fun v _ => v = .bool true) := by
  refine Cn.of Tryz.func10 rfl rfl ?_
  refine gS (gR ?_)
  refine gAs ?_
  refine gE (gS (gR ?_))
  refine GoH.callM _ rfl rfl rfl rfl rfl (fun _ _ => Tryz.call24 _ _) (fun w _ hS => (by exact amodel_c w)) ?_
  rintro v w1 w2 Y' hS he ⟨b17, b16, b15, rfl, hnew⟩
  refine ⟨_, hS.gainL he hnew, ?_⟩
  refine GoH.alc rfl rfl rfl (fun _ => Tryz.zeroValue25 _) (fun b1 => ?_)
  refine GoH.stB rfl rfl rfl rfl Tryz.sizeOf25 0 rfl rfl rfl rfl ?_
  refine gE (gS (gR ?_))
  refine GoH.v (Vop.ldB rfl rfl rfl rfl Tryz.isAgg25 0 rfl Tryz.sizeOf25 rfl) ?_
  refine GoH.callP rfl rfl rfl rfl rfl (fun _ _ => Tryz.call25 _ _) (fun w _ hS => (by have := dDepth_c (mvE b17 b16 b15 [2#64, 4#64, 4#64]) 0 1 w (hT.ex hS.ext) (MV.In.at (mvE_in rfl (List.mem_of_getElem? (i := 1) rfl) (List.mem_of_getElem? (i := 2) rfl) (List.mem_of_getElem? (i := 3) rfl)) hS); rw [dp_ex 0 1 (k := some 1) (by decide) (by decide) ex_dst.2.1] at this; exact this)) ?_
  refine gMv ?_
  iterate 2 refine gEx ?_
  iterate 2 refine gAs ?_
  refine gE (gS (gR ?_))
  refine GoH.v (Vop.ldB rfl rfl rfl rfl Tryz.isAgg25 0 rfl Tryz.sizeOf25 rfl) ?_
  refine GoH.callM _ rfl rfl rfl rfl rfl (fun _ _ => Tryz.call14 _ _) (fun w _ hS => (by exact dFormula_c (mvE b17 b16 b15 [2#64, 4#64, 4#64]) 0 1 w (hT.ex hS.ext) (MV.In.at (mvE_in rfl (List.mem_of_getElem? (i := 1) rfl) (List.mem_of_getElem? (i := 2) rfl) (List.mem_of_getElem? (i := 3) rfl)) hS))) ?_
  rintro v w1 w2 Y' hS he ⟨sv, f1, e1, rfl, ho, hF⟩
  obtain ⟨q1, cap1, sp1, rfl, hq1, hcap1, hS'⟩ := gainN hS he ho
  obtain ⟨rfl, hl1, t1, hp1, hT1⟩ := form_get (n := 3) (k := 1) hF rfl (by decide) ex_valM (show (0 : Int) ≤ 0 ∧ (0 : Int) < 3 by decide) (show (0 : Int) ≤ 1 ∧ (1 : Int) < 3 by decide) ex_dst.2.1
  obtain ⟨hS1, hE1⟩ := holdS_of hp1 rfl
  have hb1 : semT 3 exV exM t1 &&& 3#64 = 1#64 := and3 hT1.yes hT1.no
  refine ⟨_, hS', ?_⟩
  refine gMv ?_
  iterate 2 refine gEx ?_
  iterate 2 refine gAs ?_
  refine gE (gS (gR ?_))
  refine GoH.v (Vop.ldB rfl rfl rfl rfl Tryz.isAgg25 1 rfl Tryz.sizeOf25 rfl) ?_
  refine gMv ?_
  refine GoH.callP rfl rfl rfl rfl rfl (fun _ _ => Tryz.call11 _ _) (fun w _ hS => (by have := pholds_c (mvE b17 b16 b15 [2#64, 4#64, 4#64]) 3 (q1.map (fun b => ⟨b, 0, none⟩)) cap1 f1 w (MV.In.at (mvE_in rfl (List.mem_of_getElem? (i := 2) rfl) (List.mem_of_getElem? (i := 3) rfl) (List.mem_of_getElem? (i := 4) rfl)) hS) rfl (faAt hS 0 rfl (fun e => (hq1 e).1)) (by unfold maxLen; omega); rw [hS1, hE1] at this; exact this)) ?_
  refine gMv ?_
  iterate 2 refine gEx ?_
  iterate 2 refine gAs ?_
  refine gE (gS (gR ?_))
  refine gMv ?_
  refine GoH.v (Vop.bin rfl rfl rfl rfl (bEqV (v := true) rfl) rfl) ?_
  iterate 2 refine gMv ?_
  refine GoH.v (Vop.bin rfl rfl rfl rfl (bEqV (v := true) rfl) rfl) ?_
  refine gPt ?_
  iterate 2 refine gMv ?_
  refine GoH.v (Vop.bin rfl rfl rfl rfl (bEqV (v := true) rfl) rfl) ?_
  refine gPt ?_
  iterate 2 refine gMv ?_
  refine GoH.v (Vop.bin rfl rfl rfl rfl (bEqV (v := true) rfl) rfl) ?_
  refine gPt ?_
  iterate 2 refine gMv ?_
  refine GoH.v (Vop.bin (b := U 3#64) rfl rfl rfl rfl bAnd rfl) ?_
  refine GoH.v (Vop.bin (b := U 1#64) rfl rfl rfl rfl (bEqUV (v := true) (by exact beq_iff_eq.2 hb1)) rfl) ?_
  refine gPt ?_
  refine gAs ?_
  refine gE ?_
  refine GoH.ret Tryz.f10 Tryz.func10 rfl (fun w' hS => ?_)
  exact ⟨hS.ext, rfl⟩
end Go.Proofs.YthojdcaojjmoaaaGreatDoor
