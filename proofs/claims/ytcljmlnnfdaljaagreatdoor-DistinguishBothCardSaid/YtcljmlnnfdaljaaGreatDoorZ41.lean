/- What calls of the program return, under the conditions that each theorem states. -/
import Derived.Test.YtcljmlnnfdaljaaGreatDoorZ36
import Derived.Test.YtcljmlnnfdaljaaGreatDoorZ39
import Derived.Test.YtcljmlnnfdaljaaGreatDoorZ15
import Derived.Test.YtcljmlnnfdaljaaGreatDoorZ40
import Derived.Test.YtcljmlnnfdaljaaGreatDoorZ04
namespace Go.Proofs.YtcljmlnnfdaljaaGreatDoor
open Go.RowKit Go.Proofs.Wit
/-! the examples of chapter 21 -/
def plB (f : List NV) (A B : Nat) : Bool := chkF f == 0 && (fitB f A B && ((andN (frgL (compF f)) 1 : Nat) : Int) == 0)
theorem plain_c (m : MV) (a : Option Addr) (ca : Nat) (f : List NV) (w : World) (_hm : m.At w) (ha : FA w a f) (hl : f.length ≤ maxLen) : Cn Tryz.prog 13 [m.v, .slice a f.length ca] w (fun v _ => v = .bool (plB f m.rel.length m.val.length)) := by
  have hfl := frgL_lt (compF f)
  have hrl : m.rel.length = m.rows.length := by simp [MV.rel]
  rw [hrl]
  refine Cn.of Tryz.func13 rfl rfl ?_
  refine gS (gR ?_)
  refine GoH.bx rfl rfl rfl rfl (fun b2 => ?_)
  refine gAs ?_
  refine gE (gS (gR ?_))
  refine gMv ?_
  refine GoH.callP rfl rfl rfl rfl rfl (fun _ _ => Tryz.call28 _ _) (fun w _ hS => (by exact rchk_c a ca f w (ha.ex0 hS.ext) hl)) ?_
  refine gBi bEq ?_
  refine gMv ?_
  refine GoH.cases (d := 8) rfl (fun hc => ?_) (fun hc => ?_)
  ·
   refine gMv ?_
   refine gFp Tryz.underlying25 Tryz.sizeOf23 2 ?_
   refine GoH.v (Vop.ldo (v := .slice m.ra m.rows.length m.rc) rfl rfl rfl rfl Tryz.isAgg23 0 rfl rfl) ?_
   refine gBl Tryz.underlying23 ?_
   refine gFp Tryz.underlying25 Tryz.sizeOf22 1 ?_
   refine GoH.v (Vop.ldo (v := .slice m.va m.val.length m.vc) rfl rfl rfl rfl Tryz.isAgg22 0 rfl rfl) ?_
   refine gBl Tryz.underlying22 ?_
   refine GoH.callP rfl rfl rfl rfl rfl (fun _ _ => Tryz.call29 _ _) (fun w _ hS => (by exact rfitsF_c a ca f m.rows.length m.val.length w (ha.ex0 hS.ext) hl)) ?_
   refine gPt ?_
   refine gMv ?_
   refine GoH.cases (d := 18) rfl (fun hc => ?_) (fun hc => ?_)
   ·
    have h2 := hc
    refine gMv ?_
    refine GoH.callP rfl rfl rfl rfl rfl (fun _ _ => Tryz.call30 _ _) (fun w _ hS => (by exact rfrags_c a ca f w (ha.ex0 hS.ext) hl)) ?_
    refine GoH.v (Vop.bin rfl rfl rfl rfl (bAndNotI hfl (by omega : (1 : Nat) < 512)) rfl) ?_
    refine gBi bEq ?_
    refine gPt ?_
    refine gAs ?_
    refine gE ?_
    refine GoH.ret Tryz.f13 Tryz.func13 rfl (fun w' hS => ?_)
    exact ⟨hS.ext, by rw [plB]; simp_all; rfl⟩
   ·
    iterate 4 refine gNo ?_
    refine gPf ?_
    refine gAs ?_
    refine gE ?_
    refine GoH.ret Tryz.f13 Tryz.func13 rfl (fun w' hS => ?_)
    exact ⟨hS.ext, by rw [plB]; simp_all; rfl⟩
  ·
   iterate 8 refine gNo ?_
   refine gPf ?_
   refine gMv ?_
   iterate 4 refine gNo ?_
   refine gPf ?_
   refine gAs ?_
   refine gE ?_
   refine GoH.ret Tryz.f13 Tryz.func13 rfl (fun w' hS => ?_)
   exact ⟨hS.ext, by have h0 : (chkF f == 0) = false := hc; rw [plB, h0]; rfl⟩
theorem plB_of {n : Nat} {val : List W64} {rel : List (List W64)} {f : List NV} {t : Tr} (h : PlnF n val rel f t) : plB f rel.length val.length = true := by
  rw [plB, h.chk, h.fit, h.frg]; rfl
def optR : Option Nat → Int × Int
  | none => (0, 6)
  | some k => ((k : Int), 0)
theorem dpD_val {m : MV} {v x : Int} (hck : chkD m [v, x] = 0) : dpD m v x = optR (dst m.n.toNat m.val m.rel v.toNat x.toNat) := by
  rw [dpD, if_neg (by simp [hck])]
  cases dst m.n.toNat m.val m.rel v.toNat x.toNat <;> rfl
theorem dp_ex {b22 b21 b20 : Nat} (v x : Int) {k : Option Nat} (hv : 0 ≤ v ∧ v < 3) (hx : 0 ≤ x ∧ x < 3) (h : dst 3 exV exM v.toNat x.toNat = k) : dpD (mvE b22 b21 b20 [2#64, 4#64, 4#64]) v x = optR k := by
  have hck : chkD (mvE b22 b21 b20 [2#64, 4#64, 4#64]) [v, x] = 0 := chkD_zero.2 ⟨ex_valM, fun y hy => by
    simp only [List.mem_cons, List.not_mem_nil, or_false] at hy
    rcases hy with rfl | rfl
    · exact hv
    · exact hx⟩
  rw [dpD_val hck, ← h]; rfl
theorem char_get {m : MV} {n : Nat} {x j : Int} {f : List NV} {e : Int} (h : CharP m x j f e) (hn : m.n = (n : Int)) (h5 : n ≤ 5) (hv : ValM m.n m.val m.rel) (hx : 0 ≤ x ∧ x < m.n) (hj : 0 ≤ j) : e = 0 ∧ f.length ≤ 200 ∧ ∃ t, PlnF n m.val m.rel f t ∧ semT n m.val m.rel t = clsW n (psq n m.val m.rel j.toNat) x.toNat := by
  have hn1 := hv.n1
  have hn64 := hv.n64
  have hck : chkD m [x] = 0 := chkD_zero.2 ⟨hv, fun y hy => by rw [List.mem_singleton.1 hy]; exact hx⟩
  have hvN : ValM (n : Int) m.val m.rel := by rw [← hn]; exact hv
  rcases h with h | h | h | ⟨_, _, rfl, hne, k, ts, hk, hts, hf⟩
  · exact absurd hck h.1
  · exact absurd h.2.1 (by omega)
  · exact absurd h.2.2.2.2 (by omega)
  · rw [hn, Int.toNat_natCast] at hts hk
    refine ⟨rfl, by rw [hf]; exact bT_le _, conjT ts, PlnF.of hvN (conjT_ok hts.ok) (conj_pln (fun t ht => by obtain ⟨_, _, _, _, _, h5⟩ := hts.mem t ht; exact h5.pl)) hf hne, ?_⟩
    rw [char_set hvN (by omega) hts, hk, psq_min (by omega) (by omega)]
theorem form_get {m : MV} {n : Nat} {v x : Int} {f : List NV} {e : Int} {k : Nat} (h : FormP m v x f e) (hn : m.n = (n : Int)) (h5 : n ≤ 5) (hv : ValM m.n m.val m.rel) (hv2 : 0 ≤ v ∧ v < m.n) (hx : 0 ≤ x ∧ x < m.n) (hd : dst n m.val m.rel v.toNat x.toNat = some k) : e = 0 ∧ f.length ≤ 200 ∧ ∃ t, PlnF n m.val m.rel f t ∧ TellT n m.val m.rel v.toNat x.toNat k t := by
  have hn1 := hv.n1
  have hn64 := hv.n64
  have hck : chkD m [v, x] = 0 := chkD_zero.2 ⟨hv, fun y hy => by
    simp only [List.mem_cons, List.not_mem_nil, or_false] at hy
    rcases hy with rfl | rfl
    · exact hv2
    · exact hx⟩
  have hvN : ValM (n : Int) m.val m.rel := by rw [← hn]; exact hv
  have hdp : dpD m v x = ((k : Int), 0) := by rw [dpD, if_neg (by simp [hck]), hn, Int.toNat_natCast, hd]
  rcases h with h | h | ⟨_, rfl, hne, j, t, hj, ht, hf⟩
  · rw [hdp] at h; exact absurd rfl h.1
  · exact absurd h.2.2.2 (by omega)
  · rw [hn, Int.toNat_natCast] at ht hj
    rw [hd] at hj
    obtain rfl := Option.some.inj hj
    exact ⟨rfl, by rw [hf]; exact bT_le _, t, PlnF.of hvN ht.ok ht.pl hf hne, ht⟩
theorem holdS_of {m : MV} {n : Nat} {f : List NV} {t : Tr} (h : PlnF n m.val m.rel f t) (hn : m.n = (n : Int)) : holdS m n f = semT n m.val m.rel t ∧ holdE m.n m.val m.rel f = 0 := by
  have h0 : holdE m.n m.val m.rel f = 0 := by rw [hn]; exact h.hold
  exact ⟨by rw [holdS, if_pos h0, h.top], h0⟩
set_option maxRecDepth 8000 in
theorem awake21_c (w : World) (hT : Tab w) : Cn Tryz.prog 9 [] w (fun v _ => v = .bool true) := by
  refine Cn.of Tryz.func9 rfl rfl ?_
  refine gS (gR ?_)
  refine gAs ?_
  refine gE (gS (gR ?_))
  refine GoH.bsN (c := [_]) rfl rfl rfl rfl Tryz.underlying22 Tryz.sizeOf36 Tryz.zeroValue36 rfl rfl (fun b20 => ?_)
  refine GoH.bsN (c := [_, _, _]) rfl rfl rfl rfl Tryz.underlying22 Tryz.sizeOf36 Tryz.zeroValue36 rfl rfl (fun b21 => ?_)
  refine GoH.bsN (c := [_]) rfl rfl rfl rfl Tryz.underlying23 Tryz.sizeOf22 Tryz.zeroValue22 rfl rfl (fun b22 => ?_)
  refine GoH.v (Vop.bld rfl rfl rfl rfl (bld (c := [_, _, _]) Tryz.underlying25 (Szs.cons Tryz.sizeOf3 (Szs.cons Tryz.sizeOf22 (Szs.cons Tryz.sizeOf23 Szs.nil))) Tryz.zeroValue25 rfl)) ?_
  refine GoH.alc rfl rfl rfl (fun _ => Tryz.zeroValue25 _) (fun b1 => ?_)
  refine GoH.stB rfl rfl rfl rfl Tryz.sizeOf25 0 rfl rfl rfl rfl ?_
  refine gE (gS (gR ?_))
  refine GoH.v (Vop.ldB rfl rfl rfl rfl Tryz.isAgg25 0 rfl Tryz.sizeOf25 rfl) ?_
  refine GoH.callP rfl rfl rfl rfl rfl (fun _ _ => Tryz.call10 _ _) (fun w _ hS => (by have := dDepth_c (mvE b22 b21 b20 [2#64, 4#64, 4#64]) 0 2 w (hT.ex hS.ext) (MV.In.at (mvE_in rfl (List.mem_of_getElem? (i := 1) rfl) (List.mem_of_getElem? (i := 2) rfl) (List.mem_of_getElem? (i := 3) rfl)) hS); rw [dp_ex 0 2 (k := some 0) (by decide) (by decide) ex_dst.1] at this; exact this)) ?_
  refine gMv ?_
  iterate 2 refine gEx ?_
  iterate 2 refine gAs ?_
  refine gE (gS (gR ?_))
  refine GoH.v (Vop.ldB rfl rfl rfl rfl Tryz.isAgg25 0 rfl Tryz.sizeOf25 rfl) ?_
  refine GoH.callP rfl rfl rfl rfl rfl (fun _ _ => Tryz.call10 _ _) (fun w _ hS => (by have := dDepth_c (mvE b22 b21 b20 [2#64, 4#64, 4#64]) 0 1 w (hT.ex hS.ext) (MV.In.at (mvE_in rfl (List.mem_of_getElem? (i := 1) rfl) (List.mem_of_getElem? (i := 2) rfl) (List.mem_of_getElem? (i := 3) rfl)) hS); rw [dp_ex 0 1 (k := some 1) (by decide) (by decide) ex_dst.2.1] at this; exact this)) ?_
  refine gMv ?_
  iterate 2 refine gEx ?_
  iterate 2 refine gAs ?_
  refine gE (gS (gR ?_))
  refine GoH.v (Vop.ldB rfl rfl rfl rfl Tryz.isAgg25 0 rfl Tryz.sizeOf25 rfl) ?_
  refine GoH.callM _ rfl rfl rfl rfl rfl (fun _ _ => Tryz.call12 _ _) (fun w _ hS => (by exact dFormula_c (mvE b22 b21 b20 [2#64, 4#64, 4#64]) 0 1 w (hT.ex hS.ext) (MV.In.at (mvE_in rfl (List.mem_of_getElem? (i := 1) rfl) (List.mem_of_getElem? (i := 2) rfl) (List.mem_of_getElem? (i := 3) rfl)) hS))) ?_
  rintro v w1 w2 Y' hS he ⟨sv, f1, e1, rfl, ho, hF⟩
  obtain ⟨q1, cap1, sp1, rfl, hq1, hcap1, hS'⟩ := gainN hS he ho
  obtain ⟨rfl, hl1, t1, hp1, hT1⟩ := form_get (n := 3) (k := 1) hF rfl (by decide) ex_valM (show (0 : Int) ≤ 0 ∧ (0 : Int) < 3 by decide) (show (0 : Int) ≤ 1 ∧ (1 : Int) < 3 by decide) ex_dst.2.1
  refine ⟨_, hS', ?_⟩
  refine gMv ?_
  iterate 2 refine gEx ?_
  iterate 2 refine gAs ?_
  refine gE (gS (gR ?_))
  refine GoH.v (Vop.ldB rfl rfl rfl rfl Tryz.isAgg25 1 rfl Tryz.sizeOf25 rfl) ?_
  refine GoH.callM _ rfl rfl rfl rfl rfl (fun _ _ => Tryz.call16 _ _) (fun w _ hS => (by exact dChar_c (mvE b22 b21 b20 [2#64, 4#64, 4#64]) 1 0 w (hT.ex hS.ext) (MV.In.at (mvE_in rfl (List.mem_of_getElem? (i := 2) rfl) (List.mem_of_getElem? (i := 3) rfl) (List.mem_of_getElem? (i := 4) rfl)) hS))) ?_
  rintro v w1 w2 Y' hS he ⟨sv, f2, e2, rfl, ho, hF⟩
  obtain ⟨q2, cap2, sp2, rfl, hq2, hcap2, hS'⟩ := gainN hS he ho
  obtain ⟨rfl, hl2, t2, hp2, hT2⟩ := char_get (n := 3) hF rfl (by decide) ex_valM (show (0 : Int) ≤ 1 ∧ (1 : Int) < 3 by decide) (by decide)
  refine ⟨_, hS', ?_⟩
  refine gMv ?_
  iterate 2 refine gEx ?_
  iterate 2 refine gAs ?_
  refine gE (gS (gR ?_))
  refine GoH.v (Vop.ldB rfl rfl rfl rfl Tryz.isAgg25 2 rfl Tryz.sizeOf25 rfl) ?_
  refine GoH.callM _ rfl rfl rfl rfl rfl (fun _ _ => Tryz.call16 _ _) (fun w _ hS => (by exact dChar_c (mvE b22 b21 b20 [2#64, 4#64, 4#64]) 1 1 w (hT.ex hS.ext) (MV.In.at (mvE_in rfl (List.mem_of_getElem? (i := 3) rfl) (List.mem_of_getElem? (i := 4) rfl) (List.mem_of_getElem? (i := 5) rfl)) hS))) ?_
  rintro v w1 w2 Y' hS he ⟨sv, f3, e3, rfl, ho, hF⟩
  obtain ⟨q3, cap3, sp3, rfl, hq3, hcap3, hS'⟩ := gainN hS he ho
  obtain ⟨rfl, hl3, t3, hp3, hT3⟩ := char_get (n := 3) hF rfl (by decide) ex_valM (show (0 : Int) ≤ 1 ∧ (1 : Int) < 3 by decide) (by decide)
  refine ⟨_, hS', ?_⟩
  refine gMv ?_
  iterate 2 refine gEx ?_
  iterate 2 refine gAs ?_
  refine gE (gS (gR ?_))
  refine GoH.v (Vop.ldB rfl rfl rfl rfl Tryz.isAgg25 3 rfl Tryz.sizeOf25 rfl) ?_
  refine GoH.callM _ rfl rfl rfl rfl rfl (fun _ _ => Tryz.call12 _ _) (fun w _ hS => (by exact dFormula_c (mvE b22 b21 b20 [2#64, 4#64, 4#64]) 1 1 w (hT.ex hS.ext) (MV.In.at (mvE_in rfl (List.mem_of_getElem? (i := 4) rfl) (List.mem_of_getElem? (i := 5) rfl) (List.mem_of_getElem? (i := 6) rfl)) hS))) ?_
  rintro v w1 w2 Y' hS he ⟨sv, f4, e4, rfl, ho, hF⟩
  obtain ⟨q4, cap4, sp4, rfl, hq4, hcap4, hS'⟩ := gainN hS he ho
  obtain rfl : e4 = 6 := by
    have hd := dp_ex (b22 := b22) (b21 := b21) (b20 := b20) 1 1 (k := none) (by decide) (by decide) ex_dst.2.2
    rcases hF with h | h | h
    · rw [h.2.2, hd]; rfl
    · rw [hd] at h; exact absurd h.1 (by decide)
    · rw [hd] at h; exact absurd h.1 (by decide)
  refine ⟨_, hS', ?_⟩
  have hm200 : ∀ {f : List NV}, f.length ≤ 200 → f.length ≤ maxLen := fun h => by unfold maxLen; omega
  obtain ⟨hS1, hE1⟩ := holdS_of hp1 rfl
  obtain ⟨hS2, hE2⟩ := holdS_of hp2 rfl
  obtain ⟨hS3, hE3⟩ := holdS_of hp3 rfl
  have hc2 : semT 3 exV exM t2 = 3#64 := hT2.trans ex_cls.1
  have hc3 : semT 3 exV exM t3 = 2#64 := hT3.trans ex_cls.2
  have hb1 : semT 3 exV exM t1 &&& 3#64 = 1#64 := and3 hT1.yes hT1.no
  refine gMv ?_
  iterate 2 refine gEx ?_
  iterate 2 refine gAs ?_
  refine gE (gS (gS (gR ?_)))
  refine gMv ?_
  refine GoH.v (Vop.bin rfl rfl rfl rfl (bNeV (v := false) rfl) rfl) ?_
  iterate 2 refine gMv ?_
  refine GoH.v (Vop.bin rfl rfl rfl rfl (bNeV (v := false) rfl) rfl) ?_
  refine gPf ?_
  iterate 2 refine gMv ?_
  refine GoH.v (Vop.bin rfl rfl rfl rfl (bNeV (v := false) rfl) rfl) ?_
  refine gPf ?_
  iterate 2 refine gMv ?_
  refine GoH.v (Vop.bin rfl rfl rfl rfl (bNeV (v := false) rfl) rfl) ?_
  refine gPf ?_
  iterate 2 refine gMv ?_
  refine GoH.v (Vop.bin rfl rfl rfl rfl (bNeV (v := false) rfl) rfl) ?_
  refine gPf ?_
  iterate 2 refine gMv ?_
  refine GoH.v (Vop.bin rfl rfl rfl rfl (bNeV (v := false) rfl) rfl) ?_
  refine gPf ?_
  iterate 2 refine gMv ?_
  refine GoH.v (Vop.bin rfl rfl rfl rfl (bNeV (v := false) rfl) rfl) ?_
  refine gPf ?_
  iterate 2 refine gMv ?_
  refine GoH.v (Vop.bin rfl rfl rfl rfl (bNeV (v := false) rfl) rfl) ?_
  refine gPf ?_
  refine gMv ?_
  refine GoH.v (Vop.ldB rfl rfl rfl rfl Tryz.isAgg25 4 rfl Tryz.sizeOf25 rfl) ?_
  refine gMv ?_
  refine GoH.callP rfl rfl rfl rfl rfl (fun _ _ => Tryz.call13 _ _) (fun w _ hS => (by have := plain_c (mvE b22 b21 b20 [2#64, 4#64, 4#64]) (q1.map (fun b => ⟨b, 0, none⟩)) cap1 f1 w (MV.In.at (mvE_in rfl (List.mem_of_getElem? (i := 5) rfl) (List.mem_of_getElem? (i := 6) rfl) (List.mem_of_getElem? (i := 7) rfl)) hS) (faAt hS 3 rfl (fun e => (hq1 e).1)) (hm200 hl1); rw [plB_of hp1] at this; exact this)) ?_
  refine gUn uNot ?_
  refine gPf ?_
  refine gMv ?_
  refine GoH.v (Vop.ldB rfl rfl rfl rfl Tryz.isAgg25 4 rfl Tryz.sizeOf25 rfl) ?_
  refine gMv ?_
  refine GoH.callP rfl rfl rfl rfl rfl (fun _ _ => Tryz.call13 _ _) (fun w _ hS => (by have := plain_c (mvE b22 b21 b20 [2#64, 4#64, 4#64]) (q2.map (fun b => ⟨b, 0, none⟩)) cap2 f2 w (MV.In.at (mvE_in rfl (List.mem_of_getElem? (i := 5) rfl) (List.mem_of_getElem? (i := 6) rfl) (List.mem_of_getElem? (i := 7) rfl)) hS) (faAt hS 2 rfl (fun e => (hq2 e).1)) (hm200 hl2); rw [plB_of hp2] at this; exact this)) ?_
  refine gUn uNot ?_
  refine gPf ?_
  refine gMv ?_
  refine GoH.v (Vop.ldB rfl rfl rfl rfl Tryz.isAgg25 4 rfl Tryz.sizeOf25 rfl) ?_
  refine gMv ?_
  refine GoH.callP rfl rfl rfl rfl rfl (fun _ _ => Tryz.call13 _ _) (fun w _ hS => (by have := plain_c (mvE b22 b21 b20 [2#64, 4#64, 4#64]) (q3.map (fun b => ⟨b, 0, none⟩)) cap3 f3 w (MV.In.at (mvE_in rfl (List.mem_of_getElem? (i := 5) rfl) (List.mem_of_getElem? (i := 6) rfl) (List.mem_of_getElem? (i := 7) rfl)) hS) (faAt hS 1 rfl (fun e => (hq3 e).1)) (hm200 hl3); rw [plB_of hp3] at this; exact this)) ?_
  refine gUn uNot ?_
  refine gPf ?_
  refine gE (GoH.condF rfl (gK (gS (gR ?_))))
  refine GoH.v (Vop.ldB rfl rfl rfl rfl Tryz.isAgg25 4 rfl Tryz.sizeOf25 rfl) ?_
  refine gMv ?_
  refine GoH.callP rfl rfl rfl rfl rfl (fun _ _ => Tryz.call15 _ _) (fun w _ hS => (by have := wHolds_c (mvE b22 b21 b20 [2#64, 4#64, 4#64]) 3 (q1.map (fun b => ⟨b, 0, none⟩)) cap1 f1 w (MV.In.at (mvE_in rfl (List.mem_of_getElem? (i := 5) rfl) (List.mem_of_getElem? (i := 6) rfl) (List.mem_of_getElem? (i := 7) rfl)) hS) rfl (faAt hS 3 rfl (fun e => (hq1 e).1)) (hm200 hl1); rw [hS1, hE1] at this; exact this)) ?_
  refine gMv ?_
  iterate 2 refine gEx ?_
  iterate 2 refine gAs ?_
  refine gE (gS (gR ?_))
  refine GoH.v (Vop.ldB rfl rfl rfl rfl Tryz.isAgg25 4 rfl Tryz.sizeOf25 rfl) ?_
  refine gMv ?_
  refine GoH.callP rfl rfl rfl rfl rfl (fun _ _ => Tryz.call15 _ _) (fun w _ hS => (by have := wHolds_c (mvE b22 b21 b20 [2#64, 4#64, 4#64]) 3 (q2.map (fun b => ⟨b, 0, none⟩)) cap2 f2 w (MV.In.at (mvE_in rfl (List.mem_of_getElem? (i := 5) rfl) (List.mem_of_getElem? (i := 6) rfl) (List.mem_of_getElem? (i := 7) rfl)) hS) rfl (faAt hS 2 rfl (fun e => (hq2 e).1)) (hm200 hl2); rw [hS2, hE2] at this; exact this)) ?_
  refine gMv ?_
  iterate 2 refine gEx ?_
  iterate 2 refine gAs ?_
  refine gE (gS (gR ?_))
  refine GoH.v (Vop.ldB rfl rfl rfl rfl Tryz.isAgg25 4 rfl Tryz.sizeOf25 rfl) ?_
  refine gMv ?_
  refine GoH.callP rfl rfl rfl rfl rfl (fun _ _ => Tryz.call15 _ _) (fun w _ hS => (by have := wHolds_c (mvE b22 b21 b20 [2#64, 4#64, 4#64]) 3 (q3.map (fun b => ⟨b, 0, none⟩)) cap3 f3 w (MV.In.at (mvE_in rfl (List.mem_of_getElem? (i := 5) rfl) (List.mem_of_getElem? (i := 6) rfl) (List.mem_of_getElem? (i := 7) rfl)) hS) rfl (faAt hS 1 rfl (fun e => (hq3 e).1)) (hm200 hl3); rw [hS3, hE3] at this; exact this)) ?_
  refine gMv ?_
  iterate 2 refine gEx ?_
  iterate 2 refine gAs ?_
  refine gE (gS (gR ?_))
  refine gMv ?_
  refine GoH.v (Vop.bin (b := U 3#64) rfl rfl rfl rfl bAnd rfl) ?_
  refine GoH.v (Vop.bin (b := U 1#64) rfl rfl rfl rfl (bEqUV (v := true) (by exact beq_iff_eq.2 hb1)) rfl) ?_
  iterate 2 refine gMv ?_
  refine GoH.v (Vop.bin (b := U 3#64) rfl rfl rfl rfl (bEqUV (v := true) (by exact beq_iff_eq.2 hc2)) rfl) ?_
  refine gPt ?_
  iterate 2 refine gMv ?_
  refine GoH.v (Vop.bin (b := U 2#64) rfl rfl rfl rfl (bEqUV (v := true) (by exact beq_iff_eq.2 hc3)) rfl) ?_
  refine gPt ?_
  refine gAs ?_
  refine gE ?_
  refine GoH.ret Tryz.f9 Tryz.func9 rfl (fun w' hS => ?_)
  exact ⟨hS.ext, rfl⟩
end Go.Proofs.YtcljmlnnfdaljaaGreatDoor
namespace Go.Proofs.YtcljmlnnfdaljaaGreatDoor
open Go.RowKit Go.Proofs.Wit
/-! few worlds, and the law DistinguishDivides -/
def FewP (m : MV) (x : Int) (b : Bool) : Prop := b = true → m.n ≤ x ∨ 64 < m.n
theorem few2_c (m : MV) (x : Int) (w : World) (hm : m.At w) : Cn Tryz.prog 8 [m.v, .int .i64 x] w (fun v _ => ∃ b, v = .bool b ∧ FewP m x b) := by
  have hlr := hm.lr
  unfold maxLen at hlr
  refine Cn.of Tryz.func8 rfl rfl ?_
  refine gS (gR ?_)
  refine GoH.bx rfl rfl rfl rfl (fun b2 => ?_)
  refine gAs ?_
  refine gE (gS (gS ?_))
  refine GoH.regionK (α := {b : Bool // b = false → m.n ≤ x ∨ 64 < m.n}) [] (fun b => [(2, .pointer (some ⟨b2, 0, none⟩)), (26, .bool b.1)]) (fun _ => [(some b2, .cells m.v.cells 25 (0, 0))]) (fun b => ?_) (fun K => ?_)
  · -- what comes behind the region
   refine gE ?_
   refine GoH.cond rfl (fun hc => ?_) (fun hc => ?_)
   ·
    refine gS (gR ?_)
    refine gAs ?_
    refine gE ?_
    refine GoH.ret Tryz.f8 Tryz.func8 rfl (fun w' hS => ?_)
    exact ⟨hS.ext, _, rfl, fun h => by cases h⟩
   ·
    have hfew := b.2 hc
    refine gK (gS (gS (gR ?_)))
    refine gAs ?_
    refine gE (gB ?_)
    refine GoH.loop (σ := Nat) (fun k => [(2, .pointer (some ⟨b2, 0, none⟩)), (5, .int .i64 k)]) (fun _ => [(some b2, .cells m.v.cells 25 (0, 0))])
      (fun k => k ≤ m.rows.length) (fun k => m.rows.length - k) 0 (Nat.zero_le _) ⟨rfl, rfl, trivial⟩ (List.Sublist.refl _) (fun k hI IH => ?_)
    refine gS (gS (gR ?_))
    refine gMv ?_
    refine gFp Tryz.underlying25 Tryz.sizeOf23 2 ?_
    refine gLo Tryz.isAgg23 0 ?_
    refine gBl Tryz.underlying23 ?_
    refine gBi bLt ?_
    refine gE ?_
    refine GoH.cond rfl (fun hc => ?_) (fun hc => ?_)
    ·
     have hlt : k < m.rows.length := by simpa using hc
     refine gK (gS (gB (gS (gR ?_))))
     refine gFp Tryz.underlying25 Tryz.sizeOf23 2 ?_
     refine gLo Tryz.isAgg23 0 ?_
     refine gMv ?_
     refine GoH.v (Vop.idx rfl rfl rfl rfl rfl Tryz.underlying23 Tryz.sizeOf22 ⟨_, hm.rel⟩ (by simp) (k) ⟨rfl, by simpa using hlt⟩) ?_
     refine GoH.v (Vop.ld rfl rfl rfl rfl Tryz.isAgg22 (fun w _ hS => (SlR.ex0 hm.rel hS.ext).at (k) hlt)) ?_
     refine gBl Tryz.underlying22 ?_
     refine gBi bGt ?_
     refine gE ?_
     refine GoH.cond rfl (fun hc => ?_) (fun hc => ?_)
     ·
      refine gS (gR ?_)
      refine gAs ?_
      refine gE ?_
      refine GoH.ret Tryz.f8 Tryz.func8 rfl (fun w' hS => ?_)
      exact ⟨hS.ext, _, rfl, fun h => by cases h⟩
     ·
      refine gK (gIb (gR ?_))
      refine gMv ?_
      refine GoH.v (Vop.bin rfl rfl rfl rfl (bAdd (by omega)) rfl) ?_
      refine gAs ?_
      refine gE ?_
      exact IH (k + 1) _ _ hlt (by omega) ⟨rfl, rfl, trivial⟩ (List.Sublist.refl _)
    ·
     refine GoH.exit rfl (gS (gR ?_))
     refine gAs ?_
     refine gE ?_
     refine GoH.ret Tryz.f8 Tryz.func8 rfl (fun w' hS => ?_)
     exact ⟨hS.ext, _, rfl, fun _ => hfew⟩
  · -- the region
   refine gR ?_
   refine gFp Tryz.underlying25 Tryz.sizeOf3 0 ?_
   refine gLo Tryz.isAgg3 0 ?_
   refine gMv ?_
   refine gBi bGt ?_
   refine gMv ?_
   refine GoH.cases (d := 10) rfl (fun hc => ?_) (fun hc => ?_)
   ·
    refine gFp Tryz.underlying25 Tryz.sizeOf3 0 ?_
    refine gLo Tryz.isAgg3 0 ?_
    refine gBi bLe ?_
    refine gPt ?_
    refine gMv ?_
    refine GoH.cases (d := 15) rfl (fun hc => ?_) (fun hc => ?_)
    ·
     iterate 4 refine gNo ?_
     refine gPt ?_
     refine gMv ?_
     iterate 4 refine gNo ?_
     refine gPt ?_
     exact K ⟨true, fun h => by cases h⟩ _ _ (by repeat (first | exact SubF.nil | refine SubF.cons rfl ?_)) (fun _ _ hS => hS)
    ·
     have h1 : 64 < m.n := by simpa using hc
     refine gFp Tryz.underlying25 Tryz.sizeOf22 1 ?_
     refine gLo Tryz.isAgg22 0 ?_
     refine gBl Tryz.underlying22 ?_
     refine gBi bGt ?_
     refine gPf ?_
     refine gMv ?_
     refine GoH.cases (d := 21) rfl (fun hc => ?_) (fun hc => ?_)
     ·
      iterate 4 refine gNo ?_
      refine gPt ?_
      exact K ⟨true, fun h => by cases h⟩ _ _ (by repeat (first | exact SubF.nil | refine SubF.cons rfl ?_)) (fun _ _ hS => hS)
     ·
      refine gFp Tryz.underlying25 Tryz.sizeOf23 2 ?_
      refine gLo Tryz.isAgg23 0 ?_
      refine gBl Tryz.underlying23 ?_
      refine gBi bGt ?_
      refine gPf ?_
      exact K ⟨_, fun _ => .inr h1⟩ _ _ (by repeat (first | exact SubF.nil | refine SubF.cons rfl ?_)) (fun _ _ hS => hS)
   ·
    have h1 : m.n ≤ x := by simpa using hc
    iterate 3 refine gNo ?_
    refine gPf ?_
    refine gMv ?_
    refine gFp Tryz.underlying25 Tryz.sizeOf22 1 ?_
    refine gLo Tryz.isAgg22 0 ?_
    refine gBl Tryz.underlying22 ?_
    refine gBi bGt ?_
    refine gPf ?_
    refine gMv ?_
    refine GoH.cases (d := 21) rfl (fun hc => ?_) (fun hc => ?_)
    ·
     iterate 4 refine gNo ?_
     refine gPt ?_
     exact K ⟨true, fun h => by cases h⟩ _ _ (by repeat (first | exact SubF.nil | refine SubF.cons rfl ?_)) (fun _ _ hS => hS)
    ·
     refine gFp Tryz.underlying25 Tryz.sizeOf23 2 ?_
     refine gLo Tryz.isAgg23 0 ?_
     refine gBl Tryz.underlying23 ?_
     refine gBi bGt ?_
     refine gPf ?_
     exact K ⟨_, fun _ => .inl h1⟩ _ _ (by repeat (first | exact SubF.nil | refine SubF.cons rfl ?_)) (fun _ _ hS => hS)
end Go.Proofs.YtcljmlnnfdaljaaGreatDoor
