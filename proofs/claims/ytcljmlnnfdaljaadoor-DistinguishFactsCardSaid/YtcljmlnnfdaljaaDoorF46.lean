/- What calls of the program return, under the conditions that each theorem states. -/
import Derived.Test.YtcljmlnnfdaljaaDoorF40
import Derived.Test.YtcljmlnnfdaljaaDoorF44
import Derived.Test.YtcljmlnnfdaljaaDoorF19
import Derived.Test.YtcljmlnnfdaljaaDoorF45
namespace Go.Proofs.YtcljmlnnfdaljaaDoor
open Go.RowKit Go.Proofs.Wit
/-! the examples of chapter 21 -/
def plB (f : List NV) (A B : Nat) : Bool := chkF f == 0 && (fitB f A B && ((andN (frgL (compF f)) 1 : Nat) : Int) == 0)
theorem plain_c (m : MV) (a : Option Addr) (ca : Nat) (f : List NV) (w : World) (_hm : m.At w) (ha : FA w a f) (hl : f.length ≤ maxLen) : Cn Tryd.prog 44 [m.v, .slice a f.length ca] w (fun v _ => v = .bool (plB f m.rel.length m.val.length)) := by
  have hfl := frgL_lt (compF f)
  have hrl : m.rel.length = m.rows.length := by simp [MV.rel]
  rw [hrl]
  refine Cn.of Tryd.func44 rfl rfl ?_
  refine GoH.seq (GoH.region ?_)
  refine GoH.bx rfl rfl rfl rfl (fun b2 => ?_)
  refine GoH.v (Vop.asg rfl rfl rfl rfl) ?_
  refine GoH.regionEnd (GoH.seq (GoH.region ?_))
  refine GoH.v (Vop.mv rfl rfl rfl rfl) ?_
  refine GoH.callP rfl rfl rfl rfl rfl (fun _ _ => Tryd.call24 _ _) (fun w _ hS => (by exact rchk_c a ca f w (ha.ex0 hS.ext) hl)) ?_
  refine GoH.v (Vop.bin rfl rfl rfl rfl bEq rfl) ?_
  refine GoH.v (Vop.mv rfl rfl rfl rfl) ?_
  refine GoH.cases (d := 8) rfl (fun hc => ?_) (fun hc => ?_)
  ·
   refine GoH.v (Vop.mv rfl rfl rfl rfl) ?_
   refine GoH.v (Vop.fldP rfl rfl rfl rfl Tryd.underlying25 rfl (by exact Tryd.sizeOf23) 2 rfl) ?_
   refine GoH.v (Vop.ldo (v := .slice m.ra m.rows.length m.rc) rfl rfl rfl rfl Tryd.isAgg23 0 rfl rfl) ?_
   refine GoH.v (Vop.blt rfl rfl rfl (blt_len_slice Tryd.underlying23) rfl) ?_
   refine GoH.v (Vop.fldP rfl rfl rfl rfl Tryd.underlying25 rfl (by exact Tryd.sizeOf22) 1 rfl) ?_
   refine GoH.v (Vop.ldo (v := .slice m.va m.val.length m.vc) rfl rfl rfl rfl Tryd.isAgg22 0 rfl rfl) ?_
   refine GoH.v (Vop.blt rfl rfl rfl (blt_len_slice Tryd.underlying22) rfl) ?_
   refine GoH.callP rfl rfl rfl rfl rfl (fun _ _ => Tryd.call10 _ _) (fun w _ hS => (by exact rfitsF_c a ca f m.rows.length m.val.length w (ha.ex0 hS.ext) hl)) ?_
   refine GoH.v (Vop.pickT rfl rfl rfl rfl rfl) ?_
   refine GoH.v (Vop.mv rfl rfl rfl rfl) ?_
   refine GoH.cases (d := 18) rfl (fun hc => ?_) (fun hc => ?_)
   ·
    have h2 := hc
    refine GoH.v (Vop.mv rfl rfl rfl rfl) ?_
    refine GoH.callP rfl rfl rfl rfl rfl (fun _ _ => Tryd.call11 _ _) (fun w _ hS => (by exact rfrags_c a ca f w (ha.ex0 hS.ext) hl)) ?_
    refine GoH.v (Vop.bin rfl rfl rfl rfl (bAndNotI hfl (by omega : (1 : Nat) < 512)) rfl) ?_
    refine GoH.v (Vop.bin rfl rfl rfl rfl bEq rfl) ?_
    refine GoH.v (Vop.pickT rfl rfl rfl rfl rfl) ?_
    refine GoH.v (Vop.asg rfl rfl rfl rfl) ?_
    refine GoH.regionEnd ?_
    refine GoH.ret Tryd.f44 Tryd.func44 rfl (fun w' hS => ?_)
    exact ⟨hS.ext, by rw [plB]; simp_all; rfl⟩
   ·
    iterate 4 refine GoH.no rfl rfl rfl rfl ?_
    refine GoH.v (Vop.pickF rfl rfl rfl rfl rfl) ?_
    refine GoH.v (Vop.asg rfl rfl rfl rfl) ?_
    refine GoH.regionEnd ?_
    refine GoH.ret Tryd.f44 Tryd.func44 rfl (fun w' hS => ?_)
    exact ⟨hS.ext, by rw [plB]; simp_all; rfl⟩
  ·
   iterate 8 refine GoH.no rfl rfl rfl rfl ?_
   refine GoH.v (Vop.pickF rfl rfl rfl rfl rfl) ?_
   refine GoH.v (Vop.mv rfl rfl rfl rfl) ?_
   iterate 4 refine GoH.no rfl rfl rfl rfl ?_
   refine GoH.v (Vop.pickF rfl rfl rfl rfl rfl) ?_
   refine GoH.v (Vop.asg rfl rfl rfl rfl) ?_
   refine GoH.regionEnd ?_
   refine GoH.ret Tryd.f44 Tryd.func44 rfl (fun w' hS => ?_)
   exact ⟨hS.ext, by have h0 : (chkF f == 0) = false := hc; rw [plB, h0]; rfl⟩
theorem plB_of {n : Nat} {val : List W64} {rel : List (List W64)} {f : List NV} {t : Tr} (h : PlnF n val rel f t) : plB f rel.length val.length = true := by
  rw [plB, h.chk, h.fit, h.frg]; rfl
def optR : Option Nat → Int × Int
  | none => (0, 6)
  | some k => ((k : Int), 0)
theorem dpD_val {m : MV} {v x : Int} (hck : chkD m [v, x] = 0) : dpD m v x = optR (dst m.n.toNat m.val m.rel v.toNat x.toNat) := by
  rw [dpD, if_neg (by simp [hck])]
  cases dst m.n.toNat m.val m.rel v.toNat x.toNat <;> rfl
theorem dp_ex {b22 b21 b20 : Nat} (v x : Int) {k : Option Nat} (hv : 0 ≤ v ∧ v < 3) (hx : 0 ≤ x ∧ x < 3) (h : dst 3 exV exM v.toNat x.toNat = k) : dpD (mvE b22 b21 b20 [2#64, 4#64, 4#64]) v x = optR k := by
  have hck : chkD (mvE b22 b21 b20 [2#64, 4#64, 4#64]) [v, x] = 0 := chkD_zero.2 ⟨ex_valM, fun y hy => by
    simp only [List.mem_cons, List.not_mem_nil, or_false] at hy
    rcases hy with rfl | rfl
    · exact hv
    · exact hx⟩
  rw [dpD_val hck, ← h]; rfl
theorem char_get {m : MV} {n : Nat} {x j : Int} {f : List NV} {e : Int} (h : CharP m x j f e) (hn : m.n = (n : Int)) (h5 : n ≤ 5) (hv : ValM m.n m.val m.rel) (hx : 0 ≤ x ∧ x < m.n) (hj : 0 ≤ j) : e = 0 ∧ f.length ≤ 200 ∧ ∃ t, PlnF n m.val m.rel f t ∧ semT n m.val m.rel t = clsW n (psq n m.val m.rel j.toNat) x.toNat := by
  have hn1 := hv.n1
  have hn64 := hv.n64
  have hck : chkD m [x] = 0 := chkD_zero.2 ⟨hv, fun y hy => by rw [List.mem_singleton.1 hy]; exact hx⟩
  have hvN : ValM (n : Int) m.val m.rel := by rw [← hn]; exact hv
  rcases h with h | h | h | ⟨_, _, rfl, hne, k, ts, hk, hts, hf⟩
  · exact absurd hck h.1
  · exact absurd h.2.1 (by omega)
  · exact absurd h.2.2.2.2 (by omega)
  · rw [hn, Int.toNat_natCast] at hts hk
    refine ⟨rfl, by rw [hf]; exact bT_le _, conjT ts, PlnF.of hvN (conjT_ok hts.ok) (conj_pln (fun t ht => by obtain ⟨_, _, _, _, _, h5⟩ := hts.mem t ht; exact h5.pl)) hf hne, ?_⟩
    rw [char_set hvN (by omega) hts, hk, psq_min (by omega) (by omega)]
theorem form_get {m : MV} {n : Nat} {v x : Int} {f : List NV} {e : Int} {k : Nat} (h : FormP m v x f e) (hn : m.n = (n : Int)) (h5 : n ≤ 5) (hv : ValM m.n m.val m.rel) (hv2 : 0 ≤ v ∧ v < m.n) (hx : 0 ≤ x ∧ x < m.n) (hd : dst n m.val m.rel v.toNat x.toNat = some k) : e = 0 ∧ f.length ≤ 200 ∧ ∃ t, PlnF n m.val m.rel f t ∧ TellT n m.val m.rel v.toNat x.toNat k t := by
  have hn1 := hv.n1
  have hn64 := hv.n64
  have hck : chkD m [v, x] = 0 := chkD_zero.2 ⟨hv, fun y hy => by
    simp only [List.mem_cons, List.not_mem_nil, or_false] at hy
    rcases hy with rfl | rfl
    · exact hv2
    · exact hx⟩
  have hvN : ValM (n : Int) m.val m.rel := by rw [← hn]; exact hv
  have hdp : dpD m v x = ((k : Int), 0) := by rw [dpD, if_neg (by simp [hck]), hn, Int.toNat_natCast, hd]
  rcases h with h | h | ⟨_, rfl, hne, j, t, hj, ht, hf⟩
  · rw [hdp] at h; exact absurd rfl h.1
  · exact absurd h.2.2.2 (by omega)
  · rw [hn, Int.toNat_natCast] at ht hj
    rw [hd] at hj
    obtain rfl := Option.some.inj hj
    exact ⟨rfl, by rw [hf]; exact bT_le _, t, PlnF.of hvN ht.ok ht.pl hf hne, ht⟩
theorem holdS_of {m : MV} {n : Nat} {f : List NV} {t : Tr} (h : PlnF n m.val m.rel f t) (hn : m.n = (n : Int)) : holdS m n f = semT n m.val m.rel t ∧ holdE m.n m.val m.rel f = 0 := by
  have h0 : holdE m.n m.val m.rel f = 0 := by rw [hn]; exact h.hold
  exact ⟨by rw [holdS, if_pos h0, h.top], h0⟩
set_option maxRecDepth 8000 in
theorem awake21_c (w : World) (hT : Tab w) : Cn Tryd.prog 20 [] w (fun v _ => v = .bool true) := by
  refine Cn.of Tryd.func20 rfl rfl ?_
  refine GoH.seq (GoH.region ?_)
  refine GoH.v (Vop.asg rfl rfl rfl rfl) ?_
  refine GoH.regionEnd (GoH.seq (GoH.region ?_))
  refine GoH.bsN (c := [_]) rfl rfl rfl rfl Tryd.underlying22 Tryd.sizeOf33 Tryd.zeroValue33 rfl rfl (fun b20 => ?_)
  refine GoH.bsN (c := [_, _, _]) rfl rfl rfl rfl Tryd.underlying22 Tryd.sizeOf33 Tryd.zeroValue33 rfl rfl (fun b21 => ?_)
  refine GoH.bsN (c := [_]) rfl rfl rfl rfl Tryd.underlying23 Tryd.sizeOf22 Tryd.zeroValue22 rfl rfl (fun b22 => ?_)
  refine GoH.v (Vop.bld rfl rfl rfl rfl (bld (c := [_, _, _]) Tryd.underlying25 (Szs.cons Tryd.sizeOf3 (Szs.cons Tryd.sizeOf22 (Szs.cons Tryd.sizeOf23 Szs.nil))) Tryd.zeroValue25 rfl)) ?_
  refine GoH.alc rfl rfl rfl (fun _ => Tryd.zeroValue25 _) (fun b1 => ?_)
  refine GoH.stB rfl rfl rfl rfl Tryd.sizeOf25 0 rfl rfl rfl rfl ?_
  refine GoH.regionEnd (GoH.seq (GoH.region ?_))
  refine GoH.v (Vop.ldB rfl rfl rfl rfl Tryd.isAgg25 0 rfl Tryd.sizeOf25 rfl) ?_
  refine GoH.callP rfl rfl rfl rfl rfl (fun _ _ => Tryd.call22 _ _) (fun w _ hS => (by have := dDepth_c (mvE b22 b21 b20 [2#64, 4#64, 4#64]) 0 2 w (hT.ex hS.ext) (MV.In.at (mvE_in rfl (List.mem_of_getElem? (i := 1) rfl) (List.mem_of_getElem? (i := 2) rfl) (List.mem_of_getElem? (i := 3) rfl)) hS); rw [dp_ex 0 2 (k := some 0) (by decide) (by decide) ex_dst.1] at this; exact this)) ?_
  refine GoH.v (Vop.mv rfl rfl rfl rfl) ?_
  iterate 2 refine GoH.v (Vop.ext rfl rfl rfl rfl rfl) ?_
  iterate 2 refine GoH.v (Vop.asg rfl rfl rfl rfl) ?_
  refine GoH.regionEnd (GoH.seq (GoH.region ?_))
  refine GoH.v (Vop.ldB rfl rfl rfl rfl Tryd.isAgg25 0 rfl Tryd.sizeOf25 rfl) ?_
  refine GoH.callP rfl rfl rfl rfl rfl (fun _ _ => Tryd.call22 _ _) (fun w _ hS => (by have := dDepth_c (mvE b22 b21 b20 [2#64, 4#64, 4#64]) 0 1 w (hT.ex hS.ext) (MV.In.at (mvE_in rfl (List.mem_of_getElem? (i := 1) rfl) (List.mem_of_getElem? (i := 2) rfl) (List.mem_of_getElem? (i := 3) rfl)) hS); rw [dp_ex 0 1 (k := some 1) (by decide) (by decide) ex_dst.2.1] at this; exact this)) ?_
  refine GoH.v (Vop.mv rfl rfl rfl rfl) ?_
  iterate 2 refine GoH.v (Vop.ext rfl rfl rfl rfl rfl) ?_
  iterate 2 refine GoH.v (Vop.asg rfl rfl rfl rfl) ?_
  refine GoH.regionEnd (GoH.seq (GoH.region ?_))
  refine GoH.v (Vop.ldB rfl rfl rfl rfl Tryd.isAgg25 0 rfl Tryd.sizeOf25 rfl) ?_
  refine GoH.callM _ rfl rfl rfl rfl rfl (fun _ _ => Tryd.call23 _ _) (fun w _ hS => (by exact dFormula_c (mvE b22 b21 b20 [2#64, 4#64, 4#64]) 0 1 w (hT.ex hS.ext) (MV.In.at (mvE_in rfl (List.mem_of_getElem? (i := 1) rfl) (List.mem_of_getElem? (i := 2) rfl) (List.mem_of_getElem? (i := 3) rfl)) hS))) ?_
  rintro v w1 w2 Y' hS he ⟨sv, f1, e1, rfl, ho, hF⟩
  obtain ⟨q1, cap1, sp1, rfl, hq1, hcap1, hS'⟩ := gainN hS he ho
  obtain ⟨rfl, hl1, t1, hp1, hT1⟩ := form_get (n := 3) (k := 1) hF rfl (by decide) ex_valM (show (0 : Int) ≤ 0 ∧ (0 : Int) < 3 by decide) (show (0 : Int) ≤ 1 ∧ (1 : Int) < 3 by decide) ex_dst.2.1
  refine ⟨_, hS', ?_⟩
  refine GoH.v (Vop.mv rfl rfl rfl rfl) ?_
  iterate 2 refine GoH.v (Vop.ext rfl rfl rfl rfl rfl) ?_
  iterate 2 refine GoH.v (Vop.asg rfl rfl rfl rfl) ?_
  refine GoH.regionEnd (GoH.seq (GoH.region ?_))
  refine GoH.v (Vop.ldB rfl rfl rfl rfl Tryd.isAgg25 1 rfl Tryd.sizeOf25 rfl) ?_
  refine GoH.callM _ rfl rfl rfl rfl rfl (fun _ _ => Tryd.call21 _ _) (fun w _ hS => (by exact dChar_c (mvE b22 b21 b20 [2#64, 4#64, 4#64]) 1 0 w (hT.ex hS.ext) (MV.In.at (mvE_in rfl (List.mem_of_getElem? (i := 2) rfl) (List.mem_of_getElem? (i := 3) rfl) (List.mem_of_getElem? (i := 4) rfl)) hS))) ?_
  rintro v w1 w2 Y' hS he ⟨sv, f2, e2, rfl, ho, hF⟩
  obtain ⟨q2, cap2, sp2, rfl, hq2, hcap2, hS'⟩ := gainN hS he ho
  obtain ⟨rfl, hl2, t2, hp2, hT2⟩ := char_get (n := 3) hF rfl (by decide) ex_valM (show (0 : Int) ≤ 1 ∧ (1 : Int) < 3 by decide) (by decide)
  refine ⟨_, hS', ?_⟩
  refine GoH.v (Vop.mv rfl rfl rfl rfl) ?_
  iterate 2 refine GoH.v (Vop.ext rfl rfl rfl rfl rfl) ?_
  iterate 2 refine GoH.v (Vop.asg rfl rfl rfl rfl) ?_
  refine GoH.regionEnd (GoH.seq (GoH.region ?_))
  refine GoH.v (Vop.ldB rfl rfl rfl rfl Tryd.isAgg25 2 rfl Tryd.sizeOf25 rfl) ?_
  refine GoH.callM _ rfl rfl rfl rfl rfl (fun _ _ => Tryd.call21 _ _) (fun w _ hS => (by exact dChar_c (mvE b22 b21 b20 [2#64, 4#64, 4#64]) 1 1 w (hT.ex hS.ext) (MV.In.at (mvE_in rfl (List.mem_of_getElem? (i := 3) rfl) (List.mem_of_getElem? (i := 4) rfl) (List.mem_of_getElem? (i := 5) rfl)) hS))) ?_
  rintro v w1 w2 Y' hS he ⟨sv, f3, e3, rfl, ho, hF⟩
  obtain ⟨q3, cap3, sp3, rfl, hq3, hcap3, hS'⟩ := gainN hS he ho
  obtain ⟨rfl, hl3, t3, hp3, hT3⟩ := char_get (n := 3) hF rfl (by decide) ex_valM (show (0 : Int) ≤ 1 ∧ (1 : Int) < 3 by decide) (by decide)
  refine ⟨_, hS', ?_⟩
  refine GoH.v (Vop.mv rfl rfl rfl rfl) ?_
  iterate 2 refine GoH.v (Vop.ext rfl rfl rfl rfl rfl) ?_
  iterate 2 refine GoH.v (Vop.asg rfl rfl rfl rfl) ?_
  refine GoH.regionEnd (GoH.seq (GoH.region ?_))
  refine GoH.v (Vop.ldB rfl rfl rfl rfl Tryd.isAgg25 3 rfl Tryd.sizeOf25 rfl) ?_
  refine GoH.callM _ rfl rfl rfl rfl rfl (fun _ _ => Tryd.call23 _ _) (fun w _ hS => (by exact dFormula_c (mvE b22 b21 b20 [2#64, 4#64, 4#64]) 1 1 w (hT.ex hS.ext) (MV.In.at (mvE_in rfl (List.mem_of_getElem? (i := 4) rfl) (List.mem_of_getElem? (i := 5) rfl) (List.mem_of_getElem? (i := 6) rfl)) hS))) ?_
  rintro v w1 w2 Y' hS he ⟨sv, f4, e4, rfl, ho, hF⟩
  obtain ⟨q4, cap4, sp4, rfl, hq4, hcap4, hS'⟩ := gainN hS he ho
  obtain rfl : e4 = 6 := by
    have hd := dp_ex (b22 := b22) (b21 := b21) (b20 := b20) 1 1 (k := none) (by decide) (by decide) ex_dst.2.2
    rcases hF with h | h | h
    · rw [h.2.2, hd]; rfl
    · rw [hd] at h; exact absurd h.1 (by decide)
    · rw [hd] at h; exact absurd h.1 (by decide)
  refine ⟨_, hS', ?_⟩
  have hm200 : ∀ {f : List NV}, f.length ≤ 200 → f.length ≤ maxLen := fun h => by unfold maxLen; omega
  obtain ⟨hS1, hE1⟩ := holdS_of hp1 rfl
  obtain ⟨hS2, hE2⟩ := holdS_of hp2 rfl
  obtain ⟨hS3, hE3⟩ := holdS_of hp3 rfl
  have hc2 : semT 3 exV exM t2 = 3#64 := hT2.trans ex_cls.1
  have hc3 : semT 3 exV exM t3 = 2#64 := hT3.trans ex_cls.2
  have hb1 : semT 3 exV exM t1 &&& 3#64 = 1#64 := and3 hT1.yes hT1.no
  refine GoH.v (Vop.mv rfl rfl rfl rfl) ?_
  iterate 2 refine GoH.v (Vop.ext rfl rfl rfl rfl rfl) ?_
  iterate 2 refine GoH.v (Vop.asg rfl rfl rfl rfl) ?_
  refine GoH.regionEnd (GoH.seq (GoH.seq (GoH.region ?_)))
  refine GoH.v (Vop.mv rfl rfl rfl rfl) ?_
  refine GoH.v (Vop.bin rfl rfl rfl rfl (bNeV (v := false) rfl) rfl) ?_
  iterate 2 refine GoH.v (Vop.mv rfl rfl rfl rfl) ?_
  refine GoH.v (Vop.bin rfl rfl rfl rfl (bNeV (v := false) rfl) rfl) ?_
  refine GoH.v (Vop.pickF rfl rfl rfl rfl rfl) ?_
  iterate 2 refine GoH.v (Vop.mv rfl rfl rfl rfl) ?_
  refine GoH.v (Vop.bin rfl rfl rfl rfl (bNeV (v := false) rfl) rfl) ?_
  refine GoH.v (Vop.pickF rfl rfl rfl rfl rfl) ?_
  iterate 2 refine GoH.v (Vop.mv rfl rfl rfl rfl) ?_
  refine GoH.v (Vop.bin rfl rfl rfl rfl (bNeV (v := false) rfl) rfl) ?_
  refine GoH.v (Vop.pickF rfl rfl rfl rfl rfl) ?_
  iterate 2 refine GoH.v (Vop.mv rfl rfl rfl rfl) ?_
  refine GoH.v (Vop.bin rfl rfl rfl rfl (bNeV (v := false) rfl) rfl) ?_
  refine GoH.v (Vop.pickF rfl rfl rfl rfl rfl) ?_
  iterate 2 refine GoH.v (Vop.mv rfl rfl rfl rfl) ?_
  refine GoH.v (Vop.bin rfl rfl rfl rfl (bNeV (v := false) rfl) rfl) ?_
  refine GoH.v (Vop.pickF rfl rfl rfl rfl rfl) ?_
  iterate 2 refine GoH.v (Vop.mv rfl rfl rfl rfl) ?_
  refine GoH.v (Vop.bin rfl rfl rfl rfl (bNeV (v := false) rfl) rfl) ?_
  refine GoH.v (Vop.pickF rfl rfl rfl rfl rfl) ?_
  iterate 2 refine GoH.v (Vop.mv rfl rfl rfl rfl) ?_
  refine GoH.v (Vop.bin rfl rfl rfl rfl (bNeV (v := false) rfl) rfl) ?_
  refine GoH.v (Vop.pickF rfl rfl rfl rfl rfl) ?_
  refine GoH.v (Vop.mv rfl rfl rfl rfl) ?_
  refine GoH.v (Vop.ldB rfl rfl rfl rfl Tryd.isAgg25 4 rfl Tryd.sizeOf25 rfl) ?_
  refine GoH.v (Vop.mv rfl rfl rfl rfl) ?_
  refine GoH.callP rfl rfl rfl rfl rfl (fun _ _ => Tryd.call44 _ _) (fun w _ hS => (by have := plain_c (mvE b22 b21 b20 [2#64, 4#64, 4#64]) (q1.map (fun b => ⟨b, 0, none⟩)) cap1 f1 w (MV.In.at (mvE_in rfl (List.mem_of_getElem? (i := 5) rfl) (List.mem_of_getElem? (i := 6) rfl) (List.mem_of_getElem? (i := 7) rfl)) hS) (faAt hS 3 rfl (fun e => (hq1 e).1)) (hm200 hl1); rw [plB_of hp1] at this; exact this)) ?_
  refine GoH.v (Vop.un rfl rfl rfl uNot rfl) ?_
  refine GoH.v (Vop.pickF rfl rfl rfl rfl rfl) ?_
  refine GoH.v (Vop.mv rfl rfl rfl rfl) ?_
  refine GoH.v (Vop.ldB rfl rfl rfl rfl Tryd.isAgg25 4 rfl Tryd.sizeOf25 rfl) ?_
  refine GoH.v (Vop.mv rfl rfl rfl rfl) ?_
  refine GoH.callP rfl rfl rfl rfl rfl (fun _ _ => Tryd.call44 _ _) (fun w _ hS => (by have := plain_c (mvE b22 b21 b20 [2#64, 4#64, 4#64]) (q2.map (fun b => ⟨b, 0, none⟩)) cap2 f2 w (MV.In.at (mvE_in rfl (List.mem_of_getElem? (i := 5) rfl) (List.mem_of_getElem? (i := 6) rfl) (List.mem_of_getElem? (i := 7) rfl)) hS) (faAt hS 2 rfl (fun e => (hq2 e).1)) (hm200 hl2); rw [plB_of hp2] at this; exact this)) ?_
  refine GoH.v (Vop.un rfl rfl rfl uNot rfl) ?_
  refine GoH.v (Vop.pickF rfl rfl rfl rfl rfl) ?_
  refine GoH.v (Vop.mv rfl rfl rfl rfl) ?_
  refine GoH.v (Vop.ldB rfl rfl rfl rfl Tryd.isAgg25 4 rfl Tryd.sizeOf25 rfl) ?_
  refine GoH.v (Vop.mv rfl rfl rfl rfl) ?_
  refine GoH.callP rfl rfl rfl rfl rfl (fun _ _ => Tryd.call44 _ _) (fun w _ hS => (by have := plain_c (mvE b22 b21 b20 [2#64, 4#64, 4#64]) (q3.map (fun b => ⟨b, 0, none⟩)) cap3 f3 w (MV.In.at (mvE_in rfl (List.mem_of_getElem? (i := 5) rfl) (List.mem_of_getElem? (i := 6) rfl) (List.mem_of_getElem? (i := 7) rfl)) hS) (faAt hS 1 rfl (fun e => (hq3 e).1)) (hm200 hl3); rw [plB_of hp3] at this; exact this)) ?_
  refine GoH.v (Vop.un rfl rfl rfl uNot rfl) ?_
  refine GoH.v (Vop.pickF rfl rfl rfl rfl rfl) ?_
  refine GoH.regionEnd (GoH.condF rfl (GoH.skip (GoH.seq (GoH.region ?_))))
  refine GoH.v (Vop.ldB rfl rfl rfl rfl Tryd.isAgg25 4 rfl Tryd.sizeOf25 rfl) ?_
  refine GoH.v (Vop.mv rfl rfl rfl rfl) ?_
  refine GoH.callP rfl rfl rfl rfl rfl (fun _ _ => Tryd.call13 _ _) (fun w _ hS => (by have := wHolds_c (mvE b22 b21 b20 [2#64, 4#64, 4#64]) 3 (q1.map (fun b => ⟨b, 0, none⟩)) cap1 f1 w (MV.In.at (mvE_in rfl (List.mem_of_getElem? (i := 5) rfl) (List.mem_of_getElem? (i := 6) rfl) (List.mem_of_getElem? (i := 7) rfl)) hS) rfl (faAt hS 3 rfl (fun e => (hq1 e).1)) (hm200 hl1); rw [hS1, hE1] at this; exact this)) ?_
  refine GoH.v (Vop.mv rfl rfl rfl rfl) ?_
  iterate 2 refine GoH.v (Vop.ext rfl rfl rfl rfl rfl) ?_
  iterate 2 refine GoH.v (Vop.asg rfl rfl rfl rfl) ?_
  refine GoH.regionEnd (GoH.seq (GoH.region ?_))
  refine GoH.v (Vop.ldB rfl rfl rfl rfl Tryd.isAgg25 4 rfl Tryd.sizeOf25 rfl) ?_
  refine GoH.v (Vop.mv rfl rfl rfl rfl) ?_
  refine GoH.callP rfl rfl rfl rfl rfl (fun _ _ => Tryd.call13 _ _) (fun w _ hS => (by have := wHolds_c (mvE b22 b21 b20 [2#64, 4#64, 4#64]) 3 (q2.map (fun b => ⟨b, 0, none⟩)) cap2 f2 w (MV.In.at (mvE_in rfl (List.mem_of_getElem? (i := 5) rfl) (List.mem_of_getElem? (i := 6) rfl) (List.mem_of_getElem? (i := 7) rfl)) hS) rfl (faAt hS 2 rfl (fun e => (hq2 e).1)) (hm200 hl2); rw [hS2, hE2] at this; exact this)) ?_
  refine GoH.v (Vop.mv rfl rfl rfl rfl) ?_
  iterate 2 refine GoH.v (Vop.ext rfl rfl rfl rfl rfl) ?_
  iterate 2 refine GoH.v (Vop.asg rfl rfl rfl rfl) ?_
  refine GoH.regionEnd (GoH.seq (GoH.region ?_))
  refine GoH.v (Vop.ldB rfl rfl rfl rfl Tryd.isAgg25 4 rfl Tryd.sizeOf25 rfl) ?_
  refine GoH.v (Vop.mv rfl rfl rfl rfl) ?_
  refine GoH.callP rfl rfl rfl rfl rfl (fun _ _ => Tryd.call13 _ _) (fun w _ hS => (by have := wHolds_c (mvE b22 b21 b20 [2#64, 4#64, 4#64]) 3 (q3.map (fun b => ⟨b, 0, none⟩)) cap3 f3 w (MV.In.at (mvE_in rfl (List.mem_of_getElem? (i := 5) rfl) (List.mem_of_getElem? (i := 6) rfl) (List.mem_of_getElem? (i := 7) rfl)) hS) rfl (faAt hS 1 rfl (fun e => (hq3 e).1)) (hm200 hl3); rw [hS3, hE3] at this; exact this)) ?_
  refine GoH.v (Vop.mv rfl rfl rfl rfl) ?_
  iterate 2 refine GoH.v (Vop.ext rfl rfl rfl rfl rfl) ?_
  iterate 2 refine GoH.v (Vop.asg rfl rfl rfl rfl) ?_
  refine GoH.regionEnd (GoH.seq (GoH.region ?_))
  refine GoH.v (Vop.mv rfl rfl rfl rfl) ?_
  refine GoH.v (Vop.bin (b := U 3#64) rfl rfl rfl rfl bAnd rfl) ?_
  refine GoH.v (Vop.bin (b := U 1#64) rfl rfl rfl rfl (bEqUV (v := true) (by exact beq_iff_eq.2 hb1)) rfl) ?_
  iterate 2 refine GoH.v (Vop.mv rfl rfl rfl rfl) ?_
  refine GoH.v (Vop.bin (b := U 3#64) rfl rfl rfl rfl (bEqUV (v := true) (by exact beq_iff_eq.2 hc2)) rfl) ?_
  refine GoH.v (Vop.pickT rfl rfl rfl rfl rfl) ?_
  iterate 2 refine GoH.v (Vop.mv rfl rfl rfl rfl) ?_
  refine GoH.v (Vop.bin (b := U 2#64) rfl rfl rfl rfl (bEqUV (v := true) (by exact beq_iff_eq.2 hc3)) rfl) ?_
  refine GoH.v (Vop.pickT rfl rfl rfl rfl rfl) ?_
  refine GoH.v (Vop.asg rfl rfl rfl rfl) ?_
  refine GoH.regionEnd ?_
  refine GoH.ret Tryd.f20 Tryd.func20 rfl (fun w' hS => ?_)
  exact ⟨hS.ext, rfl⟩
end Go.Proofs.YtcljmlnnfdaljaaDoor
namespace Go.Proofs.YtcljmlnnfdaljaaDoor
open Go.RowKit Go.Proofs.Wit
/-! few worlds, and the law DistinguishDivides -/
def FewP (m : MV) (x : Int) (b : Bool) : Prop := b = true → m.n ≤ x ∨ 64 < m.n
theorem few2_c (m : MV) (x : Int) (w : World) (hm : m.At w) : Cn Tryd.prog 7 [m.v, .int .i64 x] w (fun v _ => ∃ b, v = .bool b ∧ FewP m x b) := by
  have hlr := hm.lr
  unfold maxLen at hlr
  refine Cn.of Tryd.func7 rfl rfl ?_
  refine GoH.seq (GoH.region ?_)
  refine GoH.bx rfl rfl rfl rfl (fun b2 => ?_)
  refine GoH.v (Vop.asg rfl rfl rfl rfl) ?_
  refine GoH.regionEnd (GoH.seq (GoH.seq ?_))
  refine GoH.regionK (α := {b : Bool // b = false → m.n ≤ x ∨ 64 < m.n}) [] (fun b => [(2, .pointer (some ⟨b2, 0, none⟩)), (26, .bool b.1)]) (fun _ => [(some b2, .cells m.v.cells 25 (0, 0))]) (fun b => ?_) (fun K => ?_)
  · -- what comes behind the region
   refine GoH.regionEnd ?_
   refine GoH.cond rfl (fun hc => ?_) (fun hc => ?_)
   ·
    refine GoH.seq (GoH.region ?_)
    refine GoH.v (Vop.asg rfl rfl rfl rfl) ?_
    refine GoH.regionEnd ?_
    refine GoH.ret Tryd.f7 Tryd.func7 rfl (fun w' hS => ?_)
    exact ⟨hS.ext, _, rfl, fun h => by cases h⟩
   ·
    have hfew := b.2 hc
    refine GoH.skip (GoH.seq (GoH.seq (GoH.region ?_)))
    refine GoH.v (Vop.asg rfl rfl rfl rfl) ?_
    refine GoH.regionEnd (GoH.block ?_)
    refine GoH.loop (σ := Nat) (fun k => [(2, .pointer (some ⟨b2, 0, none⟩)), (5, .int .i64 k)]) (fun _ => [(some b2, .cells m.v.cells 25 (0, 0))])
      (fun k => k ≤ m.rows.length) (fun k => m.rows.length - k) 0 (Nat.zero_le _) ⟨rfl, rfl, trivial⟩ (List.Sublist.refl _) (fun k hI IH => ?_)
    refine GoH.seq (GoH.seq (GoH.region ?_))
    refine GoH.v (Vop.mv rfl rfl rfl rfl) ?_
    refine GoH.v (Vop.fldP rfl rfl rfl rfl Tryd.underlying25 rfl (by exact Tryd.sizeOf23) 2 rfl) ?_
    refine GoH.v (Vop.ldo rfl rfl rfl rfl Tryd.isAgg23 0 rfl rfl) ?_
    refine GoH.v (Vop.blt rfl rfl rfl (blt_len_slice Tryd.underlying23) rfl) ?_
    refine GoH.v (Vop.bin rfl rfl rfl rfl bLt rfl) ?_
    refine GoH.regionEnd ?_
    refine GoH.cond rfl (fun hc => ?_) (fun hc => ?_)
    ·
     have hlt : k < m.rows.length := by simpa using hc
     refine GoH.skip (GoH.seq (GoH.block (GoH.seq (GoH.region ?_))))
     refine GoH.v (Vop.fldP rfl rfl rfl rfl Tryd.underlying25 rfl (by exact Tryd.sizeOf23) 2 rfl) ?_
     refine GoH.v (Vop.ldo rfl rfl rfl rfl Tryd.isAgg23 0 rfl rfl) ?_
     refine GoH.v (Vop.mv rfl rfl rfl rfl) ?_
     refine GoH.v (Vop.idx rfl rfl rfl rfl rfl Tryd.underlying23 Tryd.sizeOf22 ⟨_, hm.rel⟩ (by simp) (k) ⟨rfl, by simpa using hlt⟩) ?_
     refine GoH.v (Vop.ld rfl rfl rfl rfl Tryd.isAgg22 (fun w _ hS => (SlR.ex0 hm.rel hS.ext).at (k) hlt)) ?_
     refine GoH.v (Vop.blt rfl rfl rfl (blt_len_slice Tryd.underlying22) rfl) ?_
     refine GoH.v (Vop.bin rfl rfl rfl rfl bGt rfl) ?_
     refine GoH.regionEnd ?_
     refine GoH.cond rfl (fun hc => ?_) (fun hc => ?_)
     ·
      refine GoH.seq (GoH.region ?_)
      refine GoH.v (Vop.asg rfl rfl rfl rfl) ?_
      refine GoH.regionEnd ?_
      refine GoH.ret Tryd.f7 Tryd.func7 rfl (fun w' hS => ?_)
      exact ⟨hS.ext, _, rfl, fun h => by cases h⟩
     ·
      refine GoH.skip (GoH.inBlock (GoH.region ?_))
      refine GoH.v (Vop.mv rfl rfl rfl rfl) ?_
      refine GoH.v (Vop.bin rfl rfl rfl rfl (bAdd (by omega)) rfl) ?_
      refine GoH.v (Vop.asg rfl rfl rfl rfl) ?_
      refine GoH.regionEnd ?_
      exact IH (k + 1) _ _ hlt (by omega) ⟨rfl, rfl, trivial⟩ (List.Sublist.refl _)
    ·
     refine GoH.exit rfl (GoH.seq (GoH.region ?_))
     refine GoH.v (Vop.asg rfl rfl rfl rfl) ?_
     refine GoH.regionEnd ?_
     refine GoH.ret Tryd.f7 Tryd.func7 rfl (fun w' hS => ?_)
     exact ⟨hS.ext, _, rfl, fun _ => hfew⟩
  · -- the region
   refine GoH.region ?_
   refine GoH.v (Vop.fldP rfl rfl rfl rfl Tryd.underlying25 rfl (by exact Tryd.sizeOf3) 0 rfl) ?_
   refine GoH.v (Vop.ldo rfl rfl rfl rfl Tryd.isAgg3 0 rfl rfl) ?_
   refine GoH.v (Vop.mv rfl rfl rfl rfl) ?_
   refine GoH.v (Vop.bin rfl rfl rfl rfl bGt rfl) ?_
   refine GoH.v (Vop.mv rfl rfl rfl rfl) ?_
   refine GoH.cases (d := 10) rfl (fun hc => ?_) (fun hc => ?_)
   ·
    refine GoH.v (Vop.fldP rfl rfl rfl rfl Tryd.underlying25 rfl (by exact Tryd.sizeOf3) 0 rfl) ?_
    refine GoH.v (Vop.ldo rfl rfl rfl rfl Tryd.isAgg3 0 rfl rfl) ?_
    refine GoH.v (Vop.bin rfl rfl rfl rfl bLe rfl) ?_
    refine GoH.v (Vop.pickT rfl rfl rfl rfl rfl) ?_
    refine GoH.v (Vop.mv rfl rfl rfl rfl) ?_
    refine GoH.cases (d := 15) rfl (fun hc => ?_) (fun hc => ?_)
    ·
     iterate 4 refine GoH.no rfl rfl rfl rfl ?_
     refine GoH.v (Vop.pickT rfl rfl rfl rfl rfl) ?_
     refine GoH.v (Vop.mv rfl rfl rfl rfl) ?_
     iterate 4 refine GoH.no rfl rfl rfl rfl ?_
     refine GoH.v (Vop.pickT rfl rfl rfl rfl rfl) ?_
     exact K ⟨true, fun h => by cases h⟩ _ _ (by repeat (first | exact SubF.nil | refine SubF.cons rfl ?_)) (fun _ _ hS => hS)
    ·
     have h1 : 64 < m.n := by simpa using hc
     refine GoH.v (Vop.fldP rfl rfl rfl rfl Tryd.underlying25 rfl (by exact Tryd.sizeOf22) 1 rfl) ?_
     refine GoH.v (Vop.ldo rfl rfl rfl rfl Tryd.isAgg22 0 rfl rfl) ?_
     refine GoH.v (Vop.blt rfl rfl rfl (blt_len_slice Tryd.underlying22) rfl) ?_
     refine GoH.v (Vop.bin rfl rfl rfl rfl bGt rfl) ?_
     refine GoH.v (Vop.pickF rfl rfl rfl rfl rfl) ?_
     refine GoH.v (Vop.mv rfl rfl rfl rfl) ?_
     refine GoH.cases (d := 21) rfl (fun hc => ?_) (fun hc => ?_)
     ·
      iterate 4 refine GoH.no rfl rfl rfl rfl ?_
      refine GoH.v (Vop.pickT rfl rfl rfl rfl rfl) ?_
      exact K ⟨true, fun h => by cases h⟩ _ _ (by repeat (first | exact SubF.nil | refine SubF.cons rfl ?_)) (fun _ _ hS => hS)
     ·
      refine GoH.v (Vop.fldP rfl rfl rfl rfl Tryd.underlying25 rfl (by exact Tryd.sizeOf23) 2 rfl) ?_
      refine GoH.v (Vop.ldo rfl rfl rfl rfl Tryd.isAgg23 0 rfl rfl) ?_
      refine GoH.v (Vop.blt rfl rfl rfl (blt_len_slice Tryd.underlying23) rfl) ?_
      refine GoH.v (Vop.bin rfl rfl rfl rfl bGt rfl) ?_
      refine GoH.v (Vop.pickF rfl rfl rfl rfl rfl) ?_
      exact K ⟨_, fun _ => .inr h1⟩ _ _ (by repeat (first | exact SubF.nil | refine SubF.cons rfl ?_)) (fun _ _ hS => hS)
   ·
    have h1 : m.n ≤ x := by simpa using hc
    iterate 3 refine GoH.no rfl rfl rfl rfl ?_
    refine GoH.v (Vop.pickF rfl rfl rfl rfl rfl) ?_
    refine GoH.v (Vop.mv rfl rfl rfl rfl) ?_
    refine GoH.v (Vop.fldP rfl rfl rfl rfl Tryd.underlying25 rfl (by exact Tryd.sizeOf22) 1 rfl) ?_
    refine GoH.v (Vop.ldo rfl rfl rfl rfl Tryd.isAgg22 0 rfl rfl) ?_
    refine GoH.v (Vop.blt rfl rfl rfl (blt_len_slice Tryd.underlying22) rfl) ?_
    refine GoH.v (Vop.bin rfl rfl rfl rfl bGt rfl) ?_
    refine GoH.v (Vop.pickF rfl rfl rfl rfl rfl) ?_
    refine GoH.v (Vop.mv rfl rfl rfl rfl) ?_
    refine GoH.cases (d := 21) rfl (fun hc => ?_) (fun hc => ?_)
    ·
     iterate 4 refine GoH.no rfl rfl rfl rfl ?_
     refine GoH.v (Vop.pickT rfl rfl rfl rfl rfl) ?_
     exact K ⟨true, fun h => by cases h⟩ _ _ (by repeat (first | exact SubF.nil | refine SubF.cons rfl ?_)) (fun _ _ hS => hS)
    ·
     refine GoH.v (Vop.fldP rfl rfl rfl rfl Tryd.underlying25 rfl (by exact Tryd.sizeOf23) 2 rfl) ?_
     refine GoH.v (Vop.ldo rfl rfl rfl rfl Tryd.isAgg23 0 rfl rfl) ?_
     refine GoH.v (Vop.blt rfl rfl rfl (blt_len_slice Tryd.underlying23) rfl) ?_
     refine GoH.v (Vop.bin rfl rfl rfl rfl bGt rfl) ?_
     refine GoH.v (Vop.pickF rfl rfl rfl rfl rfl) ?_
     exact K ⟨_, fun _ => .inl h1⟩ _ _ (by repeat (first | exact SubF.nil | refine SubF.cons rfl ?_)) (fun _ _ hS => hS)
end Go.Proofs.YtcljmlnnfdaljaaDoor
namespace Go.Proofs.YtcljmlnnfdaljaaDoor
open Go.RowKit Go.Proofs.Wit
/-! the law DistinguishFacts -/
set_option maxRecDepth 8000 in
theorem facts21_c (m : MV) (v x : Int) (w : World) (hT : Tab w) (hm : m.At w) : Cn Tryd.prog 6 [m.v, .int .i64 v, .int .i64 x] w (fun u _ => u = .bool true) := by
  refine Cn.of Tryd.func6 rfl rfl ?_
  refine GoH.seq (GoH.region ?_)
  refine GoH.bx rfl rfl rfl rfl (fun b3 => ?_)
  refine GoH.v (Vop.asg rfl rfl rfl rfl) ?_
  refine GoH.regionEnd (GoH.seq (GoH.seq ?_))
  refine GoH.regionK (α := {b : Bool // b = false → ValM m.n m.val m.rel ∧ (0 ≤ v ∧ v < m.n) ∧ 0 ≤ x ∧ x < m.n}) [] (fun b => [(1, .int .i64 v), (2, .int .i64 x), (3, .pointer (some ⟨b3, 0, none⟩)), (41, .bool b.1)]) (fun _ => [(some b3, .cells m.v.cells 25 (0, 0))]) (fun b => ?_) (fun K => ?_)
  · -- what comes behind the region
   refine GoH.regionEnd ?_
   refine GoH.cond rfl (fun hc => ?_) (fun hc => ?_)
   ·
    refine GoH.seq (GoH.region ?_)
    refine GoH.callP rfl rfl rfl rfl rfl (fun _ _ => Tryd.call20 _ _) (fun w _ hS => awake21_c w (hT.ex hS.ext)) ?_
    refine GoH.v (Vop.asg rfl rfl rfl rfl) ?_
    refine GoH.regionEnd ?_
    refine GoH.ret Tryd.f6 Tryd.func6 rfl (fun w' hS => ?_)
    exact ⟨hS.ext, rfl⟩
   ·
    obtain ⟨hv, hv0, hx0⟩ := b.2 hc
    have hn1 := hv.n1
    have hn64 := hv.n64
    have h8 := hv.facts
    obtain ⟨n, hn⟩ : ∃ n : Nat, m.n = (n : Int) := ⟨m.n.toNat, by omega⟩
    obtain ⟨v, rfl⟩ : ∃ n : Nat, v = (n : Int) := ⟨v.toNat, by omega⟩
    obtain ⟨x, rfl⟩ : ∃ n : Nat, x = (n : Int) := ⟨x.toNat, by omega⟩
    have hck : chkD m [(v : Int), (x : Int)] = 0 := chkD_zero.2 ⟨hv, fun y hy => by
      simp only [List.mem_cons, List.not_mem_nil, or_false] at hy
      rcases hy with rfl | rfl
      · exact hv0
      · exact hx0⟩
    have hdp : dpD m (v : Int) (x : Int) = optR (dst n m.val m.rel v x) := by rw [dpD_val hck, hn]; rfl
    have hdif := dif_dst (n := n) (val := m.val) (rel := m.rel) (v := v) (x := x) (by omega) (by omega) (by omega) (by omega)
    have hm200 : ∀ {f : List NV}, f.length ≤ 200 → f.length ≤ maxLen := fun h => by unfold maxLen; omega
    refine GoH.skip (GoH.seq (GoH.region ?_))
    refine GoH.v (Vop.asg rfl rfl rfl rfl) ?_
    refine GoH.regionEnd (GoH.seq (GoH.seq (GoH.region ?_)))
    refine GoH.v (Vop.fldP rfl rfl rfl rfl Tryd.underlying25 rfl (by exact Tryd.sizeOf22) 1 rfl) ?_
    refine GoH.v (Vop.ldo (v := .slice m.va m.val.length m.vc) rfl rfl rfl rfl Tryd.isAgg22 0 rfl rfl) ?_
    refine GoH.v (Vop.blt rfl rfl rfl (blt_len_slice Tryd.underlying22) rfl) ?_
    refine GoH.v (Vop.mv rfl rfl rfl rfl) ?_
    refine GoH.regionEnd (GoH.block ?_)
    refine GoH.loop (σ := Nat) (fun k => [(1, .int .i64 v), (2, .int .i64 x), (3, .pointer (some ⟨b3, 0, none⟩)), (7, .bool (difB (m.val.take k) v x)), (44, .slice m.va m.val.length m.vc), (45, .int .i64 m.val.length), (46, .int .i64 k)]) (fun _ => [(some b3, .cells m.v.cells 25 (0, 0))]) (fun k => k ≤ m.val.length) (fun k => m.val.length - k) 0 (Nat.zero_le _) ⟨rfl, rfl, rfl, rfl, rfl, rfl, rfl, trivial⟩ (List.Sublist.refl _) (fun k hk IH => ?_)
    refine GoH.seq (GoH.region ?_)
    refine GoH.v (Vop.bin rfl rfl rfl rfl bLt rfl) ?_
    refine GoH.regionEnd (GoH.seq ?_)
    refine GoH.cond rfl (fun hc => ?_) (fun hc => ?_)
    ·
     have hlt : k < m.val.length := by simpa using hc
     have hsn := difB_snoc (v := v) (x := x) hlt
     have hgd : m.val.getD k 0#64 = m.val[k] := by simp [List.getD_eq_getElem?_getD, hlt]
     refine GoH.skip (GoH.seq (GoH.block (GoH.seq (GoH.region ?_))))
     refine GoH.v (Vop.idx rfl rfl rfl rfl rfl Tryd.underlying22 Tryd.sizeOf33 ⟨_, hm.val⟩ (by simp) (k) ⟨rfl, by simpa using hlt⟩) ?_
     refine GoH.v (Vop.ld rfl rfl rfl rfl Tryd.isAgg33 (fun w _ hS => (SlU.ex0 hm.val hS.ext).at (k) hlt)) ?_
     refine GoH.v (Vop.asg rfl rfl rfl rfl) ?_
     refine GoH.regionEnd ?_
     refine GoH.draw 12 mixed rfl ?_
     iterate 2 refine RdGo.v (Vop.mv rfl rfl rfl rfl) ?_
     refine RdGo.cases (d := 51) rfl (fun hc => ?_) (fun hc => ?_)
     ·
      rw [hc, Bool.true_or] at hsn
      iterate 9 refine RdGo.no rfl rfl rfl rfl rfl ?_
      refine RdGo.v (Vop.pickT rfl rfl rfl rfl rfl) ?_
      refine RdGo.nil ?_
      refine GoH.v (Vop.asg rfl rfl rfl rfl) ?_
      refine GoH.regionEnd (GoH.inBlock (GoH.region ?_))
      refine GoH.v (Vop.bin rfl rfl rfl rfl (bAdd (by omega)) rfl) ?_
      refine GoH.v (Vop.mv rfl rfl rfl rfl) ?_
      refine GoH.regionEnd ?_
      exact IH (k + 1) _ _ hlt (by omega) ⟨rfl, rfl, rfl, by rw [hsn]; rfl, rfl, rfl, rfl, trivial⟩ (List.Sublist.refl _)
     ·
      rw [hc, Bool.false_or] at hsn
      iterate 2 refine RdGo.v (Vop.mv rfl rfl rfl rfl) ?_
      refine RdGo.v (Vop.bin rfl rfl rfl rfl (bShr v rfl) rfl) ?_
      refine RdGo.v (Vop.bin (b := U 1#64) rfl rfl rfl rfl bAnd rfl) ?_
      iterate 2 refine RdGo.v (Vop.mv rfl rfl rfl rfl) ?_
      refine RdGo.v (Vop.bin rfl rfl rfl rfl (bShr x rfl) rfl) ?_
      refine RdGo.v (Vop.bin (b := U 1#64) rfl rfl rfl rfl bAnd rfl) ?_
      refine RdGo.v (Vop.bin rfl rfl rfl rfl (bNeUV (v := difB (m.val.take (k + 1)) v x) (by rw [shr1_ne, hsn, hgd])) rfl) ?_
      refine RdGo.v (Vop.pickF rfl rfl rfl rfl rfl) ?_
      refine RdGo.nil ?_
      refine GoH.v (Vop.asg rfl rfl rfl rfl) ?_
      refine GoH.regionEnd (GoH.inBlock (GoH.region ?_))
      refine GoH.v (Vop.bin rfl rfl rfl rfl (bAdd (by omega)) rfl) ?_
      refine GoH.v (Vop.mv rfl rfl rfl rfl) ?_
      refine GoH.regionEnd ?_
      exact IH (k + 1) _ _ hlt (by omega) ⟨rfl, rfl, rfl, rfl, rfl, rfl, rfl, trivial⟩ (List.Sublist.refl _)
    ·
     have hge : ¬ k < m.val.length := by simpa using hc
     obtain rfl : k = m.val.length := by omega
     rw [List.take_length]
     refine GoH.exit rfl (GoH.seq (GoH.region ?_))
     refine GoH.v (Vop.ldB rfl rfl rfl rfl Tryd.isAgg25 0 rfl Tryd.sizeOf25 rfl) ?_
     iterate 2 refine GoH.v (Vop.mv rfl rfl rfl rfl) ?_
     refine GoH.callP rfl rfl rfl rfl rfl (fun _ _ => Tryd.call22 _ _) (fun w _ hS => (by have := dDepth_c m v x w (hT.ex hS.ext) (hm.ex0 hS.ext); rw [hdp] at this; exact this)) ?_
     refine GoH.v (Vop.mv rfl rfl rfl rfl) ?_
     iterate 2 refine GoH.v (Vop.ext rfl rfl rfl rfl rfl) ?_
     iterate 2 refine GoH.v (Vop.asg rfl rfl rfl rfl) ?_
     refine GoH.regionEnd (GoH.seq (GoH.seq (GoH.region ?_)))
     refine GoH.v (Vop.mv rfl rfl rfl rfl) ?_
     refine GoH.v (Vop.un rfl rfl rfl uNot rfl) ?_
     refine GoH.regionEnd ?_
     refine GoH.cond rfl (fun hc => ?_) (fun hc => ?_)
     ·
      have hd0 : difB m.val v x = false := by simpa using hc
      have hne : dst n m.val m.rel v x ≠ some 0 := fun e => by rw [hdif.2 e] at hd0; cases hd0
      refine GoH.seq (GoH.region ?_)
      refine GoH.v (Vop.mv rfl rfl rfl rfl) ?_
      refine GoH.v (Vop.bin rfl rfl rfl rfl bEq rfl) ?_
      refine GoH.v (Vop.mv rfl rfl rfl rfl) ?_
      refine GoH.cases (d := 74) rfl (fun hc => ?_) (fun hc => ?_)
      ·
       iterate 6 refine GoH.no rfl rfl rfl rfl ?_
       refine GoH.v (Vop.pickT rfl rfl rfl rfl rfl) ?_
       refine GoH.v (Vop.mv rfl rfl rfl rfl) ?_
       refine GoH.callP rfl rfl rfl rfl rfl (fun _ _ => Tryd.call20 _ _) (fun w _ hS => awake21_c w (hT.ex hS.ext)) ?_
       refine GoH.v (Vop.pickT rfl rfl rfl rfl rfl) ?_
       refine GoH.v (Vop.asg rfl rfl rfl rfl) ?_
       refine GoH.regionEnd ?_
       refine GoH.ret Tryd.f6 Tryd.func6 rfl (fun w' hS => ?_)
       exact ⟨hS.ext, rfl⟩
      ·
       obtain ⟨k, hk⟩ : ∃ k, dst n m.val m.rel v x = some (k + 1) := by
         cases h : dst n m.val m.rel v x with
         | none => rw [h] at hc; exact absurd hc (by decide)
         | some k =>
           cases k with
           | zero => exact absurd h hne
           | succ k => exact ⟨k, rfl⟩
       refine GoH.v (Vop.mv rfl rfl rfl rfl) ?_
       refine GoH.v (Vop.bin rfl rfl rfl rfl (bEqV (v := true) (by rw [hk]; rfl)) rfl) ?_
       iterate 2 refine GoH.v (Vop.mv rfl rfl rfl rfl) ?_
       refine GoH.v (Vop.bin rfl rfl rfl rfl (bGtV (v := true) (by rw [hk]; simp only [optR]; exact decide_eq_true (by omega))) rfl) ?_
       refine GoH.v (Vop.pickT rfl rfl rfl rfl rfl) ?_
       refine GoH.v (Vop.pickF rfl rfl rfl rfl rfl) ?_
       refine GoH.v (Vop.mv rfl rfl rfl rfl) ?_
       refine GoH.callP rfl rfl rfl rfl rfl (fun _ _ => Tryd.call20 _ _) (fun w _ hS => awake21_c w (hT.ex hS.ext)) ?_
       refine GoH.v (Vop.pickT rfl rfl rfl rfl rfl) ?_
       refine GoH.v (Vop.asg rfl rfl rfl rfl) ?_
       refine GoH.regionEnd ?_
       refine GoH.ret Tryd.f6 Tryd.func6 rfl (fun w' hS => ?_)
       exact ⟨hS.ext, rfl⟩
     ·
      have hd0 : difB m.val v x = true := by simpa using hc
      have hd := hdif.1 hd0
      rw [hd] at hdp ⊢
      refine GoH.skip (GoH.seq (GoH.region ?_))
      refine GoH.v (Vop.ldB rfl rfl rfl rfl Tryd.isAgg25 0 rfl Tryd.sizeOf25 rfl) ?_
      iterate 2 refine GoH.v (Vop.mv rfl rfl rfl rfl) ?_
      refine GoH.callM _ rfl rfl rfl rfl rfl (fun _ _ => Tryd.call23 _ _) (fun w _ hS => (by exact dFormula_c m v x w (hT.ex hS.ext) (hm.ex0 hS.ext))) ?_
      rintro u w1 w2 Y' hS he ⟨sv, f, e, rfl, ho, hF⟩
      obtain ⟨q, cap, sp, rfl, hq, hcap, hS'⟩ := gainN hS he ho
      have hor : (e = 0 ∧ f.length ≤ 200 ∧ chkF f = 0 ∧ frgL (compF f) = 0) ∨ (e = 8 ∧ f = [] ∧ 5 < m.n) := by
        rcases hF with h | h | ⟨_, rfl, hne, k, t, hk, ht, hf⟩
        · rw [hdp] at h; exact absurd rfl h.1
        · exact .inr ⟨h.2.2.1, h.2.1, h.2.2.2⟩
        · rw [hn, Int.toNat_natCast, Int.toNat_natCast, Int.toNat_natCast] at hk ht
          rw [hd] at hk
          obtain rfl := Option.some.inj hk
          have hp := PlnF.of (by rw [← hn]; exact hv) ht.ok ht.pl hf hne
          refine .inl ⟨rfl, by rw [hf]; exact bT_le _, hp.chk, ?_⟩
          rw [hp.can]
          exact frg_none ht.ok (dep_prop (ht.pl.mono (fun _ _ _ h => h.2)) ht.dp)
      have hfl : f.length ≤ 200 := by
        rcases hor with h | h
        · exact h.2.1
        · rw [h.2.1]; simp
      refine ⟨_, hS', ?_⟩
      refine GoH.v (Vop.mv rfl rfl rfl rfl) ?_
      iterate 2 refine GoH.v (Vop.ext rfl rfl rfl rfl rfl) ?_
      iterate 2 refine GoH.v (Vop.asg rfl rfl rfl rfl) ?_
      refine GoH.regionEnd (GoH.seq (GoH.region ?_))
      refine GoH.v (Vop.mv rfl rfl rfl rfl) ?_
      refine GoH.v (Vop.bin rfl rfl rfl rfl (bEqV (v := true) rfl) rfl) ?_
      iterate 2 refine GoH.v (Vop.mv rfl rfl rfl rfl) ?_
      refine GoH.v (Vop.bin rfl rfl rfl rfl (bEqV (v := true) rfl) rfl) ?_
      refine GoH.v (Vop.pickT rfl rfl rfl rfl rfl) ?_
      iterate 2 refine GoH.v (Vop.mv rfl rfl rfl rfl) ?_
      refine GoH.v (Vop.bin rfl rfl rfl rfl bEq rfl) ?_
      refine GoH.v (Vop.mv rfl rfl rfl rfl) ?_
      refine GoH.cases (d := 101) rfl (fun hc => ?_) (fun hc => ?_)
      ·
       have he0 : e = 0 := by simpa using hc
       obtain ⟨_, _, hck2, hfr⟩ : e = 0 ∧ f.length ≤ 200 ∧ chkF f = 0 ∧ frgL (compF f) = 0 := by
         rcases hor with h | h
         · exact h
         · rw [h.1] at he0; exact absurd he0 (by decide)
       refine GoH.v (Vop.mv rfl rfl rfl rfl) ?_
       refine GoH.callP rfl rfl rfl rfl rfl (fun _ _ => Tryd.call24 _ _) (fun w _ hS => (by have := rchk_c (q.map (fun b => ⟨b, 0, none⟩)) cap f w (faAt hS 0 rfl (fun e => (hq e).1)) (hm200 hfl); rw [hck2] at this; exact this)) ?_
       refine GoH.v (Vop.bin rfl rfl rfl rfl (bEqV (v := true) rfl) rfl) ?_
       refine GoH.v (Vop.pickT rfl rfl rfl rfl rfl) ?_
       iterate 2 refine GoH.v (Vop.mv rfl rfl rfl rfl) ?_
       refine GoH.callP rfl rfl rfl rfl rfl (fun _ _ => Tryd.call11 _ _) (fun w _ hS => (by have := rfrags_c (q.map (fun b => ⟨b, 0, none⟩)) cap f w (faAt hS 0 rfl (fun e => (hq e).1)) (hm200 hfl); rw [hfr] at this; exact this)) ?_
       refine GoH.v (Vop.bin rfl rfl rfl rfl (bEqV (v := true) rfl) rfl) ?_
       refine GoH.v (Vop.pickT rfl rfl rfl rfl rfl) ?_
       refine GoH.v (Vop.mv rfl rfl rfl rfl) ?_
       iterate 7 refine GoH.no rfl rfl rfl rfl ?_
       iterate 2 refine GoH.v (Vop.pickT rfl rfl rfl rfl rfl) ?_
       refine GoH.v (Vop.mv rfl rfl rfl rfl) ?_
       refine GoH.callP rfl rfl rfl rfl rfl (fun _ _ => Tryd.call20 _ _) (fun w _ hS => awake21_c w (hT.ex hS.ext)) ?_
       refine GoH.v (Vop.pickT rfl rfl rfl rfl rfl) ?_
       refine GoH.v (Vop.asg rfl rfl rfl rfl) ?_
       refine GoH.regionEnd ?_
       refine GoH.ret Tryd.f6 Tryd.func6 rfl (fun w' hS => ?_)
       exact ⟨hS.ext, rfl⟩
      ·
       have he0 : e ≠ 0 := by simpa using hc
       obtain ⟨rfl, _, h5⟩ : e = 8 ∧ f = [] ∧ 5 < m.n := by
         rcases hor with h | h
         · exact absurd h.1 he0
         · exact h
       iterate 3 refine GoH.no rfl rfl rfl rfl ?_
       refine GoH.v (Vop.pickF rfl rfl rfl rfl rfl) ?_
       refine GoH.v (Vop.mv rfl rfl rfl rfl) ?_
       iterate 3 refine GoH.no rfl rfl rfl rfl ?_
       refine GoH.v (Vop.pickF rfl rfl rfl rfl rfl) ?_
       iterate 2 refine GoH.v (Vop.mv rfl rfl rfl rfl) ?_
       refine GoH.v (Vop.bin rfl rfl rfl rfl (bEqV (v := true) rfl) rfl) ?_
       refine GoH.v (Vop.mv rfl rfl rfl rfl) ?_
       refine GoH.v (Vop.fldP rfl rfl rfl rfl Tryd.underlying25 rfl (by exact Tryd.sizeOf3) 0 rfl) ?_
       refine GoH.v (Vop.ldo (v := .int .i64 m.n) rfl rfl rfl rfl Tryd.isAgg3 1 rfl rfl) ?_
       refine GoH.v (Vop.bin rfl rfl rfl rfl (bGtV (v := true) (decide_eq_true (by omega))) rfl) ?_
       refine GoH.v (Vop.pickT rfl rfl rfl rfl rfl) ?_
       refine GoH.v (Vop.pickF rfl rfl rfl rfl rfl) ?_
       refine GoH.v (Vop.pickT rfl rfl rfl rfl rfl) ?_
       refine GoH.v (Vop.mv rfl rfl rfl rfl) ?_
       refine GoH.callP rfl rfl rfl rfl rfl (fun _ _ => Tryd.call20 _ _) (fun w _ hS => awake21_c w (hT.ex hS.ext)) ?_
       refine GoH.v (Vop.pickT rfl rfl rfl rfl rfl) ?_
       refine GoH.v (Vop.asg rfl rfl rfl rfl) ?_
       refine GoH.regionEnd ?_
       refine GoH.ret Tryd.f6 Tryd.func6 rfl (fun w' hS => ?_)
       exact ⟨hS.ext, rfl⟩
  · -- the region
   refine GoH.region ?_
   refine GoH.v (Vop.ldB rfl rfl rfl rfl Tryd.isAgg25 0 rfl Tryd.sizeOf25 rfl) ?_
   refine GoH.callM _ rfl rfl rfl rfl rfl (fun _ _ => Tryd.call7 _ _) (fun w _ hS => few2_c m 12 w (hm.ex0 hS.ext)) ?_
   rintro u w1 w2 Y' hS he ⟨y1, rfl, _⟩
   refine ⟨_, hS.later he, ?_⟩
   refine GoH.v (Vop.un rfl rfl rfl uNot rfl) ?_
   refine GoH.v (Vop.mv rfl rfl rfl rfl) ?_
   refine GoH.cases (d := 17) rfl (fun hc => ?_) (fun hc => ?_)
   ·
    iterate 3 refine GoH.no rfl rfl rfl rfl ?_
    refine GoH.v (Vop.pickT rfl rfl rfl rfl rfl) ?_
    refine GoH.v (Vop.mv rfl rfl rfl rfl) ?_
    iterate 2 refine GoH.no rfl rfl rfl rfl ?_
    refine GoH.v (Vop.pickT rfl rfl rfl rfl rfl) ?_
    refine GoH.v (Vop.mv rfl rfl rfl rfl) ?_
    iterate 4 refine GoH.no rfl rfl rfl rfl ?_
    refine GoH.v (Vop.pickT rfl rfl rfl rfl rfl) ?_
    refine GoH.v (Vop.mv rfl rfl rfl rfl) ?_
    iterate 2 refine GoH.no rfl rfl rfl rfl ?_
    refine GoH.v (Vop.pickT rfl rfl rfl rfl rfl) ?_
    refine GoH.v (Vop.mv rfl rfl rfl rfl) ?_
    iterate 4 refine GoH.no rfl rfl rfl rfl ?_
    refine GoH.v (Vop.pickT rfl rfl rfl rfl rfl) ?_
    exact K ⟨true, fun h => by cases h⟩ _ _ (by repeat (first | exact SubF.nil | refine SubF.cons rfl ?_)) (fun _ _ hS => hS)
   ·
    refine GoH.v (Vop.ldB rfl rfl rfl rfl Tryd.isAgg25 0 rfl Tryd.sizeOf25 rfl) ?_
    refine GoH.callP rfl rfl rfl rfl rfl (fun _ _ => Tryd.call8 _ _) (fun w _ hS => (by exact rmCheck_c m w (hm.ex0 hS.ext))) ?_
    refine GoH.v (Vop.bin rfl rfl rfl rfl bNe rfl) ?_
    refine GoH.v (Vop.pickF rfl rfl rfl rfl rfl) ?_
    refine GoH.v (Vop.mv rfl rfl rfl rfl) ?_
    refine GoH.cases (d := 22) rfl (fun hc => ?_) (fun hc => ?_)
    ·
     iterate 2 refine GoH.no rfl rfl rfl rfl ?_
     refine GoH.v (Vop.pickT rfl rfl rfl rfl rfl) ?_
     refine GoH.v (Vop.mv rfl rfl rfl rfl) ?_
     iterate 4 refine GoH.no rfl rfl rfl rfl ?_
     refine GoH.v (Vop.pickT rfl rfl rfl rfl rfl) ?_
     refine GoH.v (Vop.mv rfl rfl rfl rfl) ?_
     iterate 2 refine GoH.no rfl rfl rfl rfl ?_
     refine GoH.v (Vop.pickT rfl rfl rfl rfl rfl) ?_
     refine GoH.v (Vop.mv rfl rfl rfl rfl) ?_
     iterate 4 refine GoH.no rfl rfl rfl rfl ?_
     refine GoH.v (Vop.pickT rfl rfl rfl rfl rfl) ?_
     exact K ⟨true, fun h => by cases h⟩ _ _ (by repeat (first | exact SubF.nil | refine SubF.cons rfl ?_)) (fun _ _ hS => hS)
    ·
     have h1 : checkM m.n m.val m.rel = 0 := by simpa using hc
     have hv := checkM_zero.1 h1
     refine GoH.v (Vop.mv rfl rfl rfl rfl) ?_
     refine GoH.v (Vop.bin rfl rfl rfl rfl bLt rfl) ?_
     refine GoH.v (Vop.pickF rfl rfl rfl rfl rfl) ?_
     refine GoH.v (Vop.mv rfl rfl rfl rfl) ?_
     refine GoH.cases (d := 26) rfl (fun hc => ?_) (fun hc => ?_)
     ·
      iterate 4 refine GoH.no rfl rfl rfl rfl ?_
      refine GoH.v (Vop.pickT rfl rfl rfl rfl rfl) ?_
      refine GoH.v (Vop.mv rfl rfl rfl rfl) ?_
      iterate 2 refine GoH.no rfl rfl rfl rfl ?_
      refine GoH.v (Vop.pickT rfl rfl rfl rfl rfl) ?_
      refine GoH.v (Vop.mv rfl rfl rfl rfl) ?_
      iterate 4 refine GoH.no rfl rfl rfl rfl ?_
      refine GoH.v (Vop.pickT rfl rfl rfl rfl rfl) ?_
      exact K ⟨true, fun h => by cases h⟩ _ _ (by repeat (first | exact SubF.nil | refine SubF.cons rfl ?_)) (fun _ _ hS => hS)
     ·
      have hv0 : 0 ≤ v := by simpa using hc
      refine GoH.v (Vop.mv rfl rfl rfl rfl) ?_
      refine GoH.v (Vop.fldP rfl rfl rfl rfl Tryd.underlying25 rfl (by exact Tryd.sizeOf3) 0 rfl) ?_
      refine GoH.v (Vop.ldo (v := .int .i64 m.n) rfl rfl rfl rfl Tryd.isAgg3 0 rfl rfl) ?_
      refine GoH.v (Vop.bin rfl rfl rfl rfl bGe rfl) ?_
      refine GoH.v (Vop.pickF rfl rfl rfl rfl rfl) ?_
      refine GoH.v (Vop.mv rfl rfl rfl rfl) ?_
      refine GoH.cases (d := 32) rfl (fun hc => ?_) (fun hc => ?_)
      ·
       iterate 2 refine GoH.no rfl rfl rfl rfl ?_
       refine GoH.v (Vop.pickT rfl rfl rfl rfl rfl) ?_
       refine GoH.v (Vop.mv rfl rfl rfl rfl) ?_
       iterate 4 refine GoH.no rfl rfl rfl rfl ?_
       refine GoH.v (Vop.pickT rfl rfl rfl rfl rfl) ?_
       exact K ⟨true, fun h => by cases h⟩ _ _ (by repeat (first | exact SubF.nil | refine SubF.cons rfl ?_)) (fun _ _ hS => hS)
      ·
       have hv1 : v < m.n := by simpa using hc
       refine GoH.v (Vop.mv rfl rfl rfl rfl) ?_
       refine GoH.v (Vop.bin rfl rfl rfl rfl bLt rfl) ?_
       refine GoH.v (Vop.pickF rfl rfl rfl rfl rfl) ?_
       refine GoH.v (Vop.mv rfl rfl rfl rfl) ?_
       refine GoH.cases (d := 36) rfl (fun hc => ?_) (fun hc => ?_)
       ·
        iterate 4 refine GoH.no rfl rfl rfl rfl ?_
        refine GoH.v (Vop.pickT rfl rfl rfl rfl rfl) ?_
        exact K ⟨true, fun h => by cases h⟩ _ _ (by repeat (first | exact SubF.nil | refine SubF.cons rfl ?_)) (fun _ _ hS => hS)
       ·
        have hx0 : 0 ≤ x := by simpa using hc
        refine GoH.v (Vop.mv rfl rfl rfl rfl) ?_
        refine GoH.v (Vop.fldP rfl rfl rfl rfl Tryd.underlying25 rfl (by exact Tryd.sizeOf3) 0 rfl) ?_
        refine GoH.v (Vop.ldo (v := .int .i64 m.n) rfl rfl rfl rfl Tryd.isAgg3 0 rfl rfl) ?_
        refine GoH.v (Vop.bin rfl rfl rfl rfl bGe rfl) ?_
        refine GoH.v (Vop.pickF rfl rfl rfl rfl rfl) ?_
        exact K ⟨decide (x ≥ m.n), fun h => ⟨hv, ⟨hv0, hv1⟩, hx0, by simpa using h⟩⟩ _ _ (by repeat (first | exact SubF.nil | refine SubF.cons rfl ?_)) (fun _ _ hS => hS)
end Go.Proofs.YtcljmlnnfdaljaaDoor
