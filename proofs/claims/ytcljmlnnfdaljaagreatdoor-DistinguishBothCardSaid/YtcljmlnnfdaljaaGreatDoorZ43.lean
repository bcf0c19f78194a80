/- What calls of the program return, under the conditions that each theorem states. -/
import Derived.Test.YtcljmlnnfdaljaaGreatDoorZ41
import Derived.Test.YtcljmlnnfdaljaaGreatDoorZ13
import Derived.Test.YtcljmlnnfdaljaaGreatDoorZ42
import Derived.Test.YtcljmlnnfdaljaaGreatDoorZ04
import Derived.Test.YtcljmlnnfdaljaaGreatDoorZ39
import Derived.Test.YtcljmlnnfdaljaaGreatDoorZ31
namespace Go.Proofs.YtcljmlnnfdaljaaGreatDoor
open Go.RowKit Go.Proofs.Wit
/-! the references of chapter 21 -/
def insB (m : MV) (x : Int) : Bool := decide (0 ≤ x) && decide (x < m.n)
theorem inside21_c (m : MV) (x : Int) (w : World) (_hm : m.At w) : Cn Tryz.prog 24 [m.v, .int .i64 x] w (fun v _ => v = .bool (insB m x)) := by
  refine Cn.of Tryz.func24 rfl rfl ?_
  refine gS (gR ?_)
  refine GoH.bx rfl rfl rfl rfl (fun b2 => ?_)
  refine gAs ?_
  refine gE (gS (gR ?_))
  refine gMv ?_
  refine gBi bGe ?_
  refine gMv ?_
  refine GoH.cases (d := 7) rfl (fun hc => ?_) (fun hc => ?_)
  ·
   have h0 : 0 ≤ x := by simpa using hc
   refine gMv ?_
   refine gFp Tryz.underlying25 Tryz.sizeOf3 0 ?_
   refine GoH.v (Vop.ldo (v := .int .i64 m.n) rfl rfl rfl rfl Tryz.isAgg3 0 rfl rfl) ?_
   refine gBi bLt ?_
   refine gPt ?_
   refine gAs ?_
   refine gE ?_
   refine GoH.ret Tryz.f24 Tryz.func24 rfl (fun w' hS => ?_)
   exact ⟨hS.ext, by rw [insB, decide_eq_true h0, Bool.true_and]; rfl⟩
  ·
   have h0 : ¬ 0 ≤ x := by simpa using hc
   iterate 4 refine gNo ?_
   refine gPf ?_
   refine gAs ?_
   refine gE ?_
   refine GoH.ret Tryz.f24 Tryz.func24 rfl (fun w' hS => ?_)
   exact ⟨hS.ext, by rw [insB, decide_eq_false h0, Bool.false_and]; rfl⟩
theorem chk_ins {m : MV} {ys : List Int} (hv : ValM m.n m.val m.rel) : chkD m ys = 0 ↔ ∀ y ∈ ys, insB m y = true := by
  rw [chkD_zero]
  simp only [insB, Bool.and_eq_true, decide_eq_true_eq]
  exact ⟨fun h => h.2, fun h => ⟨hv, h⟩⟩
theorem chk_two {m : MV} {ys : List Int} (hv : ValM m.n m.val m.rel) (h : ∃ y ∈ ys, insB m y = false) : chkD m ys = 2 := by
  have hne : chkD m ys ≠ 0 := fun e => by
    obtain ⟨y, hy, h2⟩ := h
    rw [(chk_ins hv).1 e y hy] at h2; cases h2
  unfold chkD at hne ⊢
  rw [if_neg (by rw [checkM_zero.2 hv]; simp)] at hne ⊢
  split
  · rfl
  · rename_i h2; rw [if_neg h2] at hne; exact absurd rfl hne
set_option maxRecDepth 8000 in
theorem rDepth21_c (m : MV) (v x : Int) (w : World) (hT : Tab w) (hm : m.At w) : Cn Tryz.prog 11 [m.v, .int .i64 v, .int .i64 x] w (fun u _ => u = .tuple #[.int .i64 (dpD m v x).1, .int .i64 (dpD m v x).2]) := by
  refine Cn.of Tryz.func11 rfl rfl ?_
  refine gS (gR ?_)
  refine GoH.bx rfl rfl rfl rfl (fun b3 => ?_)
  iterate 2 refine gAs ?_
  refine gE (gS (gS (gR ?_)))
  refine GoH.v (Vop.ldB rfl rfl rfl rfl Tryz.isAgg25 0 rfl Tryz.sizeOf25 rfl) ?_
  refine GoH.callP rfl rfl rfl rfl rfl (fun _ _ => Tryz.call18 _ _) (fun w _ hS => (by exact rmCheck_c m w (hm.ex0 hS.ext))) ?_
  refine gAs ?_
  refine gE (gS (gR ?_))
  refine gMv ?_
  refine gBi bNe ?_
  refine gE ?_
  refine GoH.cond rfl (fun hc => ?_) (fun hc => ?_)
  ·
   have h1 : checkM m.n m.val m.rel ≠ 0 := by simpa using hc
   have h2 : chkD m [v, x] = checkM m.n m.val m.rel := if_pos h1
   refine gS (gR ?_)
   refine gMv ?_
   iterate 2 refine gAs ?_
   refine gE ?_
   refine GoH.ret Tryz.f11 Tryz.func11 rfl (fun w' hS => ?_)
   exact ⟨hS.ext, by rw [dpD, if_pos (by rw [h2]; exact h1), h2]; rfl⟩
  ·
   have h1 : checkM m.n m.val m.rel = 0 := by simpa using hc
   have hv := checkM_zero.1 h1
   have hn1 := hv.n1
   have hn64 := hv.n64
   refine gK (gS (gS (gR ?_)))
   refine GoH.v (Vop.ldB rfl rfl rfl rfl Tryz.isAgg25 0 rfl Tryz.sizeOf25 rfl) ?_
   refine gMv ?_
   refine GoH.callP rfl rfl rfl rfl rfl (fun _ _ => Tryz.call24 _ _) (fun w _ hS => (by exact inside21_c m v w (hm.ex0 hS.ext))) ?_
   refine gUn uNot ?_
   refine gMv ?_
   refine GoH.cases (d := 21) rfl (fun hc => ?_) (fun hc => ?_)
   ·
    have h2 : chkD m [v, x] = 2 := chk_two hv ⟨v, by simp, by simpa using hc⟩
    iterate 4 refine gNo ?_
    refine gPt ?_
    refine gE (GoH.condT rfl (gS (gR ?_)))
    iterate 2 refine gAs ?_
    refine gE ?_
    refine GoH.ret Tryz.f11 Tryz.func11 rfl (fun w' hS => ?_)
    exact ⟨hS.ext, by rw [dpD, if_pos (by rw [h2]; decide), h2]; rfl⟩
   ·
    have hiv : insB m v = true := by simpa using hc
    refine GoH.v (Vop.ldB rfl rfl rfl rfl Tryz.isAgg25 0 rfl Tryz.sizeOf25 rfl) ?_
    refine gMv ?_
    refine GoH.callP rfl rfl rfl rfl rfl (fun _ _ => Tryz.call24 _ _) (fun w _ hS => (by exact inside21_c m x w (hm.ex0 hS.ext))) ?_
    refine gUn uNot ?_
    refine gPf ?_
    refine gE ?_
    refine GoH.cond rfl (fun hc => ?_) (fun hc => ?_)
    ·
     have h2 : chkD m [v, x] = 2 := chk_two hv ⟨x, by simp, by simpa using hc⟩
     refine gS (gR ?_)
     iterate 2 refine gAs ?_
     refine gE ?_
     refine GoH.ret Tryz.f11 Tryz.func11 rfl (fun w' hS => ?_)
     exact ⟨hS.ext, by rw [dpD, if_pos (by rw [h2]; decide), h2]; rfl⟩
    ·
     have hix : insB m x = true := by simpa using hc
     have hck : chkD m [v, x] = 0 := (chk_ins hv).2 (fun y hy => by
       simp only [List.mem_cons, List.not_mem_nil, or_false] at hy
       rcases hy with rfl | rfl
       · exact hiv
       · exact hix)
     simp only [insB, Bool.and_eq_true, decide_eq_true_eq] at hiv hix
     obtain ⟨n, hn⟩ : ∃ n : Nat, m.n = (n : Int) := ⟨m.n.toNat, by omega⟩
     obtain ⟨v, rfl⟩ : ∃ n : Nat, v = (n : Int) := ⟨v.toNat, by omega⟩
     obtain ⟨x, rfl⟩ : ∃ n : Nat, x = (n : Int) := ⟨x.toNat, by omega⟩
     have hdp : dpD m (v : Int) (x : Int) = optR (dst n m.val m.rel v x) := by rw [dpD_val hck, hn]; rfl
     refine gK (gS (gS (gR ?_)))
     refine gAs ?_
     refine gE (gB ?_)
     refine GoH.loop (σ := Nat) (fun k => [(1, .int .i64 v), (2, .int .i64 x), (3, .pointer (some ⟨b3, 0, none⟩)), (9, .int .i64 k)]) (fun _ => [(some b3, .cells m.v.cells 25 (0, 0))]) (fun k => k ≤ n + 1 ∧ ∀ i, i < k → apB n m.val m.rel v x i = false) (fun k => n + 1 - k) 0 ⟨Nat.zero_le _, fun _ h => absurd h (Nat.not_lt_zero _)⟩ ⟨rfl, rfl, rfl, rfl, trivial⟩ (List.Sublist.refl _) (fun k hI IH => ?_)
     obtain ⟨hk, hno⟩ := hI
     refine gS (gS (gR ?_))
     refine gMv ?_
     refine gFp Tryz.underlying25 Tryz.sizeOf3 0 ?_
     refine GoH.v (Vop.ldo (v := .int .i64 m.n) rfl rfl rfl rfl Tryz.isAgg3 0 rfl rfl) ?_
     refine gBi bLe ?_
     refine gE ?_
     refine GoH.cond rfl (fun hc => ?_) (fun hc => ?_)
     ·
      have hle : k ≤ n := by simp at hc; omega
      have hrE : rndsE m.n m.val m.rel (k : Int) = 0 := by rw [rndsE, if_neg (by simp [h1]), if_neg (by omega)]
      have hrd : rnds m.n m.val m.rel (k : Int) = psq n m.val m.rel k := by rw [rnds_ok hrE, hn, Int.toNat_natCast, Int.toNat_natCast, Nat.min_eq_left (by omega)]
      have hpl := psq_len (n := n) (val := m.val) (rels := m.rel) k
      refine gK (gS (gB (gS (gR ?_))))
      refine GoH.v (Vop.ldB rfl rfl rfl rfl Tryz.isAgg25 0 rfl Tryz.sizeOf25 rfl) ?_
      refine gMv ?_
      refine GoH.callM _ rfl rfl rfl rfl rfl (fun _ _ => Tryz.call25 _ _) (fun w _ hS => (by exact rrounds_c m (k : Int) w (hT.ex hS.ext) (hm.ex0 hS.ext))) ?_
      rintro u w1 w2 Y' hS he ⟨sv, rfl, ho⟩
      rw [hrd] at ho
      obtain ⟨q, cap, sp, rfl, hq, hcap, hS'⟩ := gainS hS he ho
      refine ⟨_, hS', ?_⟩
      obtain ⟨bq, rfl⟩ : ∃ b, q = some b := by
        cases q with
        | none => have := (hq rfl).1; omega
        | some b => exact ⟨b, rfl⟩
      refine gMv ?_
      iterate 2 refine gEx ?_
      iterate 2 refine gAs ?_
      refine gE (gS ?_)
      refine GoH.draw 9 mixed rfl ?_
      iterate 2 refine rMv ?_
      refine RdGo.v (Vop.idxS rfl rfl rfl rfl rfl Tryz.underlying49 Tryz.sizeOf3 (v) ⟨rfl, (by omega)⟩) ?_
      refine RdGo.v (Vop.ldE I64 0 rfl rfl rfl rfl Tryz.isAgg3 0 rfl (by omega)) ?_
      iterate 2 refine rMv ?_
      refine RdGo.v (Vop.idxS rfl rfl rfl rfl rfl Tryz.underlying49 Tryz.sizeOf3 (x) ⟨rfl, (by omega)⟩) ?_
      refine RdGo.v (Vop.ldE I64 0 rfl rfl rfl rfl Tryz.isAgg3 0 rfl (by omega)) ?_
      refine rBi bNe ?_
      refine RdGo.nil ?_
      refine gE ?_
      refine GoH.cond rfl (fun hc => ?_) (fun hc => ?_)
      ·
       have hap : apB n m.val m.rel v x k = true := hc
       refine gS (gR ?_)
       refine gMv ?_
       iterate 2 refine gAs ?_
       refine gE ?_
       refine GoH.ret Tryz.f11 Tryz.func11 rfl (fun w' hS => ?_)
       exact ⟨hS.ext, by rw [hdp, dst_at (by omega) (by omega) hno hap]; rfl⟩
      ·
       have hap : apB n m.val m.rel v x k = false := hc
       refine gK (gIb (gR ?_))
       refine gMv ?_
       refine GoH.v (Vop.bin rfl rfl rfl rfl (bAdd (by omega)) rfl) ?_
       refine gAs ?_
       refine gE ?_
       exact IH (k + 1) _ _ ⟨by omega, fun i hi => by rcases Nat.lt_succ_iff_lt_or_eq.1 hi with h | rfl; exact hno i h; exact hap⟩ (by omega) ⟨rfl, rfl, rfl, rfl, trivial⟩ (.cons _ (List.Sublist.refl _))
     ·
      have hge : ¬ k ≤ n := by simp at hc; omega
      obtain rfl : k = n + 1 := by omega
      refine GoH.exit rfl (gS (gR ?_))
      iterate 2 refine gAs ?_
      refine gE ?_
      refine GoH.ret Tryz.f11 Tryz.func11 rfl (fun w' hS => ?_)
      exact ⟨hS.ext, by rw [hdp, dst_upto (by omega) (by omega) hno]; rfl⟩
/-- the class of a world after some rounds, and the error -/
def clE (m : MV) (x j : Int) : Int := if chkD m [x] ≠ 0 then chkD m [x] else if j < 0 then 2 else 0
def clS (m : MV) (x j : Int) : W64 := if clE m x j = 0 then clsW m.n.toNat (psq m.n.toNat m.val m.rel j.toNat) x.toNat else 0#64
set_option maxRecDepth 8000 in
theorem rClass_c (m : MV) (x j : Int) (w : World) (hT : Tab w) (hm : m.At w) : Cn Tryz.prog 17 [m.v, .int .i64 x, .int .i64 j] w (fun u _ => u = .tuple #[U (clS m x j), .int .i64 (clE m x j)]) := by
  refine Cn.of Tryz.func17 rfl rfl ?_
  refine gS (gR ?_)
  refine GoH.bx rfl rfl rfl rfl (fun b3 => ?_)
  refine GoH.v (Vop.asg (v := U 0#64) rfl rfl rfl rfl) ?_
  refine gAs ?_
  refine gE (gS (gS (gR ?_)))
  refine GoH.v (Vop.ldB rfl rfl rfl rfl Tryz.isAgg25 0 rfl Tryz.sizeOf25 rfl) ?_
  refine GoH.callP rfl rfl rfl rfl rfl (fun _ _ => Tryz.call18 _ _) (fun w _ hS => (by exact rmCheck_c m w (hm.ex0 hS.ext))) ?_
  refine gAs ?_
  refine gE (gS (gR ?_))
  refine gMv ?_
  refine gBi bNe ?_
  refine gE ?_
  refine GoH.cond rfl (fun hc => ?_) (fun hc => ?_)
  ·
   have h1 : checkM m.n m.val m.rel ≠ 0 := by simpa using hc
   have h2 : chkD m [x] = checkM m.n m.val m.rel := if_pos h1
   have hE : clE m x j = checkM m.n m.val m.rel := by rw [clE, if_pos (by rw [h2]; exact h1), h2]
   refine gS (gR ?_)
   refine gMv ?_
   refine GoH.v (Vop.asg (v := U 0#64) rfl rfl rfl rfl) ?_
   refine gAs ?_
   refine gE ?_
   refine GoH.ret Tryz.f17 Tryz.func17 rfl (fun w' hS => ?_)
   exact ⟨hS.ext, by rw [clS, if_neg (by rw [hE]; exact h1), hE]; rfl⟩
  ·
   have h1 : checkM m.n m.val m.rel = 0 := by simpa using hc
   have hv := checkM_zero.1 h1
   have hn1 := hv.n1
   have hn64 := hv.n64
   refine gK (gS (gS (gR ?_)))
   refine GoH.v (Vop.ldB rfl rfl rfl rfl Tryz.isAgg25 0 rfl Tryz.sizeOf25 rfl) ?_
   refine gMv ?_
   refine GoH.callP rfl rfl rfl rfl rfl (fun _ _ => Tryz.call24 _ _) (fun w _ hS => (by exact inside21_c m x w (hm.ex0 hS.ext))) ?_
   refine gUn uNot ?_
   refine gE ?_
   refine GoH.cond rfl (fun hc => ?_) (fun hc => ?_)
   ·
    have h2 : chkD m [x] = 2 := chk_two hv ⟨x, by simp, by simpa using hc⟩
    have hE : clE m x j = 2 := by rw [clE, if_pos (by rw [h2]; decide), h2]
    refine gS (gR ?_)
    refine GoH.v (Vop.asg (v := U 0#64) rfl rfl rfl rfl) ?_
    refine gAs ?_
    refine gE ?_
    refine GoH.ret Tryz.f17 Tryz.func17 rfl (fun w' hS => ?_)
    exact ⟨hS.ext, by rw [clS, if_neg (by rw [hE]; decide), hE]; rfl⟩
   ·
    have hix : insB m x = true := by simpa using hc
    have hck : chkD m [x] = 0 := (chk_ins hv).2 (fun y hy => by rw [List.mem_singleton.1 hy]; exact hix)
    have hE0 : clE m x j = rndsE m.n m.val m.rel j := by unfold clE rndsE; simp [hck, h1]
    simp only [insB, Bool.and_eq_true, decide_eq_true_eq] at hix
    obtain ⟨n, hn⟩ : ∃ n : Nat, m.n = (n : Int) := ⟨m.n.toNat, by omega⟩
    obtain ⟨x, rfl⟩ : ∃ n : Nat, x = (n : Int) := ⟨x.toNat, by omega⟩
    refine gK (gS (gR ?_))
    refine GoH.v (Vop.ldB rfl rfl rfl rfl Tryz.isAgg25 0 rfl Tryz.sizeOf25 rfl) ?_
    refine gMv ?_
    refine GoH.callM _ rfl rfl rfl rfl rfl (fun _ _ => Tryz.call25 _ _) (fun w _ hS => (by exact rrounds_c m j w (hT.ex hS.ext) (hm.ex0 hS.ext))) ?_
    rintro u w1 w2 Y' hS he ⟨sv, rfl, ho⟩
    obtain ⟨q, cap, sp, rfl, hq, hcap, hS'⟩ := gainS hS he ho
    refine ⟨_, hS', ?_⟩
    refine gMv ?_
    iterate 2 refine gEx ?_
    iterate 2 refine gAs ?_
    refine gE (gS (gS (gR ?_)))
    refine gMv ?_
    refine gBi bNe ?_
    refine gE ?_
    refine GoH.cond rfl (fun hc => ?_) (fun hc => ?_)
    ·
     have h2 : rndsE m.n m.val m.rel j ≠ 0 := by simpa using hc
     refine gS (gR ?_)
     refine gMv ?_
     refine GoH.v (Vop.asg (v := U 0#64) rfl rfl rfl rfl) ?_
     refine gAs ?_
     refine gE ?_
     refine GoH.ret Tryz.f17 Tryz.func17 rfl (fun w' hS => ?_)
     exact ⟨hS.ext, by rw [clS, if_neg (by rw [hE0]; exact h2), hE0]; rfl⟩
    ·
     have h2 : rndsE m.n m.val m.rel j = 0 := by simpa using hc
     have hj : 0 ≤ j := by
       refine Classical.byContradiction (fun h => ?_)
       rw [rndsE, if_neg (by simp [h1]), if_pos (by omega)] at h2
       exact absurd h2 (by decide)
     have hdn := (dep_spec (val := m.val) (rels := m.rel) (n := n) (by omega) (by omega)).1
     have hrd : rnds m.n m.val m.rel j = psq n m.val m.rel j.toNat := by
       rw [rnds_ok h2, hn, Int.toNat_natCast]
       by_cases h : j.toNat ≤ n
       · rw [Nat.min_eq_left h]
       · rw [Nat.min_eq_right (by omega), psq_from (by omega) (by omega) (by omega : dep n m.val m.rel ≤ n), psq_from (by omega) (by omega) (by omega : dep n m.val m.rel ≤ j.toNat)]
     have hS0 : clS m (x : Int) j = clsW n (psq n m.val m.rel j.toNat) x := by rw [clS, if_pos (by rw [hE0]; exact h2), hn]; rfl
     rw [hrd] at hq hcap ⊢
     have hpl := psq_len (n := n) (val := m.val) (rels := m.rel) j.toNat
     obtain ⟨P, hP⟩ : ∃ P, P = psq n m.val m.rel j.toNat := ⟨_, rfl⟩
     rw [← hP] at hq hcap hS0 hpl ⊢
     obtain ⟨bq, rfl⟩ : ∃ b, q = some b := by
       cases q with
       | none => have := (hq rfl).1; omega
       | some b => exact ⟨b, rfl⟩
     refine gK (gS (gR ?_))
     refine GoH.v (Vop.asg (v := U 0#64) rfl rfl rfl rfl) ?_
     refine gE (gS (gS (gR ?_)))
     refine gMv ?_
     refine gBl Tryz.underlying49 ?_
     refine gMv ?_
     refine gE (gB ?_)
     refine GoH.loop (σ := Nat) (fun k => [(1, .int .i64 x), (9, osv (some bq) P.length cap), (11, U (selW (fun i => P.getD i 0 == P.getD x 0) k)), (31, osv (some bq) P.length cap), (32, .int .i64 P.length), (33, .int .i64 k)]) (fun _ => [(some bq, ob I64 3 P sp)]) (fun k => k ≤ n) (fun k => n - k) 0 (Nat.zero_le _) ⟨rfl, rfl, rfl, rfl, rfl, rfl, trivial⟩ (.cons_cons _ (.cons _ (List.Sublist.refl _))) (fun k hk IH => ?_)
     have hs := selW_succ (q := fun i => P.getD i 0 == P.getD x 0) (n := k)
     refine gS (gR ?_)
     refine gBi bLt ?_
     refine gE (gS ?_)
     refine GoH.cond rfl (fun hc => ?_) (fun hc => ?_)
     ·
      have hlt : k < P.length := by simpa using hc
      refine gK (gS (gB (gS (gR ?_))))
      refine gMv ?_
      refine gAs ?_
      refine gE (gS ?_)
      refine GoH.draw 9 mixed rfl ?_
      iterate 2 refine rMv ?_
      refine RdGo.v (Vop.idxS rfl rfl rfl rfl rfl Tryz.underlying49 Tryz.sizeOf3 (k) ⟨rfl, (by omega)⟩) ?_
      refine RdGo.v (Vop.ldE I64 0 rfl rfl rfl rfl Tryz.isAgg3 0 rfl (by omega)) ?_
      iterate 2 refine rMv ?_
      refine RdGo.v (Vop.idxS rfl rfl rfl rfl rfl Tryz.underlying49 Tryz.sizeOf3 (x) ⟨rfl, (by omega)⟩) ?_
      refine RdGo.v (Vop.ldE I64 0 rfl rfl rfl rfl Tryz.isAgg3 0 rfl (by omega)) ?_
      refine rBi bEq ?_
      refine RdGo.nil ?_
      refine gE ?_
      refine GoH.cond rfl (fun hc => ?_) (fun hc => ?_)
      ·
       rw [if_pos hc, ← selW_add (by omega)] at hs
       refine gR ?_
       iterate 2 refine gMv ?_
       refine GoH.v (Vop.bin (a := U 1#64) rfl rfl rfl rfl (bShl k rfl) rfl) ?_
       refine gBi bAddU ?_
       refine gAs ?_
       refine gE (gIb (gR ?_))
       refine GoH.v (Vop.bin rfl rfl rfl rfl (bAdd (by omega)) rfl) ?_
       refine gMv ?_
       refine gE ?_
       exact IH (k + 1) _ _ (by omega) (by omega) ⟨rfl, rfl, by rw [hs]; rfl, rfl, rfl, rfl, trivial⟩ (List.Sublist.refl _)
      ·
       rw [if_neg (by rw [hc]; simp)] at hs
       refine gK (gIb (gR ?_))
       refine GoH.v (Vop.bin rfl rfl rfl rfl (bAdd (by omega)) rfl) ?_
       refine gMv ?_
       refine gE ?_
       exact IH (k + 1) _ _ (by omega) (by omega) ⟨rfl, rfl, by rw [hs]; rfl, rfl, rfl, rfl, trivial⟩ (List.Sublist.refl _)
     ·
      have hge : ¬ k < P.length := by simpa using hc
      obtain rfl : k = n := by omega
      refine GoH.exit rfl (gS (gR ?_))
      refine gMv ?_
      iterate 2 refine gAs ?_
      refine gE ?_
      refine GoH.ret Tryz.f17 Tryz.func17 rfl (fun w' hS => ?_)
      exact ⟨hS.ext, by rw [hS0, hE0, h2]; rfl⟩
end Go.Proofs.YtcljmlnnfdaljaaGreatDoor
namespace Go.Proofs.YtcljmlnnfdaljaaGreatDoor
open Go.RowKit Go.Proofs.Wit
/-! the reference's modal depth -/
set_option maxRecDepth 8000 in
theorem rdepth05_c (a : Option Addr) (ca : Nat) (f : List NV) (w : World) (ha : FA w a f) (hl : f.length ≤ maxLen) : Cn Tryz.prog 14 [.slice a f.length ca] w (fun v _ => v = .int .i64 (depF f)) := by
  obtain ⟨i0, hi, hz, hsz, hby⟩ := info_parts infoI
  obtain ⟨c, hcE⟩ : ∃ c, c = compF f := ⟨_, rfl⟩
  have hcl : c.length ≤ 200 := by rw [hcE]; exact compF_le f
  have hno : NodesOk c := by rw [hcE]; exact compF_nodes f
  refine Cn.of Tryz.func14 rfl rfl ?_
  refine gS (gR ?_)
  refine gAs ?_
  refine gE (gS (gR ?_))
  refine gMv ?_
  refine GoH.callM _ rfl rfl rfl rfl rfl (fun _ _ => Tryz.call31 _ _) (fun w _ hS => rcompact_c a ca f w (ha.ex0 hS.ext) hl) ?_
  rintro v w1 w2 Y' hS he ho
  rw [subF_top, ← hcE] at ho
  obtain ⟨qc, capc, spc, rfl, hqc, hcapc, hS'⟩ := gainN hS he ho
  refine ⟨_, hS', ?_⟩
  refine gAs ?_
  refine gE (gS (gR ?_))
  refine gAs ?_
  refine gE (gS (gS (gR ?_)))
  refine gAs ?_
  refine gE (gB ?_)
  refine GoH.addNone (ob I64 3 [] []) ?_
  refine GoH.loop (σ := Nat × Option Nat × Nat × List Value) (fun z => [(3, osv qc c.length capc), (4, osv z.2.1 (depL c z.1).length z.2.2.1), (5, .int .i64 z.1)]) (fun z => [(z.2.1, ob I64 3 (depL c z.1) z.2.2.2), (qc, obN 58 c spc)])
    (fun z => z.1 ≤ c.length ∧ (z.2.1 = none → (depL c z.1).length = 0 ∧ z.2.2.1 = 0) ∧ ((depL c z.1).map I64 ++ z.2.2.2).length = z.2.2.1) (fun z => c.length - z.1) (0, none, 0, [])
    ⟨Nat.zero_le _, fun _ => ⟨rfl, rfl⟩, rfl⟩ ⟨rfl, rfl, rfl, trivial⟩ (List.Sublist.refl _) (fun z hI IH => ?_)
  obtain ⟨k, q, cap, sp⟩ := z
  obtain ⟨hk, hq, hcap⟩ := hI
  dsimp only at hk hq hcap IH ⊢
  refine gS (gS (gR ?_))
  iterate 2 refine gMv ?_
  refine gBl Tryz.underlying31 ?_
  refine gBi bLt ?_
  refine gE ?_
  refine GoH.cond rfl (fun hc => ?_) (fun hc => ?_)
  ·
   have hlt : k < c.length := by simpa using hc
   have hord := hno.ord k hlt
   have hdl : (depL c k).length = k := depL_len
   have hdn := depT_node hno hlt
   have hda := depT_at hno hlt
   obtain ⟨bc, rfl⟩ : ∃ bc, qc = some bc := by
     cases qc with
     | none => have := (hqc rfl).1; omega
     | some b => exact ⟨b, rfl⟩
   refine gK (gS (gB (gS (gR ?_))))
   refine gAs ?_
   refine gE (gS (gS (gR ?_)))
   iterate 2 refine gMv ?_
   refine GoH.v (Vop.idxS rfl rfl rfl rfl rfl Tryz.underlying31 Tryz.sizeOf58 (k) ⟨rfl, hlt⟩) ?_
   refine GoH.v (Vop.fldA (a := some ⟨bc, 0, none⟩) (o := (k) * 6) rfl rfl rfl rfl Tryz.underlying58 rfl Tryz.sizeOf3 ((k) * 6 + 0) rfl) ?_
   refine GoH.v (Vop.ld rfl rfl rfl rfl Tryz.isAgg3 (fun w _ hS => Sl.fld (enc := NV.cells) (sz := 6) (a := some ⟨bc, 0, none⟩) (Sl.blk (hS.get (j := 1) rfl)) (fun _ => rfl) hlt rfl)) ?_
   refine GoH.callP rfl rfl rfl rfl rfl (fun _ _ => Tryz.call32 _ _) (fun w _ hS => (by exact usesX_c c[k].op w)) ?_
   refine gE ?_
   refine GoH.cond rfl (fun hc => ?_) (fun hc => ?_)
   ·
    have hx := hord.1 hc
    rw [if_pos hc] at hdn
    obtain ⟨b, rfl⟩ : ∃ b, q = some b := by
      cases q with
      | none => have := (hq rfl).1; omega
      | some b => exact ⟨b, rfl⟩
    have hgx : (depL c k).getD c[k].x.toNat 0 = depT (treeAt c c[k].x.toNat) := depL_get (by omega)
    refine gR ?_
    iterate 3 refine gMv ?_
    refine GoH.v (Vop.idxS rfl rfl rfl rfl rfl Tryz.underlying31 Tryz.sizeOf58 (k) ⟨rfl, hlt⟩) ?_
    refine GoH.v (Vop.fldA (a := some ⟨bc, 0, none⟩) (o := (k) * 6) rfl rfl rfl rfl Tryz.underlying58 rfl Tryz.sizeOf3 ((k) * 6 + 4) rfl) ?_
    refine GoH.v (Vop.ld rfl rfl rfl rfl Tryz.isAgg3 (fun w _ hS => Sl.fld (enc := NV.cells) (sz := 6) (a := some ⟨bc, 0, none⟩) (Sl.blk (hS.get (j := 1) rfl)) (fun _ => rfl) hlt rfl)) ?_
    refine GoH.v (Vop.idxS rfl rfl rfl rfl rfl Tryz.underlying49 Tryz.sizeOf3 (c[k].x.toNat) ⟨(Int.toNat_of_nonneg hx.1).symm, (by rw [hdl]; omega)⟩) ?_
    refine GoH.v (Vop.ldE I64 0 rfl rfl rfl rfl Tryz.isAgg3 0 rfl (by rw [hdl]; omega)) ?_
    refine gAs ?_
    refine gE (gS (gS (gR ?_)))
    iterate 2 refine gMv ?_
    refine GoH.v (Vop.idxS rfl rfl rfl rfl rfl Tryz.underlying31 Tryz.sizeOf58 (k) ⟨rfl, hlt⟩) ?_
    refine GoH.v (Vop.fldA (a := some ⟨bc, 0, none⟩) (o := (k) * 6) rfl rfl rfl rfl Tryz.underlying58 rfl Tryz.sizeOf3 ((k) * 6 + 0) rfl) ?_
    refine GoH.v (Vop.ld rfl rfl rfl rfl Tryz.isAgg3 (fun w _ hS => Sl.fld (enc := NV.cells) (sz := 6) (a := some ⟨bc, 0, none⟩) (Sl.blk (hS.get (j := 1) rfl)) (fun _ => rfl) hlt rfl)) ?_
    refine GoH.callP rfl rfl rfl rfl rfl (fun _ _ => Tryz.call33 _ _) (fun w _ hS => (by exact usesY_c c[k].op w)) ?_
    refine gE ?_
    refine GoH.cond rfl (fun hc => ?_) (fun hc => ?_)
    ·
     rw [hgx]
     have hy := hord.2 hc
     rw [if_pos hc] at hdn
     have hgy : (depL c k).getD c[k].y.toNat 0 = depT (treeAt c c[k].y.toNat) := depL_get (by omega)
     refine gR ?_
     iterate 4 refine gMv ?_
     refine GoH.v (Vop.idxS rfl rfl rfl rfl rfl Tryz.underlying31 Tryz.sizeOf58 (k) ⟨rfl, hlt⟩) ?_
     refine GoH.v (Vop.fldA (a := some ⟨bc, 0, none⟩) (o := (k) * 6) rfl rfl rfl rfl Tryz.underlying58 rfl Tryz.sizeOf3 ((k) * 6 + 5) rfl) ?_
     refine GoH.v (Vop.ld rfl rfl rfl rfl Tryz.isAgg3 (fun w _ hS => Sl.fld (enc := NV.cells) (sz := 6) (a := some ⟨bc, 0, none⟩) (Sl.blk (hS.get (j := 1) rfl)) (fun _ => rfl) hlt rfl)) ?_
     refine GoH.v (Vop.idxS rfl rfl rfl rfl rfl Tryz.underlying49 Tryz.sizeOf3 (c[k].y.toNat) ⟨(Int.toNat_of_nonneg hy.1).symm, (by rw [hdl]; omega)⟩) ?_
     refine GoH.v (Vop.ldE I64 0 rfl rfl rfl rfl Tryz.isAgg3 0 rfl (by rw [hdl]; omega)) ?_
     refine GoH.v (Vop.blt rfl rfl rfl (blt_max (c := ((max (depT (treeAt c c[k].x.toNat)) (depT (treeAt c c[k].y.toNat)) : Nat) : Int)) (by rw [hgy]; omega)) rfl) ?_
     refine gAs ?_
     refine gE (gS (gS (gR ?_)))
     iterate 2 refine gMv ?_
     refine GoH.v (Vop.idxS rfl rfl rfl rfl rfl Tryz.underlying31 Tryz.sizeOf58 (k) ⟨rfl, hlt⟩) ?_
     refine GoH.v (Vop.fldA (a := some ⟨bc, 0, none⟩) (o := (k) * 6) rfl rfl rfl rfl Tryz.underlying58 rfl Tryz.sizeOf3 ((k) * 6 + 0) rfl) ?_
     refine GoH.v (Vop.ld rfl rfl rfl rfl Tryz.isAgg3 (fun w _ hS => Sl.fld (enc := NV.cells) (sz := 6) (a := some ⟨bc, 0, none⟩) (Sl.blk (hS.get (j := 1) rfl)) (fun _ => rfl) hlt rfl)) ?_
     refine gBi bGe ?_
     refine gMv ?_
     refine GoH.cases (d := 51) rfl (fun hc => ?_) (fun hc => ?_)
     ·
      have h9 : 9 ≤ c[k].op := by simpa using hc
      iterate 2 refine gMv ?_
      refine GoH.v (Vop.idxS rfl rfl rfl rfl rfl Tryz.underlying31 Tryz.sizeOf58 (k) ⟨rfl, hlt⟩) ?_
      refine GoH.v (Vop.fldA (a := some ⟨bc, 0, none⟩) (o := (k) * 6) rfl rfl rfl rfl Tryz.underlying58 rfl Tryz.sizeOf3 ((k) * 6 + 0) rfl) ?_
      refine GoH.v (Vop.ld rfl rfl rfl rfl Tryz.isAgg3 (fun w _ hS => Sl.fld (enc := NV.cells) (sz := 6) (a := some ⟨bc, 0, none⟩) (Sl.blk (hS.get (j := 1) rfl)) (fun _ => rfl) hlt rfl)) ?_
      refine gBi bLe ?_
      refine gPt ?_
      refine gMv ?_
      refine GoH.cases (d := 59) rfl (fun hc => ?_) (fun hc => ?_)
      ·
       have h15 : c[k].op ≤ 15 := by simpa using hc
       have h1 : mdO c[k].op = 1 := if_pos (by omega)
       iterate 6 refine gNo ?_
       refine gPt ?_
       refine gE (GoH.condT rfl (gR ?_))
       refine gMv ?_
       refine GoH.v (Vop.bin rfl rfl rfl rfl (bAddE (c := (depT (treeAt c k) : Int)) (by rw [hdn, h1]; rfl) (by omega)) rfl) ?_
       refine gAs ?_
       refine gE (gR ?_)
       iterate 2 refine gMv ?_
       refine GoH.bsN (c := [_]) rfl rfl rfl rfl Tryz.underlying49 Tryz.sizeOf3 Tryz.zeroValue3 rfl rfl (fun b71 => ?_)
       refine GoH.appE I64 (xs := depL c k) (sp := sp) (q := some b) (news := [(depT (treeAt c k) : Int)]) (spn := []) rfl rfl rfl rfl rfl Tryz.underlying49 hi hz hsz rfl hq 1 rfl 0 rfl hcap rfl (by decide) (fun _ => rfl) (by unfold maxLen; rw [hdl]; omega) (by rw [hby, hdl]; omega) (fun b' sp' cap' hlen2 => ?_)
       rw [← depL_succ] at hlen2 ⊢
       refine gAs ?_
       refine gE (gIb (gR ?_))
       refine gMv ?_
       refine GoH.v (Vop.bin rfl rfl rfl rfl (bAdd (by omega)) rfl) ?_
       refine gAs ?_
       refine gE ?_
       exact IH (k + 1, some b', cap', sp') _ _ ⟨hlt, (fun e => by cases e), hlen2⟩ (by dsimp only; omega) ⟨rfl, rfl, rfl, trivial⟩ (.cons _ (List.Sublist.refl _))
      ·
       have h15 : ¬ c[k].op ≤ 15 := by simpa using hc
       iterate 2 refine gMv ?_
       refine GoH.v (Vop.idxS rfl rfl rfl rfl rfl Tryz.underlying31 Tryz.sizeOf58 (k) ⟨rfl, hlt⟩) ?_
       refine GoH.v (Vop.fldA (a := some ⟨bc, 0, none⟩) (o := (k) * 6) rfl rfl rfl rfl Tryz.underlying58 rfl Tryz.sizeOf3 ((k) * 6 + 0) rfl) ?_
       refine GoH.v (Vop.ld rfl rfl rfl rfl Tryz.isAgg3 (fun w _ hS => Sl.fld (enc := NV.cells) (sz := 6) (a := some ⟨bc, 0, none⟩) (Sl.blk (hS.get (j := 1) rfl)) (fun _ => rfl) hlt rfl)) ?_
       refine gBi bGe ?_
       refine gPf ?_
       refine gE ?_
       refine GoH.cond rfl (fun hc => ?_) (fun hc => ?_)
       ·
        have h18 : 18 ≤ c[k].op := by simpa using hc
        have h1 : mdO c[k].op = 1 := if_pos (by omega)
        refine gR ?_
        refine gMv ?_
        refine GoH.v (Vop.bin rfl rfl rfl rfl (bAddE (c := (depT (treeAt c k) : Int)) (by rw [hdn, h1]; rfl) (by omega)) rfl) ?_
        refine gAs ?_
        refine gE (gR ?_)
        iterate 2 refine gMv ?_
        refine GoH.bsN (c := [_]) rfl rfl rfl rfl Tryz.underlying49 Tryz.sizeOf3 Tryz.zeroValue3 rfl rfl (fun b71 => ?_)
        refine GoH.appE I64 (xs := depL c k) (sp := sp) (q := some b) (news := [(depT (treeAt c k) : Int)]) (spn := []) rfl rfl rfl rfl rfl Tryz.underlying49 hi hz hsz rfl hq 1 rfl 0 rfl hcap rfl (by decide) (fun _ => rfl) (by unfold maxLen; rw [hdl]; omega) (by rw [hby, hdl]; omega) (fun b' sp' cap' hlen2 => ?_)
        rw [← depL_succ] at hlen2 ⊢
        refine gAs ?_
        refine gE (gIb (gR ?_))
        refine gMv ?_
        refine GoH.v (Vop.bin rfl rfl rfl rfl (bAdd (by omega)) rfl) ?_
        refine gAs ?_
        refine gE ?_
        exact IH (k + 1, some b', cap', sp') _ _ ⟨hlt, (fun e => by cases e), hlen2⟩ (by dsimp only; omega) ⟨rfl, rfl, rfl, trivial⟩ (.cons _ (List.Sublist.refl _))
       ·
        have h18 : ¬ 18 ≤ c[k].op := by simpa using hc
        have h1 : mdO c[k].op = 0 := if_neg (by omega)
        have hz2 : ((max (depT (treeAt c c[k].x.toNat)) (depT (treeAt c c[k].y.toNat)) : Nat) : Int) = (depT (treeAt c k) : Int) := by rw [hdn, h1, Nat.add_zero]
        rw [hz2]
        refine gK (gR ?_)
        iterate 2 refine gMv ?_
        refine GoH.bsN (c := [_]) rfl rfl rfl rfl Tryz.underlying49 Tryz.sizeOf3 Tryz.zeroValue3 rfl rfl (fun b71 => ?_)
        refine GoH.appE I64 (xs := depL c k) (sp := sp) (q := some b) (news := [(depT (treeAt c k) : Int)]) (spn := []) rfl rfl rfl rfl rfl Tryz.underlying49 hi hz hsz rfl hq 1 rfl 0 rfl hcap rfl (by decide) (fun _ => rfl) (by unfold maxLen; rw [hdl]; omega) (by rw [hby, hdl]; omega) (fun b' sp' cap' hlen2 => ?_)
        rw [← depL_succ] at hlen2 ⊢
        refine gAs ?_
        refine gE (gIb (gR ?_))
        refine gMv ?_
        refine GoH.v (Vop.bin rfl rfl rfl rfl (bAdd (by omega)) rfl) ?_
        refine gAs ?_
        refine gE ?_
        exact IH (k + 1, some b', cap', sp') _ _ ⟨hlt, (fun e => by cases e), hlen2⟩ (by dsimp only; omega) ⟨rfl, rfl, rfl, trivial⟩ (.cons _ (List.Sublist.refl _))
     ·
      have h9 : ¬ 9 ≤ c[k].op := by simpa using hc
      iterate 6 refine gNo ?_
      refine gPf ?_
      iterate 3 refine gMv ?_
      refine GoH.v (Vop.idxS rfl rfl rfl rfl rfl Tryz.underlying31 Tryz.sizeOf58 (k) ⟨rfl, hlt⟩) ?_
      refine GoH.v (Vop.fldA (a := some ⟨bc, 0, none⟩) (o := (k) * 6) rfl rfl rfl rfl Tryz.underlying58 rfl Tryz.sizeOf3 ((k) * 6 + 0) rfl) ?_
      refine GoH.v (Vop.ld rfl rfl rfl rfl Tryz.isAgg3 (fun w _ hS => Sl.fld (enc := NV.cells) (sz := 6) (a := some ⟨bc, 0, none⟩) (Sl.blk (hS.get (j := 1) rfl)) (fun _ => rfl) hlt rfl)) ?_
      refine gBi bGe ?_
      refine gPf ?_
      refine gE ?_
      refine GoH.cond rfl (fun hc => ?_) (fun hc => ?_)
      ·
       have h18 : 18 ≤ c[k].op := by simpa using hc
       have h1 : mdO c[k].op = 1 := if_pos (by omega)
       refine gR ?_
       refine gMv ?_
       refine GoH.v (Vop.bin rfl rfl rfl rfl (bAddE (c := (depT (treeAt c k) : Int)) (by rw [hdn, h1]; rfl) (by omega)) rfl) ?_
       refine gAs ?_
       refine gE (gR ?_)
       iterate 2 refine gMv ?_
       refine GoH.bsN (c := [_]) rfl rfl rfl rfl Tryz.underlying49 Tryz.sizeOf3 Tryz.zeroValue3 rfl rfl (fun b71 => ?_)
       refine GoH.appE I64 (xs := depL c k) (sp := sp) (q := some b) (news := [(depT (treeAt c k) : Int)]) (spn := []) rfl rfl rfl rfl rfl Tryz.underlying49 hi hz hsz rfl hq 1 rfl 0 rfl hcap rfl (by decide) (fun _ => rfl) (by unfold maxLen; rw [hdl]; omega) (by rw [hby, hdl]; omega) (fun b' sp' cap' hlen2 => ?_)
       rw [← depL_succ] at hlen2 ⊢
       refine gAs ?_
       refine gE (gIb (gR ?_))
       refine gMv ?_
       refine GoH.v (Vop.bin rfl rfl rfl rfl (bAdd (by omega)) rfl) ?_
       refine gAs ?_
       refine gE ?_
       exact IH (k + 1, some b', cap', sp') _ _ ⟨hlt, (fun e => by cases e), hlen2⟩ (by dsimp only; omega) ⟨rfl, rfl, rfl, trivial⟩ (.cons _ (List.Sublist.refl _))
      ·
       have h18 : ¬ 18 ≤ c[k].op := by simpa using hc
       have h1 : mdO c[k].op = 0 := if_neg (by omega)
       have hz2 : ((max (depT (treeAt c c[k].x.toNat)) (depT (treeAt c c[k].y.toNat)) : Nat) : Int) = (depT (treeAt c k) : Int) := by rw [hdn, h1, Nat.add_zero]
       rw [hz2]
       refine gK (gR ?_)
       iterate 2 refine gMv ?_
       refine GoH.bsN (c := [_]) rfl rfl rfl rfl Tryz.underlying49 Tryz.sizeOf3 Tryz.zeroValue3 rfl rfl (fun b71 => ?_)
       refine GoH.appE I64 (xs := depL c k) (sp := sp) (q := some b) (news := [(depT (treeAt c k) : Int)]) (spn := []) rfl rfl rfl rfl rfl Tryz.underlying49 hi hz hsz rfl hq 1 rfl 0 rfl hcap rfl (by decide) (fun _ => rfl) (by unfold maxLen; rw [hdl]; omega) (by rw [hby, hdl]; omega) (fun b' sp' cap' hlen2 => ?_)
       rw [← depL_succ] at hlen2 ⊢
       refine gAs ?_
       refine gE (gIb (gR ?_))
       refine gMv ?_
       refine GoH.v (Vop.bin rfl rfl rfl rfl (bAdd (by omega)) rfl) ?_
       refine gAs ?_
       refine gE ?_
       exact IH (k + 1, some b', cap', sp') _ _ ⟨hlt, (fun e => by cases e), hlen2⟩ (by dsimp only; omega) ⟨rfl, rfl, rfl, trivial⟩ (.cons _ (List.Sublist.refl _))
    ·
     rw [hgx]
     rw [if_neg (by rw [hc]; simp), Nat.max_zero] at hdn
     refine gK (gS (gS (gR ?_)))
     iterate 2 refine gMv ?_
     refine GoH.v (Vop.idxS rfl rfl rfl rfl rfl Tryz.underlying31 Tryz.sizeOf58 (k) ⟨rfl, hlt⟩) ?_
     refine GoH.v (Vop.fldA (a := some ⟨bc, 0, none⟩) (o := (k) * 6) rfl rfl rfl rfl Tryz.underlying58 rfl Tryz.sizeOf3 ((k) * 6 + 0) rfl) ?_
     refine GoH.v (Vop.ld rfl rfl rfl rfl Tryz.isAgg3 (fun w _ hS => Sl.fld (enc := NV.cells) (sz := 6) (a := some ⟨bc, 0, none⟩) (Sl.blk (hS.get (j := 1) rfl)) (fun _ => rfl) hlt rfl)) ?_
     refine gBi bGe ?_
     refine gMv ?_
     refine GoH.cases (d := 51) rfl (fun hc => ?_) (fun hc => ?_)
     ·
      have h9 : 9 ≤ c[k].op := by simpa using hc
      iterate 2 refine gMv ?_
      refine GoH.v (Vop.idxS rfl rfl rfl rfl rfl Tryz.underlying31 Tryz.sizeOf58 (k) ⟨rfl, hlt⟩) ?_
      refine GoH.v (Vop.fldA (a := some ⟨bc, 0, none⟩) (o := (k) * 6) rfl rfl rfl rfl Tryz.underlying58 rfl Tryz.sizeOf3 ((k) * 6 + 0) rfl) ?_
      refine GoH.v (Vop.ld rfl rfl rfl rfl Tryz.isAgg3 (fun w _ hS => Sl.fld (enc := NV.cells) (sz := 6) (a := some ⟨bc, 0, none⟩) (Sl.blk (hS.get (j := 1) rfl)) (fun _ => rfl) hlt rfl)) ?_
      refine gBi bLe ?_
      refine gPt ?_
      refine gMv ?_
      refine GoH.cases (d := 59) rfl (fun hc => ?_) (fun hc => ?_)
      ·
       have h15 : c[k].op ≤ 15 := by simpa using hc
       have h1 : mdO c[k].op = 1 := if_pos (by omega)
       iterate 6 refine gNo ?_
       refine gPt ?_
       refine gE (GoH.condT rfl (gR ?_))
       refine gMv ?_
       refine GoH.v (Vop.bin rfl rfl rfl rfl (bAddE (c := (depT (treeAt c k) : Int)) (by rw [hdn, h1]; rfl) (by omega)) rfl) ?_
       refine gAs ?_
       refine gE (gR ?_)
       iterate 2 refine gMv ?_
       refine GoH.bsN (c := [_]) rfl rfl rfl rfl Tryz.underlying49 Tryz.sizeOf3 Tryz.zeroValue3 rfl rfl (fun b71 => ?_)
       refine GoH.appE I64 (xs := depL c k) (sp := sp) (q := some b) (news := [(depT (treeAt c k) : Int)]) (spn := []) rfl rfl rfl rfl rfl Tryz.underlying49 hi hz hsz rfl hq 1 rfl 0 rfl hcap rfl (by decide) (fun _ => rfl) (by unfold maxLen; rw [hdl]; omega) (by rw [hby, hdl]; omega) (fun b' sp' cap' hlen2 => ?_)
       rw [← depL_succ] at hlen2 ⊢
       refine gAs ?_
       refine gE (gIb (gR ?_))
       refine gMv ?_
       refine GoH.v (Vop.bin rfl rfl rfl rfl (bAdd (by omega)) rfl) ?_
       refine gAs ?_
       refine gE ?_
       exact IH (k + 1, some b', cap', sp') _ _ ⟨hlt, (fun e => by cases e), hlen2⟩ (by dsimp only; omega) ⟨rfl, rfl, rfl, trivial⟩ (.cons _ (List.Sublist.refl _))
      ·
       have h15 : ¬ c[k].op ≤ 15 := by simpa using hc
       iterate 2 refine gMv ?_
       refine GoH.v (Vop.idxS rfl rfl rfl rfl rfl Tryz.underlying31 Tryz.sizeOf58 (k) ⟨rfl, hlt⟩) ?_
       refine GoH.v (Vop.fldA (a := some ⟨bc, 0, none⟩) (o := (k) * 6) rfl rfl rfl rfl Tryz.underlying58 rfl Tryz.sizeOf3 ((k) * 6 + 0) rfl) ?_
       refine GoH.v (Vop.ld rfl rfl rfl rfl Tryz.isAgg3 (fun w _ hS => Sl.fld (enc := NV.cells) (sz := 6) (a := some ⟨bc, 0, none⟩) (Sl.blk (hS.get (j := 1) rfl)) (fun _ => rfl) hlt rfl)) ?_
       refine gBi bGe ?_
       refine gPf ?_
       refine gE ?_
       refine GoH.cond rfl (fun hc => ?_) (fun hc => ?_)
       ·
        have h18 : 18 ≤ c[k].op := by simpa using hc
        have h1 : mdO c[k].op = 1 := if_pos (by omega)
        refine gR ?_
        refine gMv ?_
        refine GoH.v (Vop.bin rfl rfl rfl rfl (bAddE (c := (depT (treeAt c k) : Int)) (by rw [hdn, h1]; rfl) (by omega)) rfl) ?_
        refine gAs ?_
        refine gE (gR ?_)
        iterate 2 refine gMv ?_
        refine GoH.bsN (c := [_]) rfl rfl rfl rfl Tryz.underlying49 Tryz.sizeOf3 Tryz.zeroValue3 rfl rfl (fun b71 => ?_)
        refine GoH.appE I64 (xs := depL c k) (sp := sp) (q := some b) (news := [(depT (treeAt c k) : Int)]) (spn := []) rfl rfl rfl rfl rfl Tryz.underlying49 hi hz hsz rfl hq 1 rfl 0 rfl hcap rfl (by decide) (fun _ => rfl) (by unfold maxLen; rw [hdl]; omega) (by rw [hby, hdl]; omega) (fun b' sp' cap' hlen2 => ?_)
        rw [← depL_succ] at hlen2 ⊢
        refine gAs ?_
        refine gE (gIb (gR ?_))
        refine gMv ?_
        refine GoH.v (Vop.bin rfl rfl rfl rfl (bAdd (by omega)) rfl) ?_
        refine gAs ?_
        refine gE ?_
        exact IH (k + 1, some b', cap', sp') _ _ ⟨hlt, (fun e => by cases e), hlen2⟩ (by dsimp only; omega) ⟨rfl, rfl, rfl, trivial⟩ (.cons _ (List.Sublist.refl _))
       ·
        have h18 : ¬ 18 ≤ c[k].op := by simpa using hc
        have h1 : mdO c[k].op = 0 := if_neg (by omega)
        have hz2 : ((depT (treeAt c c[k].x.toNat) : Nat) : Int) = (depT (treeAt c k) : Int) := by rw [hdn, h1, Nat.add_zero]
        rw [hz2]
        refine gK (gR ?_)
        iterate 2 refine gMv ?_
        refine GoH.bsN (c := [_]) rfl rfl rfl rfl Tryz.underlying49 Tryz.sizeOf3 Tryz.zeroValue3 rfl rfl (fun b71 => ?_)
        refine GoH.appE I64 (xs := depL c k) (sp := sp) (q := some b) (news := [(depT (treeAt c k) : Int)]) (spn := []) rfl rfl rfl rfl rfl Tryz.underlying49 hi hz hsz rfl hq 1 rfl 0 rfl hcap rfl (by decide) (fun _ => rfl) (by unfold maxLen; rw [hdl]; omega) (by rw [hby, hdl]; omega) (fun b' sp' cap' hlen2 => ?_)
        rw [← depL_succ] at hlen2 ⊢
        refine gAs ?_
        refine gE (gIb (gR ?_))
        refine gMv ?_
        refine GoH.v (Vop.bin rfl rfl rfl rfl (bAdd (by omega)) rfl) ?_
        refine gAs ?_
        refine gE ?_
        exact IH (k + 1, some b', cap', sp') _ _ ⟨hlt, (fun e => by cases e), hlen2⟩ (by dsimp only; omega) ⟨rfl, rfl, rfl, trivial⟩ (.cons _ (List.Sublist.refl _))
     ·
      have h9 : ¬ 9 ≤ c[k].op := by simpa using hc
      iterate 6 refine gNo ?_
      refine gPf ?_
      iterate 3 refine gMv ?_
      refine GoH.v (Vop.idxS rfl rfl rfl rfl rfl Tryz.underlying31 Tryz.sizeOf58 (k) ⟨rfl, hlt⟩) ?_
      refine GoH.v (Vop.fldA (a := some ⟨bc, 0, none⟩) (o := (k) * 6) rfl rfl rfl rfl Tryz.underlying58 rfl Tryz.sizeOf3 ((k) * 6 + 0) rfl) ?_
      refine GoH.v (Vop.ld rfl rfl rfl rfl Tryz.isAgg3 (fun w _ hS => Sl.fld (enc := NV.cells) (sz := 6) (a := some ⟨bc, 0, none⟩) (Sl.blk (hS.get (j := 1) rfl)) (fun _ => rfl) hlt rfl)) ?_
      refine gBi bGe ?_
      refine gPf ?_
      refine gE ?_
      refine GoH.cond rfl (fun hc => ?_) (fun hc => ?_)
      ·
       have h18 : 18 ≤ c[k].op := by simpa using hc
       have h1 : mdO c[k].op = 1 := if_pos (by omega)
       refine gR ?_
       refine gMv ?_
       refine GoH.v (Vop.bin rfl rfl rfl rfl (bAddE (c := (depT (treeAt c k) : Int)) (by rw [hdn, h1]; rfl) (by omega)) rfl) ?_
       refine gAs ?_
       refine gE (gR ?_)
       iterate 2 refine gMv ?_
       refine GoH.bsN (c := [_]) rfl rfl rfl rfl Tryz.underlying49 Tryz.sizeOf3 Tryz.zeroValue3 rfl rfl (fun b71 => ?_)
       refine GoH.appE I64 (xs := depL c k) (sp := sp) (q := some b) (news := [(depT (treeAt c k) : Int)]) (spn := []) rfl rfl rfl rfl rfl Tryz.underlying49 hi hz hsz rfl hq 1 rfl 0 rfl hcap rfl (by decide) (fun _ => rfl) (by unfold maxLen; rw [hdl]; omega) (by rw [hby, hdl]; omega) (fun b' sp' cap' hlen2 => ?_)
       rw [← depL_succ] at hlen2 ⊢
       refine gAs ?_
       refine gE (gIb (gR ?_))
       refine gMv ?_
       refine GoH.v (Vop.bin rfl rfl rfl rfl (bAdd (by omega)) rfl) ?_
       refine gAs ?_
       refine gE ?_
       exact IH (k + 1, some b', cap', sp') _ _ ⟨hlt, (fun e => by cases e), hlen2⟩ (by dsimp only; omega) ⟨rfl, rfl, rfl, trivial⟩ (.cons _ (List.Sublist.refl _))
      ·
       have h18 : ¬ 18 ≤ c[k].op := by simpa using hc
       have h1 : mdO c[k].op = 0 := if_neg (by omega)
       have hz2 : ((depT (treeAt c c[k].x.toNat) : Nat) : Int) = (depT (treeAt c k) : Int) := by rw [hdn, h1, Nat.add_zero]
       rw [hz2]
       refine gK (gR ?_)
       iterate 2 refine gMv ?_
       refine GoH.bsN (c := [_]) rfl rfl rfl rfl Tryz.underlying49 Tryz.sizeOf3 Tryz.zeroValue3 rfl rfl (fun b71 => ?_)
       refine GoH.appE I64 (xs := depL c k) (sp := sp) (q := some b) (news := [(depT (treeAt c k) : Int)]) (spn := []) rfl rfl rfl rfl rfl Tryz.underlying49 hi hz hsz rfl hq 1 rfl 0 rfl hcap rfl (by decide) (fun _ => rfl) (by unfold maxLen; rw [hdl]; omega) (by rw [hby, hdl]; omega) (fun b' sp' cap' hlen2 => ?_)
       rw [← depL_succ] at hlen2 ⊢
       refine gAs ?_
       refine gE (gIb (gR ?_))
       refine gMv ?_
       refine GoH.v (Vop.bin rfl rfl rfl rfl (bAdd (by omega)) rfl) ?_
       refine gAs ?_
       refine gE ?_
       exact IH (k + 1, some b', cap', sp') _ _ ⟨hlt, (fun e => by cases e), hlen2⟩ (by dsimp only; omega) ⟨rfl, rfl, rfl, trivial⟩ (.cons _ (List.Sublist.refl _))
   ·
    have hc0 := hc
    rw [if_neg (by rw [hc]; simp)] at hdn
    refine gK (gS (gS (gR ?_)))
    iterate 2 refine gMv ?_
    refine GoH.v (Vop.idxS rfl rfl rfl rfl rfl Tryz.underlying31 Tryz.sizeOf58 (k) ⟨rfl, hlt⟩) ?_
    refine GoH.v (Vop.fldA (a := some ⟨bc, 0, none⟩) (o := (k) * 6) rfl rfl rfl rfl Tryz.underlying58 rfl Tryz.sizeOf3 ((k) * 6 + 0) rfl) ?_
    refine GoH.v (Vop.ld rfl rfl rfl rfl Tryz.isAgg3 (fun w _ hS => Sl.fld (enc := NV.cells) (sz := 6) (a := some ⟨bc, 0, none⟩) (Sl.blk (hS.get (j := 1) rfl)) (fun _ => rfl) hlt rfl)) ?_
    refine GoH.callP rfl rfl rfl rfl rfl (fun _ _ => Tryz.call33 _ _) (fun w _ hS => (by exact usesY_c c[k].op w)) ?_
    refine gE ?_
    refine GoH.cond rfl (fun hc => ?_) (fun hc => ?_)
    ·
     rw [usY_X hc] at hc0; cases hc0
    ·
     rw [if_neg (by rw [hc]; simp)] at hdn
     have hm0 : mdO c[k].op = 0 := by
       have hop := (hno k hlt).op
       unfold mdO
       rw [if_neg]
       intro hh
       rw [show usX c[k].op = true from by simp only [usX, Bool.and_eq_true, decide_eq_true_eq]; omega] at hc0
       cases hc0
     have hop := (hno k hlt).op
     have h4 : c[k].op < 4 := by
       refine Classical.byContradiction (fun h => ?_)
       rw [show usX c[k].op = true from by simp only [usX, Bool.and_eq_true, decide_eq_true_eq]; omega] at hc0
       cases hc0
     have hz2 : (0 : Int) = (depT (treeAt c k) : Int) := by rw [hdn, hm0]; rfl
     refine gK (gS (gS (gR ?_)))
     iterate 2 refine gMv ?_
     refine GoH.v (Vop.idxS rfl rfl rfl rfl rfl Tryz.underlying31 Tryz.sizeOf58 (k) ⟨rfl, hlt⟩) ?_
     refine GoH.v (Vop.fldA (a := some ⟨bc, 0, none⟩) (o := (k) * 6) rfl rfl rfl rfl Tryz.underlying58 rfl Tryz.sizeOf3 ((k) * 6 + 0) rfl) ?_
     refine GoH.v (Vop.ld rfl rfl rfl rfl Tryz.isAgg3 (fun w _ hS => Sl.fld (enc := NV.cells) (sz := 6) (a := some ⟨bc, 0, none⟩) (Sl.blk (hS.get (j := 1) rfl)) (fun _ => rfl) hlt rfl)) ?_
     refine GoH.v (Vop.bin rfl rfl rfl rfl (bGeV (v := false) (decide_eq_false (by omega))) rfl) ?_
     refine gMv ?_
     iterate 6 refine gNo ?_
     refine gPf ?_
     iterate 3 refine gMv ?_
     refine GoH.v (Vop.idxS rfl rfl rfl rfl rfl Tryz.underlying31 Tryz.sizeOf58 (k) ⟨rfl, hlt⟩) ?_
     refine GoH.v (Vop.fldA (a := some ⟨bc, 0, none⟩) (o := (k) * 6) rfl rfl rfl rfl Tryz.underlying58 rfl Tryz.sizeOf3 ((k) * 6 + 0) rfl) ?_
     refine GoH.v (Vop.ld rfl rfl rfl rfl Tryz.isAgg3 (fun w _ hS => Sl.fld (enc := NV.cells) (sz := 6) (a := some ⟨bc, 0, none⟩) (Sl.blk (hS.get (j := 1) rfl)) (fun _ => rfl) hlt rfl)) ?_
     refine GoH.v (Vop.bin rfl rfl rfl rfl (bGeV (v := false) (decide_eq_false (by omega))) rfl) ?_
     refine gPf ?_
     refine gE (GoH.condF rfl (gK (gR ?_)))
     iterate 2 refine gMv ?_
     refine GoH.bsN (c := [_]) rfl rfl rfl rfl Tryz.underlying49 Tryz.sizeOf3 Tryz.zeroValue3 rfl rfl (fun b71 => ?_)
     refine GoH.appE I64 (xs := depL c k) (sp := sp) (q := q) (news := [0]) (spn := []) rfl rfl rfl rfl rfl Tryz.underlying49 hi hz hsz rfl hq 1 rfl 0 rfl hcap rfl (by decide) (fun _ => rfl) (by unfold maxLen; rw [hdl]; omega) (by rw [hby, hdl]; omega) (fun b' sp' cap' hlen2 => ?_)
     rw [show depL c k ++ [(0 : Int)] = depL c (k + 1) from by rw [depL_succ, ← hz2]] at hlen2 ⊢
     refine gAs ?_
     refine gE (gIb (gR ?_))
     refine gMv ?_
     refine GoH.v (Vop.bin rfl rfl rfl rfl (bAdd (by omega)) rfl) ?_
     refine gAs ?_
     refine gE ?_
     exact IH (k + 1, some b', cap', sp') _ _ ⟨hlt, (fun e => by cases e), hlen2⟩ (by dsimp only; omega) ⟨rfl, rfl, rfl, trivial⟩ (.cons _ (List.Sublist.refl _))
  ·
   have hge : ¬ k < c.length := by simpa using hc
   obtain rfl : k = c.length := by omega
   have hdl : (depL c c.length).length = c.length := depL_len
   refine GoH.exit rfl (gS (gS (gR ?_)))
   refine gMv ?_
   refine gBl Tryz.underlying49 ?_
   refine gBi bEq ?_
   refine gE ?_
   refine GoH.cond rfl (fun hc => ?_) (fun hc => ?_)
   ·
    have h0 : chkF f ≠ 0 := fun h => by
      have := (chkF_zero.1 (CanF.compF h).chk).pos
      rw [← hcE] at this
      rw [hdl] at hc
      have : (c.length : Int) = 0 := eq_of_beq hc
      omega
    refine gS (gR ?_)
    refine gAs ?_
    refine gE ?_
    refine GoH.ret Tryz.f14 Tryz.func14 rfl (fun w' hS => ?_)
    exact ⟨hS.ext, by rw [depF, if_neg h0]; rfl⟩
   ·
    have h0 : chkF f = 0 := Classical.byContradiction (fun h => by
      rw [hdl, hcE, compF, if_pos h] at hc; cases hc)
    have hpos := (chkF_zero.1 (CanF.compF h0).chk).pos
    rw [← hcE] at hpos
    have hget : (depL c c.length).getD (c.length - 1) 0 = depF f := by
      rw [depL_get (by omega), ← topT_treeAt, depF, if_pos h0, hcE, topT_comp h0]
    obtain ⟨b, rfl⟩ : ∃ b, q = some b := by
      cases q with
      | none => have := (hq rfl).1; omega
      | some b => exact ⟨b, rfl⟩
    refine gK (gS (gR ?_))
    iterate 2 refine gMv ?_
    refine gBl Tryz.underlying49 ?_
    refine GoH.v (Vop.bin rfl rfl rfl rfl (bSub (by omega)) rfl) ?_
    refine GoH.v (Vop.idxS rfl rfl rfl rfl rfl Tryz.underlying49 Tryz.sizeOf3 (c.length - 1) ⟨(by rw [hdl]; omega), (by rw [hdl]; omega)⟩) ?_
    refine GoH.v (Vop.ldE I64 0 rfl rfl rfl rfl Tryz.isAgg3 0 rfl (by rw [hdl]; omega)) ?_
    refine gAs ?_
    refine gE ?_
    refine GoH.ret Tryz.f14 Tryz.func14 rfl (fun w' hS => ?_)
    exact ⟨hS.ext, by rw [← hget]; rfl⟩
end Go.Proofs.YtcljmlnnfdaljaaGreatDoor
namespace Go.Proofs.YtcljmlnnfdaljaaGreatDoor
open Go.RowKit Go.Proofs.Wit
/-! the laws DistinguishDepths, Formulas, Classes -/
theorem depths_c (m : MV) (v x : Int) (w : World) (hT : Tab w) (hm : m.At w) : Cn Tryz.prog 3 [m.v, .int .i64 v, .int .i64 x] w (fun u _ => u = .bool true) := by
  refine Cn.of Tryz.func3 rfl rfl ?_
  refine gS (gR ?_)
  refine GoH.bx rfl rfl rfl rfl (fun b3 => ?_)
  refine gAs ?_
  refine gE (gS (gS (gR ?_)))
  refine GoH.v (Vop.ldB rfl rfl rfl rfl Tryz.isAgg25 0 rfl Tryz.sizeOf25 rfl) ?_
  refine GoH.callM _ rfl rfl rfl rfl rfl (fun _ _ => Tryz.call8 _ _) (fun w _ hS => few2_c m 14 w (hm.ex0 hS.ext)) ?_
  rintro u w1 w2 Y' hS he ⟨y1, rfl, _⟩
  refine ⟨_, hS.later he, ?_⟩
  refine gUn uNot ?_
  refine gE ?_
  refine GoH.cond rfl (fun hc => ?_) (fun hc => ?_)
  ·
   refine gS (gR ?_)
   refine GoH.callP rfl rfl rfl rfl rfl (fun _ _ => Tryz.call9 _ _) (fun w _ hS => awake21_c w (hT.ex hS.ext)) ?_
   refine gAs ?_
   refine gE ?_
   refine GoH.ret Tryz.f3 Tryz.func3 rfl (fun w' hS => ?_)
   exact ⟨hS.ext, rfl⟩
  ·
   refine gK (gS (gR ?_))
   refine GoH.v (Vop.ldB rfl rfl rfl rfl Tryz.isAgg25 0 rfl Tryz.sizeOf25 rfl) ?_
   iterate 2 refine gMv ?_
   refine GoH.callP rfl rfl rfl rfl rfl (fun _ _ => Tryz.call10 _ _) (fun w _ hS => (by exact dDepth_c m v x w (hT.ex hS.ext) (hm.ex0 hS.ext))) ?_
   refine gMv ?_
   iterate 2 refine gEx ?_
   iterate 2 refine gAs ?_
   refine gE (gS (gR ?_))
   refine GoH.v (Vop.ldB rfl rfl rfl rfl Tryz.isAgg25 0 rfl Tryz.sizeOf25 rfl) ?_
   iterate 2 refine gMv ?_
   refine GoH.callP rfl rfl rfl rfl rfl (fun _ _ => Tryz.call11 _ _) (fun w _ hS => (by exact rDepth21_c m v x w (hT.ex hS.ext) (hm.ex0 hS.ext))) ?_
   refine gMv ?_
   iterate 2 refine gEx ?_
   iterate 2 refine gAs ?_
   refine gE (gS (gR ?_))
   iterate 2 refine gMv ?_
   refine GoH.v (Vop.bin rfl rfl rfl rfl (bEqV (v := true) (by simp)) rfl) ?_
   iterate 3 refine gMv ?_
   refine GoH.v (Vop.bin rfl rfl rfl rfl (bEqV (v := true) (by simp)) rfl) ?_
   refine gPt ?_
   refine gMv ?_
   refine GoH.callP rfl rfl rfl rfl rfl (fun _ _ => Tryz.call9 _ _) (fun w _ hS => awake21_c w (hT.ex hS.ext)) ?_
   refine gPt ?_
   refine gAs ?_
   refine gE ?_
   refine GoH.ret Tryz.f3 Tryz.func3 rfl (fun w' hS => ?_)
   exact ⟨hS.ext, rfl⟩
theorem FormP.bad {m : MV} {v x : Int} {f : List NV} {e : Int} (h : FormP m v x f e) (he : e ≠ 0) : f = [] ∧ (e = (dpD m v x).2 ∨ (e = 8 ∧ (dpD m v x).2 = 0 ∧ 5 < m.n)) := by
  rcases h with h | h | h
  · exact ⟨h.2.1, .inl h.2.2⟩
  · exact ⟨h.2.1, .inr ⟨h.2.2.1, h.1, h.2.2.2⟩⟩
  · exact absurd h.2.1 he
theorem FormP.len {m : MV} {v x : Int} {f : List NV} {e : Int} (h : FormP m v x f e) : f.length ≤ maxLen := by
  unfold maxLen
  rcases h with h | h | ⟨_, _, _, k, t, _, _, h⟩
  · rw [h.2.1]; simp
  · rw [h.2.1]; simp
  · have := bT_le t; rw [h]; omega
theorem FormP.good {m : MV} {v x : Int} {f : List NV} (h : FormP m v x f 0) : ∃ (n v' x' k : Nat) (t : Tr), m.n = (n : Int) ∧ v = (v' : Int) ∧ x = (x' : Int) ∧ dpD m v x = ((k : Int), 0) ∧ PlnF n m.val m.rel f t ∧ TellT n m.val m.rel v' x' k t ∧ depT t = k := by
  rcases h with h | h | ⟨h0, _, hne, k, t, hk, ht, hf⟩
  · exact absurd h.2.2.symm h.1
  · exact absurd h.2.2.1 (by decide)
  · have h1 : chkD m [v, x] = 0 := Classical.byContradiction (fun h => by rw [dpD, if_pos h] at h0; exact h h0)
    obtain ⟨hv, hys⟩ := chkD_zero.1 h1
    have hn1 := hv.n1
    have hv0 := hys v (by simp)
    have hx0 := hys x (by simp)
    have hvN : ValM (m.n.toNat : Int) m.val m.rel := by rw [Int.toNat_of_nonneg (by omega)]; exact hv
    refine ⟨m.n.toNat, v.toNat, x.toNat, k, t, by omega, by omega, by omega, ?_, PlnF.of hvN ht.ok ht.pl hf hne, ht, ht.deep hvN (by omega) (by omega) hk⟩
    rw [dpD_val h1, hk]; rfl
set_option maxRecDepth 8000 in
theorem formulas_c (m : MV) (v x : Int) (w : World) (hT : Tab w) (hm : m.At w) : Cn Tryz.prog 4 [m.v, .int .i64 v, .int .i64 x] w (fun u _ => u = .bool true) := by
  refine Cn.of Tryz.func4 rfl rfl ?_
  refine gS (gR ?_)
  refine GoH.bx rfl rfl rfl rfl (fun b3 => ?_)
  refine gAs ?_
  refine gE (gS (gS (gR ?_)))
  refine GoH.v (Vop.ldB rfl rfl rfl rfl Tryz.isAgg25 0 rfl Tryz.sizeOf25 rfl) ?_
  refine GoH.callM _ rfl rfl rfl rfl rfl (fun _ _ => Tryz.call8 _ _) (fun w _ hS => few2_c m 8 w (hm.ex0 hS.ext)) ?_
  rintro u w1 w2 Y' hS he ⟨y1, rfl, _⟩
  refine ⟨_, hS.later he, ?_⟩
  refine gUn uNot ?_
  refine gE ?_
  refine GoH.cond rfl (fun hc => ?_) (fun hc => ?_)
  ·
   refine gS (gR ?_)
   refine GoH.callP rfl rfl rfl rfl rfl (fun _ _ => Tryz.call9 _ _) (fun w _ hS => awake21_c w (hT.ex hS.ext)) ?_
   refine gAs ?_
   refine gE ?_
   refine GoH.ret Tryz.f4 Tryz.func4 rfl (fun w' hS => ?_)
   exact ⟨hS.ext, rfl⟩
  ·
   refine gK (gS (gR ?_))
   refine GoH.v (Vop.ldB rfl rfl rfl rfl Tryz.isAgg25 0 rfl Tryz.sizeOf25 rfl) ?_
   iterate 2 refine gMv ?_
   refine GoH.callM _ rfl rfl rfl rfl rfl (fun _ _ => Tryz.call12 _ _) (fun w _ hS => (by exact dFormula_c m v x w (hT.ex hS.ext) (hm.ex0 hS.ext))) ?_
   rintro u w1 w2 Y' hS he ⟨sv, f, e, rfl, ho, hF⟩
   obtain ⟨q, cap, sp, rfl, hq, hcap, hS'⟩ := gainN hS he ho
   have hfl := hF.len
   refine ⟨_, hS', ?_⟩
   refine gMv ?_
   iterate 2 refine gEx ?_
   iterate 2 refine gAs ?_
   refine gE (gS (gR ?_))
   refine GoH.v (Vop.ldB rfl rfl rfl rfl Tryz.isAgg25 1 rfl Tryz.sizeOf25 rfl) ?_
   iterate 2 refine gMv ?_
   refine GoH.callP rfl rfl rfl rfl rfl (fun _ _ => Tryz.call11 _ _) (fun w _ hS => (by exact rDepth21_c m v x w (hT.ex hS.ext) (hm.ex0 hS.ext))) ?_
   refine gMv ?_
   iterate 2 refine gEx ?_
   iterate 2 refine gAs ?_
   refine gE (gS (gS (gR ?_)))
   refine gMv ?_
   refine gBi bNe ?_
   refine gE ?_
   refine GoH.cond rfl (fun hc => ?_) (fun hc => ?_)
   ·
    obtain ⟨rfl, hor⟩ := hF.bad (by simpa using hc)
    refine gS (gR ?_)
    refine gMv ?_
    refine gBl Tryz.underlying31 ?_
    refine GoH.v (Vop.bin rfl rfl rfl rfl (bEqV (v := true) rfl) rfl) ?_
    iterate 3 refine gMv ?_
    refine gBi bEq ?_
    refine gMv ?_
    refine GoH.cases (d := 40) rfl (fun hc => ?_) (fun hc => ?_)
    ·
     iterate 11 refine gNo ?_
     iterate 2 refine gPt ?_
     refine gMv ?_
     refine GoH.callP rfl rfl rfl rfl rfl (fun _ _ => Tryz.call9 _ _) (fun w _ hS => awake21_c w (hT.ex hS.ext)) ?_
     refine gPt ?_
     refine gAs ?_
     refine gE ?_
     refine GoH.ret Tryz.f4 Tryz.func4 rfl (fun w' hS => ?_)
     exact ⟨hS.ext, rfl⟩
    ·
     have hne : e ≠ (dpD m v x).2 := by simpa using hc
     obtain ⟨rfl, h0, h5⟩ := hor.resolve_left hne
     refine gMv ?_
     refine GoH.v (Vop.bin rfl rfl rfl rfl (bEqV (v := true) rfl) rfl) ?_
     iterate 2 refine gMv ?_
     refine GoH.v (Vop.bin rfl rfl rfl rfl (bEqV (v := true) (by rw [h0]; rfl)) rfl) ?_
     refine gPt ?_
     refine gMv ?_
     refine gFp Tryz.underlying25 Tryz.sizeOf3 0 ?_
     refine GoH.v (Vop.ldo (v := .int .i64 m.n) rfl rfl rfl rfl Tryz.isAgg3 1 rfl rfl) ?_
     refine GoH.v (Vop.bin rfl rfl rfl rfl (bGtV (v := true) (decide_eq_true (by omega))) rfl) ?_
     refine gPt ?_
     refine gPf ?_
     refine gPt ?_
     refine gMv ?_
     refine GoH.callP rfl rfl rfl rfl rfl (fun _ _ => Tryz.call9 _ _) (fun w _ hS => awake21_c w (hT.ex hS.ext)) ?_
     refine gPt ?_
     refine gAs ?_
     refine gE ?_
     refine GoH.ret Tryz.f4 Tryz.func4 rfl (fun w' hS => ?_)
     exact ⟨hS.ext, rfl⟩
   ·
    have he0 : e = 0 := by simpa using hc
    subst he0
    obtain ⟨n, v, x, k, t, hn, rfl, rfl, hdp, hp, ht, hdt⟩ := hF.good
    obtain ⟨hS1, hE1⟩ := holdS_of hp hn
    have hdf : depF f = (k : Int) := by rw [depF, if_pos hp.chk, hp.top, hdt]
    rw [hdp]
    refine gK (gS (gS (gR ?_)))
    refine gMv ?_
    refine GoH.v (Vop.bin rfl rfl rfl rfl (bNeV (v := false) rfl) rfl) ?_
    refine gMv ?_
    refine GoH.v (Vop.ldB rfl rfl rfl rfl Tryz.isAgg25 1 rfl Tryz.sizeOf25 rfl) ?_
    refine gMv ?_
    refine GoH.callP rfl rfl rfl rfl rfl (fun _ _ => Tryz.call13 _ _) (fun w _ hS => (by have := plain_c m (q.map (fun b => ⟨b, 0, none⟩)) cap f w (hm.ex0 hS.ext) (faAt hS 0 rfl (fun e => (hq e).1)) hfl; rw [plB_of hp] at this; exact this)) ?_
    refine gUn uNot ?_
    refine gPf ?_
    iterate 2 refine gMv ?_
    refine GoH.callP rfl rfl rfl rfl rfl (fun _ _ => Tryz.call14 _ _) (fun w _ hS => (by have := rdepth05_c (q.map (fun b => ⟨b, 0, none⟩)) cap f w (faAt hS 0 rfl (fun e => (hq e).1)) hfl; rw [hdf] at this; exact this)) ?_
    refine gMv ?_
    refine GoH.v (Vop.bin rfl rfl rfl rfl (bNeV (v := false) (by simp)) rfl) ?_
    refine gPf ?_
    refine gE (GoH.condF rfl (gK (gS (gR ?_))))
    refine GoH.v (Vop.ldB rfl rfl rfl rfl Tryz.isAgg25 1 rfl Tryz.sizeOf25 rfl) ?_
    refine gMv ?_
    refine GoH.callP rfl rfl rfl rfl rfl (fun _ _ => Tryz.call15 _ _) (fun w _ hS => (by have := wHolds_c m n (q.map (fun b => ⟨b, 0, none⟩)) cap f w (hm.ex0 hS.ext) hn (faAt hS 0 rfl (fun e => (hq e).1)) hfl; rw [hS1, hE1] at this; exact this)) ?_
    refine gMv ?_
    iterate 2 refine gEx ?_
    iterate 2 refine gAs ?_
    refine gE (gS (gR ?_))
    refine gMv ?_
    refine GoH.v (Vop.bin rfl rfl rfl rfl (bEqV (v := true) rfl) rfl) ?_
    iterate 3 refine gMv ?_
    refine GoH.v (Vop.bin rfl rfl rfl rfl (bShr v rfl) rfl) ?_
    refine GoH.v (Vop.bin (b := U 1#64) rfl rfl rfl rfl bAnd rfl) ?_
    refine GoH.v (Vop.bin (b := U 1#64) rfl rfl rfl rfl (bEqUV (v := true) (by rw [shr1_one ht.yes]; rfl)) rfl) ?_
    refine gPt ?_
    iterate 3 refine gMv ?_
    refine GoH.v (Vop.bin rfl rfl rfl rfl (bShr x rfl) rfl) ?_
    refine GoH.v (Vop.bin (b := U 1#64) rfl rfl rfl rfl bAnd rfl) ?_
    refine GoH.v (Vop.bin (b := U 0#64) rfl rfl rfl rfl (bEqUV (v := true) (by rw [shr1_zero ht.no]; rfl)) rfl) ?_
    refine gPt ?_
    refine gMv ?_
    refine GoH.callP rfl rfl rfl rfl rfl (fun _ _ => Tryz.call9 _ _) (fun w _ hS => awake21_c w (hT.ex hS.ext)) ?_
    refine gPt ?_
    refine gAs ?_
    refine gE ?_
    refine GoH.ret Tryz.f4 Tryz.func4 rfl (fun w' hS => ?_)
    exact ⟨hS.ext, rfl⟩
theorem CharP.bad {m : MV} {x j : Int} {f : List NV} {e : Int} (h : CharP m x j f e) (he : e ≠ 0) : f = [] ∧ (e = clE m x j ∨ (e = 8 ∧ clE m x j = 0 ∧ 5 < m.n)) := by
  rcases h with h | h | h | h
  · exact ⟨h.2.1, .inl (by rw [h.2.2, clE, if_pos h.1])⟩
  · exact ⟨h.2.2.1, .inl (by rw [h.2.2.2, clE, if_neg (by simp [h.1]), if_pos h.2.1])⟩
  · exact ⟨h.2.2.1, .inr ⟨h.2.2.2.1, by rw [clE, if_neg (by simp [h.1]), if_neg (by omega)], h.2.2.2.2⟩⟩
  · exact absurd h.2.2.1 he
theorem CharP.len {m : MV} {x j : Int} {f : List NV} {e : Int} (h : CharP m x j f e) : f.length ≤ maxLen := by
  unfold maxLen
  rcases h with h | h | h | ⟨_, _, _, _, k, ts, _, _, h⟩
  · rw [h.2.1]; simp
  · rw [h.2.2.1]; simp
  · rw [h.2.2.1]; simp
  · have := bT_le (conjT ts); rw [h]; omega
theorem CharP.good {m : MV} {x j : Int} {f : List NV} (h : CharP m x j f 0) : ∃ (n : Nat) (t : Tr), m.n = (n : Int) ∧ PlnF n m.val m.rel f t ∧ semT n m.val m.rel t = clS m x j ∧ clE m x j = 0 ∧ (depT t : Int) ≤ j := by
  rcases h with h | h | h | ⟨h1, hj, _, hne, k, ts, hk, hts, hf⟩
  · exact absurd h.2.2.symm h.1
  · exact absurd h.2.2.2 (by decide)
  · exact absurd h.2.2.2.1 (by decide)
  · obtain ⟨hv, hys⟩ := chkD_zero.1 h1
    have hn1 := hv.n1
    have hn64 := hv.n64
    have hx0 := hys x (by simp)
    have hvN : ValM (m.n.toNat : Int) m.val m.rel := by rw [Int.toNat_of_nonneg (by omega)]; exact hv
    have hE : clE m x j = 0 := by rw [clE, if_neg (by simp [h1]), if_neg (by omega)]
    have hdp : depT (conjT ts) ≤ k := conj_dep (fun t ht => by obtain ⟨_, _, j, hj, _, h5⟩ := hts.mem t ht; exact Nat.le_trans h5.dp hj)
    refine ⟨m.n.toNat, conjT ts, by omega, PlnF.of hvN (conjT_ok hts.ok) (conj_pln (fun t ht => by obtain ⟨_, _, _, _, _, h5⟩ := hts.mem t ht; exact h5.pl)) hf hne, ?_, hE, by omega⟩
    rw [clS, if_pos hE, char_set hvN (by omega) hts, hk, psq_min (by omega) (by omega)]
set_option maxRecDepth 8000 in
theorem classes_c (m : MV) (x j : Int) (w : World) (hT : Tab w) (hm : m.At w) : Cn Tryz.prog 5 [m.v, .int .i64 x, .int .i64 j] w (fun u _ => u = .bool true) := by
  refine Cn.of Tryz.func5 rfl rfl ?_
  refine gS (gR ?_)
  refine GoH.bx rfl rfl rfl rfl (fun b3 => ?_)
  refine gAs ?_
  refine gE (gS (gS (gR ?_)))
  refine GoH.v (Vop.ldB rfl rfl rfl rfl Tryz.isAgg25 0 rfl Tryz.sizeOf25 rfl) ?_
  refine GoH.callM _ rfl rfl rfl rfl rfl (fun _ _ => Tryz.call8 _ _) (fun w _ hS => few2_c m 8 w (hm.ex0 hS.ext)) ?_
  rintro u w1 w2 Y' hS he ⟨y1, rfl, _⟩
  refine ⟨_, hS.later he, ?_⟩
  refine gUn uNot ?_
  refine gE ?_
  refine GoH.cond rfl (fun hc => ?_) (fun hc => ?_)
  ·
   refine gS (gR ?_)
   refine GoH.callP rfl rfl rfl rfl rfl (fun _ _ => Tryz.call9 _ _) (fun w _ hS => awake21_c w (hT.ex hS.ext)) ?_
   refine gAs ?_
   refine gE ?_
   refine GoH.ret Tryz.f5 Tryz.func5 rfl (fun w' hS => ?_)
   exact ⟨hS.ext, rfl⟩
  ·
   refine gK (gS (gR ?_))
   refine GoH.v (Vop.ldB rfl rfl rfl rfl Tryz.isAgg25 0 rfl Tryz.sizeOf25 rfl) ?_
   iterate 2 refine gMv ?_
   refine GoH.callM _ rfl rfl rfl rfl rfl (fun _ _ => Tryz.call16 _ _) (fun w _ hS => (by exact dChar_c m x j w (hT.ex hS.ext) (hm.ex0 hS.ext))) ?_
   rintro u w1 w2 Y' hS he ⟨sv, f, e, rfl, ho, hF⟩
   obtain ⟨q, cap, sp, rfl, hq, hcap, hS'⟩ := gainN hS he ho
   have hfl := hF.len
   refine ⟨_, hS', ?_⟩
   refine gMv ?_
   iterate 2 refine gEx ?_
   iterate 2 refine gAs ?_
   refine gE (gS (gR ?_))
   refine GoH.v (Vop.ldB rfl rfl rfl rfl Tryz.isAgg25 1 rfl Tryz.sizeOf25 rfl) ?_
   iterate 2 refine gMv ?_
   refine GoH.callP rfl rfl rfl rfl rfl (fun _ _ => Tryz.call17 _ _) (fun w _ hS => (by exact rClass_c m x j w (hT.ex hS.ext) (hm.ex0 hS.ext))) ?_
   refine gMv ?_
   iterate 2 refine gEx ?_
   iterate 2 refine gAs ?_
   refine gE (gS (gS (gR ?_)))
   refine gMv ?_
   refine gBi bNe ?_
   refine gE ?_
   refine GoH.cond rfl (fun hc => ?_) (fun hc => ?_)
   ·
    obtain ⟨rfl, hor⟩ := hF.bad (by simpa using hc)
    refine gS (gR ?_)
    refine gMv ?_
    refine gBl Tryz.underlying31 ?_
    refine GoH.v (Vop.bin rfl rfl rfl rfl (bEqV (v := true) rfl) rfl) ?_
    iterate 3 refine gMv ?_
    refine gBi bEq ?_
    refine gMv ?_
    refine GoH.cases (d := 40) rfl (fun hc => ?_) (fun hc => ?_)
    ·
     iterate 11 refine gNo ?_
     iterate 2 refine gPt ?_
     refine gMv ?_
     refine GoH.callP rfl rfl rfl rfl rfl (fun _ _ => Tryz.call9 _ _) (fun w _ hS => awake21_c w (hT.ex hS.ext)) ?_
     refine gPt ?_
     refine gAs ?_
     refine gE ?_
     refine GoH.ret Tryz.f5 Tryz.func5 rfl (fun w' hS => ?_)
     exact ⟨hS.ext, rfl⟩
    ·
     have hne : e ≠ clE m x j := by simpa using hc
     obtain ⟨rfl, h0, h5⟩ := hor.resolve_left hne
     refine gMv ?_
     refine GoH.v (Vop.bin rfl rfl rfl rfl (bEqV (v := true) rfl) rfl) ?_
     iterate 2 refine gMv ?_
     refine GoH.v (Vop.bin rfl rfl rfl rfl (bEqV (v := true) (by rw [h0]; rfl)) rfl) ?_
     refine gPt ?_
     refine gMv ?_
     refine gFp Tryz.underlying25 Tryz.sizeOf3 0 ?_
     refine GoH.v (Vop.ldo (v := .int .i64 m.n) rfl rfl rfl rfl Tryz.isAgg3 1 rfl rfl) ?_
     refine GoH.v (Vop.bin rfl rfl rfl rfl (bGtV (v := true) (decide_eq_true (by omega))) rfl) ?_
     refine gPt ?_
     refine gPf ?_
     refine gPt ?_
     refine gMv ?_
     refine GoH.callP rfl rfl rfl rfl rfl (fun _ _ => Tryz.call9 _ _) (fun w _ hS => awake21_c w (hT.ex hS.ext)) ?_
     refine gPt ?_
     refine gAs ?_
     refine gE ?_
     refine GoH.ret Tryz.f5 Tryz.func5 rfl (fun w' hS => ?_)
     exact ⟨hS.ext, rfl⟩
   ·
    have he0 : e = 0 := by simpa using hc
    subst he0
    obtain ⟨n, t, hn, hp, hsem, hE, hdt⟩ := hF.good
    obtain ⟨hS1, hE1⟩ := holdS_of hp hn
    have hdf : depF f = (depT t : Int) := by rw [depF, if_pos hp.chk, hp.top]
    rw [hE]
    refine gK (gS (gS (gR ?_)))
    refine gMv ?_
    refine GoH.v (Vop.bin rfl rfl rfl rfl (bNeV (v := false) rfl) rfl) ?_
    refine gMv ?_
    refine GoH.v (Vop.ldB rfl rfl rfl rfl Tryz.isAgg25 1 rfl Tryz.sizeOf25 rfl) ?_
    refine gMv ?_
    refine GoH.callP rfl rfl rfl rfl rfl (fun _ _ => Tryz.call13 _ _) (fun w _ hS => (by have := plain_c m (q.map (fun b => ⟨b, 0, none⟩)) cap f w (hm.ex0 hS.ext) (faAt hS 0 rfl (fun e => (hq e).1)) hfl; rw [plB_of hp] at this; exact this)) ?_
    refine gUn uNot ?_
    refine gPf ?_
    iterate 2 refine gMv ?_
    refine GoH.callP rfl rfl rfl rfl rfl (fun _ _ => Tryz.call14 _ _) (fun w _ hS => (by have := rdepth05_c (q.map (fun b => ⟨b, 0, none⟩)) cap f w (faAt hS 0 rfl (fun e => (hq e).1)) hfl; rw [hdf] at this; exact this)) ?_
    refine gMv ?_
    refine GoH.v (Vop.bin rfl rfl rfl rfl (bGtV (v := false) (decide_eq_false (by omega))) rfl) ?_
    refine gPf ?_
    refine gE (GoH.condF rfl (gK (gS (gR ?_))))
    refine GoH.v (Vop.ldB rfl rfl rfl rfl Tryz.isAgg25 1 rfl Tryz.sizeOf25 rfl) ?_
    refine gMv ?_
    refine GoH.callP rfl rfl rfl rfl rfl (fun _ _ => Tryz.call15 _ _) (fun w _ hS => (by have := wHolds_c m n (q.map (fun b => ⟨b, 0, none⟩)) cap f w (hm.ex0 hS.ext) hn (faAt hS 0 rfl (fun e => (hq e).1)) hfl; rw [hS1, hE1, hsem] at this; exact this)) ?_
    refine gMv ?_
    iterate 2 refine gEx ?_
    iterate 2 refine gAs ?_
    refine gE (gS (gR ?_))
    refine gMv ?_
    refine GoH.v (Vop.bin rfl rfl rfl rfl (bEqV (v := true) rfl) rfl) ?_
    iterate 3 refine gMv ?_
    refine GoH.v (Vop.bin rfl rfl rfl rfl (bEqUV (v := true) (by simp)) rfl) ?_
    refine gPt ?_
    refine gMv ?_
    refine GoH.callP rfl rfl rfl rfl rfl (fun _ _ => Tryz.call9 _ _) (fun w _ hS => awake21_c w (hT.ex hS.ext)) ?_
    refine gPt ?_
    refine gAs ?_
    refine gE ?_
    refine GoH.ret Tryz.f5 Tryz.func5 rfl (fun w' hS => ?_)
    exact ⟨hS.ext, rfl⟩
end Go.Proofs.YtcljmlnnfdaljaaGreatDoor
namespace Go.Proofs.YtcljmlnnfdaljaaGreatDoor
open Go.RowKit Go.Proofs.Wit
/-! the law DistinguishLeast -/
theorem plB_tree {m : MV} {f : List NV} (hv : ValM m.n m.val m.rel) (h : plB f m.rel.length m.val.length = true) : (topT f).ok ∧ Pln m.rel.length m.val.length (topT f) ∧ chkF f = 0 ∧ holdE m.n m.val m.rel f = 0 := by
  simp only [plB, Bool.and_eq_true, beq_iff_eq] at h
  obtain ⟨h1, h2, h3⟩ := h
  have hok := (chkF_zero.1 h1).top
  obtain ⟨_, hfit⟩ := fitB_iff.1 h2
  have h3' : andN (frgL (compF f)) 1 = 0 := by omega
  rw [compF_eq h1] at h3'
  have h10 := (frg_has hok frO_1).1 h3'
  have hst := allL_and (allL_and (h10.mono (q' := fun op _ _ => op ≤ 13) (fun _ _ _ h => by omega)) hfit) h10
  have hp : Pln m.rel.length m.val.length (topT f) := hst.mono (fun _ _ _ h => ⟨⟨h.1.1, h.1.2⟩, h.2⟩)
  exact ⟨hok, hp, h1, holdE_zero.2 ⟨hv, h1, hp.mono (fun _ _ _ h => h.1)⟩⟩
set_option maxRecDepth 8000 in
theorem least_c (m : MV) (a : Option Addr) (ca : Nat) (f : List NV) (x : Int) (w : World) (hT : Tab w) (hm : m.At w) (ha : FA w a f) (hl : f.length ≤ maxLen) : Cn Tryz.prog 6 [m.v, .slice a f.length ca, .int .i64 x] w (fun u _ => u = .bool true) := by
  refine Cn.of Tryz.func6 rfl rfl ?_
  refine gS (gR ?_)
  refine GoH.bx rfl rfl rfl rfl (fun b3 => ?_)
  refine gAs ?_
  refine gE (gS (gS ?_))
  refine GoH.regionK (α := {b : Bool // b = false → ValM m.n m.val m.rel ∧ plB f m.rel.length m.val.length = true ∧ 0 ≤ x ∧ x < m.n}) [] (fun b => [(1, .slice a f.length ca), (2, .int .i64 x), (3, .pointer (some ⟨b3, 0, none⟩)), (40, .bool b.1)]) (fun _ => [(some b3, .cells m.v.cells 25 (0, 0))]) (fun b => ?_) (fun K => ?_)
  · -- what comes behind the region
   refine gE ?_
   refine GoH.cond rfl (fun hc => ?_) (fun hc => ?_)
   ·
    refine gS (gR ?_)
    refine GoH.callP rfl rfl rfl rfl rfl (fun _ _ => Tryz.call9 _ _) (fun w _ hS => awake21_c w (hT.ex hS.ext)) ?_
    refine gAs ?_
    refine gE ?_
    refine GoH.ret Tryz.f6 Tryz.func6 rfl (fun w' hS => ?_)
    exact ⟨hS.ext, rfl⟩
   ·
    obtain ⟨hv, hpl, hx0⟩ := b.2 hc
    have hn1 := hv.n1
    have hn64 := hv.n64
    obtain ⟨n, hn⟩ : ∃ n : Nat, m.n = (n : Int) := ⟨m.n.toNat, by omega⟩
    obtain ⟨x, rfl⟩ : ∃ n : Nat, x = (n : Int) := ⟨x.toNat, by omega⟩
    have hvN : ValM (n : Int) m.val m.rel := by rw [← hn]; exact hv
    obtain ⟨hok, hp, hck, hE⟩ := plB_tree hv hpl
    have hHS : holdS m n f = semT n m.val m.rel (topT f) := if_pos hE
    have hdf : depF f = (depT (topT f) : Int) := if_pos hck
    refine gK (gS (gR ?_))
    refine GoH.v (Vop.ldB rfl rfl rfl rfl Tryz.isAgg25 0 rfl Tryz.sizeOf25 rfl) ?_
    refine gMv ?_
    refine GoH.callP rfl rfl rfl rfl rfl (fun _ _ => Tryz.call15 _ _) (fun w _ hS => (by have := wHolds_c m n a ca f w (hm.ex0 hS.ext) hn (ha.ex0 hS.ext) hl; rw [hHS, hE] at this; exact this)) ?_
    refine gMv ?_
    iterate 2 refine gEx ?_
    iterate 2 refine gAs ?_
    refine gE (gS (gS (gR ?_)))
    refine gMv ?_
    refine GoH.v (Vop.bin rfl rfl rfl rfl (bNeV (v := false) rfl) rfl) ?_
    refine gE (GoH.condF rfl (gK (gS (gS (gR ?_)))))
    refine gFp Tryz.underlying25 Tryz.sizeOf3 0 ?_
    refine GoH.v (Vop.ldo (v := .int .i64 m.n) rfl rfl rfl rfl Tryz.isAgg3 0 rfl rfl) ?_
    refine gMv ?_
    refine gE (gB ?_)
    refine GoH.loop (σ := Nat) (fun k => [(1, .slice a f.length ca), (2, .int .i64 x), (3, .pointer (some ⟨b3, 0, none⟩)), (7, U (semT n m.val m.rel (topT f))), (52, .int .i64 n), (53, .int .i64 k)]) (fun _ => [(some b3, .cells m.v.cells 25 (0, 0))]) (fun k => k ≤ n) (fun k => n - k) 0 (Nat.zero_le _) ⟨rfl, rfl, rfl, rfl, by show some (Value.int IntKind.i64 m.n) = _; rw [hn], rfl, trivial⟩ (List.Sublist.refl _) (fun k hk IH => ?_)
    refine gS (gR ?_)
    refine gBi bLt ?_
    refine gE (gS ?_)
    refine GoH.cond rfl (fun hc => ?_) (fun hc => ?_)
    ·
     have hlt : k < n := by simpa using hc
     have hck2 : chkD m [(k : Int), (x : Int)] = 0 := chkD_zero.2 ⟨hv, fun y hy => by
       simp only [List.mem_cons, List.not_mem_nil, or_false] at hy
       rcases hy with rfl | rfl
       · omega
       · exact hx0⟩
     have hdp : dpD m (k : Int) (x : Int) = optR (dst n m.val m.rel k x) := by rw [dpD_val hck2, hn]; rfl
     have hbit := dep_least hvN hok hp hlt (x := x) (by omega)
     refine gK (gS (gB (gS (gR ?_))))
     refine gMv ?_
     refine gAs ?_
     refine gE (gS (gR ?_))
     refine GoH.v (Vop.ldB rfl rfl rfl rfl Tryz.isAgg25 0 rfl Tryz.sizeOf25 rfl) ?_
     iterate 2 refine gMv ?_
     refine GoH.callP rfl rfl rfl rfl rfl (fun _ _ => Tryz.call10 _ _) (fun w _ hS => (by have := dDepth_c m k x w (hT.ex hS.ext) (hm.ex0 hS.ext); rw [hdp] at this; exact this)) ?_
     refine gMv ?_
     iterate 2 refine gEx ?_
     iterate 2 refine gAs ?_
     refine gE (gS (gS (gR ?_)))
     refine gMv ?_
     refine gBi bNe ?_
     refine gMv ?_
     refine GoH.cases (d := 65) rfl (fun hc => ?_) (fun hc => ?_)
     ·
      have hd : dst n m.val m.rel k x = none := by
        cases h : dst n m.val m.rel k x with
        | none => rfl
        | some i => rw [h] at hc; exact absurd hc (by simp [optR])
      have hbit2 := hbit (fun i e => by rw [hd] at e; cases e)
      rw [hd]
      refine gMv ?_
      refine GoH.v (Vop.bin rfl rfl rfl rfl (bNeV (v := false) rfl) rfl) ?_
      refine gPt ?_
      refine gE (GoH.condF rfl (gK (gS ?_)))
      refine GoH.draw 19 mixed rfl ?_
      refine rMv ?_
      refine RdGo.v (Vop.bin rfl rfl rfl rfl (bEqV (v := true) rfl) rfl) ?_
      refine rMv ?_
      iterate 4 refine rNo ?_
      refine rPt ?_
      iterate 3 refine rMv ?_
      refine RdGo.v (Vop.bin rfl rfl rfl rfl (bShr k rfl) rfl) ?_
      refine RdGo.v (Vop.bin (b := U 1#64) rfl rfl rfl rfl bAnd rfl) ?_
      iterate 2 refine rMv ?_
      refine RdGo.v (Vop.bin rfl rfl rfl rfl (bShr x rfl) rfl) ?_
      refine RdGo.v (Vop.bin (b := U 1#64) rfl rfl rfl rfl bAnd rfl) ?_
      refine RdGo.v (Vop.bin rfl rfl rfl rfl (bNeUV (v := false) (by rw [shr1_ne, hbit2]; simp)) rfl) ?_
      refine rPt ?_
      refine RdGo.nil ?_
      refine gE (GoH.condF rfl (gK (gIb (gR ?_))))
      refine GoH.v (Vop.bin rfl rfl rfl rfl (bAdd (by omega)) rfl) ?_
      refine gMv ?_
      refine gE ?_
      exact IH (k + 1) _ _ hlt (by omega) ⟨rfl, rfl, rfl, rfl, rfl, rfl, trivial⟩ (List.Sublist.refl _)
     ·
      obtain ⟨i, hd⟩ : ∃ i, dst n m.val m.rel k x = some i := by
        cases h : dst n m.val m.rel k x with
        | none => rw [h] at hc; exact absurd hc (by simp [optR])
        | some i => exact ⟨i, rfl⟩
      rw [hd]
      iterate 2 refine gNo ?_
      refine gPf ?_
      refine gE (GoH.condF rfl (gK (gS ?_)))
      refine GoH.draw 19 mixed rfl ?_
      refine rMv ?_
      refine RdGo.v (Vop.bin rfl rfl rfl rfl (bEqV (v := false) rfl) rfl) ?_
      iterate 2 refine rMv ?_
      refine RdGo.callP rfl rfl rfl rfl rfl (fun _ _ => Tryz.call14 _ _) (fun w _ hS => (by have := rdepth05_c a ca f w (ha.ex0 hS.ext) hl; rw [hdf] at this; exact this)) ?_
      refine rMv ?_
      refine rBi bLt ?_
      refine rPf ?_
      refine rMv ?_
      refine RdGo.cases (d := 77) rfl (fun hc => ?_) (fun hc => ?_)
      ·
       have hdi : depT (topT f) < i := by
         have := of_decide_eq_true hc
         simp only [optR] at this
         omega
       have hbit2 := hbit (fun j e => by rw [hd] at e; rw [← Option.some.inj e]; exact hdi)
       iterate 2 refine rMv ?_
       refine RdGo.v (Vop.bin rfl rfl rfl rfl (bShr k rfl) rfl) ?_
       refine RdGo.v (Vop.bin (b := U 1#64) rfl rfl rfl rfl bAnd rfl) ?_
       iterate 2 refine rMv ?_
       refine RdGo.v (Vop.bin rfl rfl rfl rfl (bShr x rfl) rfl) ?_
       refine RdGo.v (Vop.bin (b := U 1#64) rfl rfl rfl rfl bAnd rfl) ?_
       refine RdGo.v (Vop.bin rfl rfl rfl rfl (bNeUV (v := false) (by rw [shr1_ne, hbit2]; simp)) rfl) ?_
       refine rPt ?_
       refine RdGo.nil ?_
       refine gE (GoH.condF rfl (gK (gIb (gR ?_))))
       refine GoH.v (Vop.bin rfl rfl rfl rfl (bAdd (by omega)) rfl) ?_
       refine gMv ?_
       refine gE ?_
       exact IH (k + 1) _ _ hlt (by omega) ⟨rfl, rfl, rfl, rfl, rfl, rfl, trivial⟩ (List.Sublist.refl _)
      ·
       iterate 9 refine rNo ?_
       refine rPf ?_
       refine RdGo.nil ?_
       refine gE (GoH.condF rfl (gK (gIb (gR ?_))))
       refine GoH.v (Vop.bin rfl rfl rfl rfl (bAdd (by omega)) rfl) ?_
       refine gMv ?_
       refine gE ?_
       exact IH (k + 1) _ _ hlt (by omega) ⟨rfl, rfl, rfl, rfl, rfl, rfl, trivial⟩ (List.Sublist.refl _)
    ·
     refine GoH.exit rfl (gS (gR ?_))
     refine GoH.callP rfl rfl rfl rfl rfl (fun _ _ => Tryz.call9 _ _) (fun w _ hS => awake21_c w (hT.ex hS.ext)) ?_
     refine gAs ?_
     refine gE ?_
     refine GoH.ret Tryz.f6 Tryz.func6 rfl (fun w' hS => ?_)
     exact ⟨hS.ext, rfl⟩
  · -- the region
   refine gR ?_
   refine GoH.v (Vop.ldB rfl rfl rfl rfl Tryz.isAgg25 0 rfl Tryz.sizeOf25 rfl) ?_
   refine GoH.callM _ rfl rfl rfl rfl rfl (fun _ _ => Tryz.call8 _ _) (fun w _ hS => few2_c m 10 w (hm.ex0 hS.ext)) ?_
   rintro u w1 w2 Y' hS he ⟨y1, rfl, _⟩
   refine ⟨_, hS.later he, ?_⟩
   refine gUn uNot ?_
   refine gMv ?_
   refine GoH.cases (d := 15) rfl (fun hc => ?_) (fun hc => ?_)
   ·
    iterate 3 refine gNo ?_
    refine gPt ?_
    refine gMv ?_
    iterate 3 refine gNo ?_
    refine gPt ?_
    refine gMv ?_
    iterate 4 refine gNo ?_
    refine gPt ?_
    refine gMv ?_
    iterate 2 refine gNo ?_
    refine gPt ?_
    refine gMv ?_
    iterate 4 refine gNo ?_
    refine gPt ?_
    exact K ⟨true, fun h => by cases h⟩ _ _ (by repeat (first | exact SubF.nil | refine SubF.cons rfl ?_)) (fun _ _ hS => hS)
   ·
    refine GoH.v (Vop.ldB rfl rfl rfl rfl Tryz.isAgg25 0 rfl Tryz.sizeOf25 rfl) ?_
    refine GoH.callP rfl rfl rfl rfl rfl (fun _ _ => Tryz.call18 _ _) (fun w _ hS => (by exact rmCheck_c m w (hm.ex0 hS.ext))) ?_
    refine gBi bNe ?_
    refine gPf ?_
    refine gMv ?_
    refine GoH.cases (d := 20) rfl (fun hc => ?_) (fun hc => ?_)
    ·
     iterate 3 refine gNo ?_
     refine gPt ?_
     refine gMv ?_
     iterate 4 refine gNo ?_
     refine gPt ?_
     refine gMv ?_
     iterate 2 refine gNo ?_
     refine gPt ?_
     refine gMv ?_
     iterate 4 refine gNo ?_
     refine gPt ?_
     exact K ⟨true, fun h => by cases h⟩ _ _ (by repeat (first | exact SubF.nil | refine SubF.cons rfl ?_)) (fun _ _ hS => hS)
    ·
     have h1 : checkM m.n m.val m.rel = 0 := by simpa using hc
     have hv := checkM_zero.1 h1
     refine gMv ?_
     refine GoH.callP rfl rfl rfl rfl rfl (fun _ _ => Tryz.call19 _ _) (fun w _ hS => (by exact rfew_c a ca f 24 w)) ?_
     refine gUn uNot ?_
     refine gPf ?_
     refine gMv ?_
     refine GoH.cases (d := 25) rfl (fun hc => ?_) (fun hc => ?_)
     ·
      iterate 4 refine gNo ?_
      refine gPt ?_
      refine gMv ?_
      iterate 2 refine gNo ?_
      refine gPt ?_
      refine gMv ?_
      iterate 4 refine gNo ?_
      refine gPt ?_
      exact K ⟨true, fun h => by cases h⟩ _ _ (by repeat (first | exact SubF.nil | refine SubF.cons rfl ?_)) (fun _ _ hS => hS)
     ·
      refine GoH.v (Vop.ldB rfl rfl rfl rfl Tryz.isAgg25 0 rfl Tryz.sizeOf25 rfl) ?_
      refine gMv ?_
      refine GoH.callP rfl rfl rfl rfl rfl (fun _ _ => Tryz.call13 _ _) (fun w _ hS => (by exact plain_c m a ca f w (hm.ex0 hS.ext) (ha.ex0 hS.ext) hl)) ?_
      refine gUn uNot ?_
      refine gPf ?_
      refine gMv ?_
      refine GoH.cases (d := 31) rfl (fun hc => ?_) (fun hc => ?_)
      ·
       iterate 2 refine gNo ?_
       refine gPt ?_
       refine gMv ?_
       iterate 4 refine gNo ?_
       refine gPt ?_
       exact K ⟨true, fun h => by cases h⟩ _ _ (by repeat (first | exact SubF.nil | refine SubF.cons rfl ?_)) (fun _ _ hS => hS)
      ·
       have hpl : plB f m.rel.length m.val.length = true := by simpa using hc
       refine gMv ?_
       refine gBi bLt ?_
       refine gPf ?_
       refine gMv ?_
       refine GoH.cases (d := 35) rfl (fun hc => ?_) (fun hc => ?_)
       ·
        iterate 4 refine gNo ?_
        refine gPt ?_
        exact K ⟨true, fun h => by cases h⟩ _ _ (by repeat (first | exact SubF.nil | refine SubF.cons rfl ?_)) (fun _ _ hS => hS)
       ·
        have hx0 : 0 ≤ x := by simpa using hc
        refine gMv ?_
        refine gFp Tryz.underlying25 Tryz.sizeOf3 0 ?_
        refine GoH.v (Vop.ldo (v := .int .i64 m.n) rfl rfl rfl rfl Tryz.isAgg3 0 rfl rfl) ?_
        refine gBi bGe ?_
        refine gPf ?_
        exact K ⟨decide (x ≥ m.n), fun h => ⟨hv, hpl, hx0, by simpa using h⟩⟩ _ _ (by repeat (first | exact SubF.nil | refine SubF.cons rfl ?_)) (fun _ _ hS => hS)
end Go.Proofs.YtcljmlnnfdaljaaGreatDoor
