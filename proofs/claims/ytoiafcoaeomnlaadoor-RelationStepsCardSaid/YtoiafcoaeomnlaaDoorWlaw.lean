/- Laws of a calculus of walks, proved for any program: no condition beyond those that each theorem states. -/
import Derived.Test.YtoiafcoaeomnlaaDoorWref
namespace Go.Proofs.Wit
open Go Go.RowKit
/-! the laws that are independent of the reference -/
theorem rev_val {r : List W64} (hv : Val r) : Val (revR r) := ⟨by rw [revR_length]; exact hv.len, fun u v x => by
  have hd := x.dom
  rw [revR_length] at *
  exact ((revR_bit hv hd).1 x).dom⟩
theorem and_all_lt {r : List W64} {s : W64} (hv : Val r) {i : Nat} (h : (s &&& allW r.length).getLsbD i = true) : i < r.length := by
  rw [BitVec.getLsbD_and, Bool.and_eq_true] at h
  rw [allW_bit hv.len (bit_lt h.1)] at h
  simpa using h.2
theorem dual_box {r : List W64} {s : W64} (hv : Val r) : boxU r s r.length = allW r.length &&& ~~~(diaU r (allW r.length &&& ~~~s) r.length) := by
  refine eq_of_bits (fun i hi => ?_)
  rw [Bool.eq_iff_iff, boxU_bit hv, BitVec.getLsbD_and, allW_bit hv.len hi, BitVec.getLsbD_not, Bool.and_eq_true, Bool.and_eq_true, decide_eq_true_eq, decide_eq_true_eq, Bool.not_eq_true', ← Bool.not_eq_true, diaU_bit hv]
  constructor
  · rintro ⟨h1, h2⟩
    refine ⟨h1, hi, ?_⟩
    rintro ⟨u, h3, h4⟩
    rw [BitVec.getLsbD_and, BitVec.getLsbD_not, h2 u h3] at h4
    simp at h4
  · rintro ⟨h1, _, h2⟩
    refine ⟨h1, fun u hu => ?_⟩
    apply Classical.byContradiction
    intro hn
    apply h2
    refine ⟨u, hu, ?_⟩
    have hul := bit_lt hu
    have hn2 : s.getLsbD u = false := by rw [← Bool.not_eq_true]; exact hn
    rw [BitVec.getLsbD_and, BitVec.getLsbD_not, allW_bit hv.len hul, hn2]
    simp [hv.lt _ _ hu, hul]
theorem dual_sub {r : List W64} {s t : W64} (hv : Val r) (hs : ∀ i, s.getLsbD i = true → i < r.length) :
    (s &&& ~~~(boxU r t r.length) = 0#64) ↔ (diaU (revR r) s (revR r).length &&& ~~~t = 0#64) := by
  rw [andNot_zero, andNot_zero]
  constructor
  · intro h i hi
    obtain ⟨u, h1, h2⟩ := (diaU_bit (rev_val hv)).1 hi
    have hd := h1.dom
    rw [revR_length] at hd
    exact ((boxU_bit hv).1 (h u h2)).2 i ((revR_bit hv hd).1 h1)
  · intro h i hi
    exact (boxU_bit hv).2 ⟨hs i hi, fun u hu => h u ((diaU_bit (rev_val hv)).2 ⟨i, (revR_bit hv (hv.lt _ _ hu)).2 hu, hi⟩)⟩
theorem beq_iff {a b : W64} (h : a = 0#64 ↔ b = 0#64) : ((a == 0#64) == (b == 0#64)) = true := by
  rw [beq_iff_eq, Bool.eq_iff_iff, beq_iff_eq, beq_iff_eq]; exact h
end Go.Proofs.Wit
