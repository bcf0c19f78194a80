/- Laws of a calculus of walks, proved for any program: no condition beyond those that each theorem states. -/
import Derived.Test.YtoiafcoaeomnlaaDoorWref
namespace Go.Proofs.Wit
open Go Go.RowKit
/-! the examples of the chapter -/
def r0 : List W64 := [2#64, 4#64, 0#64]
theorem r0_check : checkR r0.length r0 = 0 := by decide
theorem r0_val : Val r0 := check_zero.1 r0_check
/-- what a closure gives, as it stands in the templates -/
def GrownP (F : List W64 → Prop) (r : List W64) (p : List W64 × Int) : Prop :=
  if checkR r.length r ≠ 0 then p = ([], checkR r.length r) else p.2 = 0 ∧ Least F r p.1
theorem grown_r0 {F : List W64 → Prop} {g : List W64 → List W64} (hg : GoodS g F) {c : List W64} (h1 : g r0 = c) (h2 : g c = c) {p : List W64 × Int} (h : GrownP F r0 p) : p = (c, 0) := by
  rw [GrownP, if_neg (by simp [r0_check])] at h
  obtain ⟨a, b⟩ := h
  have hl := hg.least r0_val ((hg.fix (hg.val r0_val)).1 (by rw [h1, h2]))
  rw [h1] at hl
  obtain ⟨x, y⟩ := p
  simp only at a b
  rw [a, b.uniq hl]
theorem tran_r0 {p : List W64 × Int} (h : GrownP tranR r0 p) : p = ([6#64, 4#64, 0#64], 0) := grown_r0 tran_good (by decide) (by decide) h
theorem eucl_r0 {p : List W64 × Int} (h : GrownP euclR r0 p) : p = ([2#64, 6#64, 6#64], 0) := grown_r0 eucl_good (by decide) (by decide) h
theorem symm_r0 {p : List W64 × Int} (h : GrownP symmR r0 p) : p = ([2#64, 5#64, 2#64], 0) := grown_r0 symm_good (by decide) (by decide) h
theorem path_r0 {p : List Nat} (h : PathIs r0 1#64 4#64 p) : p = [0, 1, 2] := by
  refine h.uniq ?_
  rw [PathIs, if_neg (by simp [r0_check])]
  refine .inl ⟨2, ⟨by decide, by decide, fun j h1 h2 => ?_⟩, by decide⟩
  obtain rfl : j = 1 := by omega
  decide
theorem path_r0n {p : List Nat} (h : PathIs r0 4#64 7#64 p) : p = [] := by
  refine h.uniq ?_
  rw [PathIs, if_neg (by simp [r0_check])]
  refine .inr ⟨none_of (m := 1) r0_val (by decide) (fun d hd => ?_), rfl⟩
  obtain rfl : d = 0 := by omega
  decide
theorem hasB_r0 : hasB [6#64, 4#64, 0#64] 4 = true := by
  have hc : checkR ([6#64, 4#64, 0#64] : List W64).length [6#64, 4#64, 0#64] = 0 := by decide
  rw [hasB_true]
  refine ⟨hc, ?_⟩
  show tranR _
  exact (tran_good.fix (check_zero.1 hc)).1 (by decide)
theorem comp_r0 : twoR r0 r0 = 0 := by decide
end Go.Proofs.Wit
