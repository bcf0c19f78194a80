/- Laws of walks, for any program, under the conditions that each theorem states. -/
import Derived.Test.YtkoipdlkkchmiaaD23
namespace Go.Proofs.Wit
open Go Go.RowKit
/-! counting formulas -/
def sameB (f g : List NV) : Bool := decide (chkF f = 0 ∧ chkF g = 0 ∧ compF f = compF g)
theorem same_cf {f g : List NV} {u : Tr} (h0 : chkF f = 0) (hg : Cf g u) : sameB f g = decide (topT f = u) := by
  unfold sameB
  rw [decide_eq_decide]
  have hT := (chkF_zero.1 h0).top
  have hcg : compF g = canT u := by rw [compF_eq hg.chk, hg.top]
  constructor
  · rintro ⟨_, _, h⟩
    rw [compF_eq h0, hcg] at h
    exact canT_inj hT hg.ok h
  · intro h
    exact ⟨h0, hg.chk, by rw [compF_eq h0, hcg, h]⟩
end Go.Proofs.Wit
