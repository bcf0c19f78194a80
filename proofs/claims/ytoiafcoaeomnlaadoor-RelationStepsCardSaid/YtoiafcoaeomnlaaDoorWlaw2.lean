/- Laws of a calculus of walks, proved for any program: no condition beyond those that each theorem states. -/
import Derived.Test.YtoiafcoaeomnlaaDoorWlaw
namespace Go.Proofs.Wit
open Go Go.RowKit
def compW (r s : List W64) : List W64 := flm (fun w _ => mapR s (r.getD w 0#64)) (List.replicate r.length 0#64) r.length
theorem compW_length {r s : List W64} : (compW r s).length = r.length := by rw [compW, flm_length, List.length_replicate]
theorem compW_bit {r s : List W64} {u v : Nat} : Rl (compW r s) u v ↔ ∃ x, Rl r u x ∧ Rl s x v := by
  rcases Nat.lt_or_ge u r.length with h | h
  · have e1 : Rl (compW r s) u v ↔ (mapR s (r.getD u 0#64)).getLsbD v = true := by
      rw [Rl.toBit, compW, flm_get (by simpa using h), if_pos h]
    rw [e1, mapR_bit]; rfl
  · constructor
    · intro x; have := x.dom; rw [compW_length] at this; omega
    · rintro ⟨x, h1, _⟩; have := h1.dom; omega
theorem compW_val {r s : List W64} (hr : Val r) (hs : Val s) (hl : s.length = r.length) : Val (compW r s) := ⟨by rw [compW_length]; exact hr.len, fun u v h => by
  obtain ⟨x, _, h2⟩ := compW_bit.1 h
  rw [compW_length, ← hl]; exact hs.lt _ _ h2⟩
theorem compW_assoc {r s t : List W64} : compW (compW r s) t = compW r (compW s t) := by
  refine list_ext (by simp only [compW_length]) (fun u v => ?_)
  rw [compW_bit, compW_bit]
  constructor
  · rintro ⟨x, h1, h2⟩
    obtain ⟨y, h3, h4⟩ := compW_bit.1 h1
    exact ⟨y, h3, compW_bit.2 ⟨x, h4, h2⟩⟩
  · rintro ⟨y, h3, h5⟩
    obtain ⟨x, h4, h2⟩ := compW_bit.1 h5
    exact ⟨x, compW_bit.2 ⟨y, h3, h4⟩, h2⟩
theorem rev_bit' {r : List W64} (hv : Val r) {u v : Nat} : Rl (revR r) u v ↔ Rl r v u := by
  constructor
  · intro h
    have hd := h.dom
    rw [revR_length] at hd
    exact (revR_bit hv hd).1 h
  · intro h; exact (revR_bit hv (hv.lt _ _ h)).2 h
theorem compW_rev {r s : List W64} (hr : Val r) (hs : Val s) (hl : s.length = r.length) : revR (compW r s) = compW (revR s) (revR r) := by
  refine list_ext (by rw [revR_length, compW_length, compW_length, revR_length, hl]) (fun u v => ?_)
  rw [rev_bit' (compW_val hr hs hl), compW_bit, compW_bit]
  constructor
  · rintro ⟨x, h1, h2⟩; exact ⟨x, (rev_bit' hs).2 h2, (rev_bit' hr).2 h1⟩
  · rintro ⟨x, h1, h2⟩; exact ⟨x, (rev_bit' hr).1 h2, (rev_bit' hs).1 h1⟩
theorem compW_dia {r s : List W64} {z : W64} (hr : Val r) (hs : Val s) (hl : s.length = r.length) : diaU (compW r s) z (compW r s).length = diaU r (diaU s z s.length) r.length := by
  refine eq_of_bits (fun i _ => ?_)
  rw [Bool.eq_iff_iff, diaU_bit (compW_val hr hs hl), diaU_bit hr]
  constructor
  · rintro ⟨u, h1, h2⟩
    obtain ⟨x, h3, h4⟩ := compW_bit.1 h1
    exact ⟨x, h3, (diaU_bit hs).2 ⟨u, h4, h2⟩⟩
  · rintro ⟨x, h3, h5⟩
    obtain ⟨u, h4, h2⟩ := (diaU_bit hs).1 h5
    exact ⟨u, compW_bit.2 ⟨x, h3, h4⟩, h2⟩
theorem compW_box {r s : List W64} {z : W64} (hr : Val r) (hs : Val s) (hl : s.length = r.length) : boxU (compW r s) z (compW r s).length = boxU r (boxU s z s.length) r.length := by
  refine eq_of_bits (fun i _ => ?_)
  rw [Bool.eq_iff_iff, boxU_bit (compW_val hr hs hl), boxU_bit hr, compW_length]
  refine and_congr_right (fun _ => ?_)
  constructor
  · intro h x h1
    exact (boxU_bit hs).2 ⟨hl ▸ hr.lt _ _ h1, fun u h2 => h u (compW_bit.2 ⟨x, h1, h2⟩)⟩
  · intro h u h1
    obtain ⟨x, h2, h3⟩ := compW_bit.1 h1
    exact ((boxU_bit hs).1 (h x h2)).2 u h3
end Go.Proofs.Wit
