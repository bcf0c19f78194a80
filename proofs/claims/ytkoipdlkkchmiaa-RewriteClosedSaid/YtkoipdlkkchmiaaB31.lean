/- Laws of walks, for any program, under the conditions that each theorem states. -/
import Derived.Test.YtkoipdlkkchmiaaB23
namespace Go.Proofs.Wit
open Go Go.RowKit
/-! counting formulas -/
def sameB (f g : List NV) : Bool := decide (chkF f = 0 ∧ chkF g = 0 ∧ compF f = compF g)
def cntS (f : List NV) (gs : List (List NV)) : Nat := gs.countP (fun g => sameB f g)
theorem cntS_snoc {f : List NV} {gs : List (List NV)} {k : Nat} (hk : k < gs.length) : cntS f (gs.take (k + 1)) = cntS f (gs.take k) + if sameB f gs[k] = true then 1 else 0 := by
  unfold cntS
  rw [List.take_succ_eq_append_getElem hk, List.countP_append]
  simp [List.countP_cons]
theorem cntS_le {f : List NV} {gs : List (List NV)} : cntS f gs ≤ gs.length := List.countP_le_length
theorem same_cf {f g : List NV} {u : Tr} (h0 : chkF f = 0) (hg : Cf g u) : sameB f g = decide (topT f = u) := by
  unfold sameB
  rw [decide_eq_decide]
  have hT := (chkF_zero.1 h0).top
  have hcg : compF g = canT u := by rw [compF_eq hg.chk, hg.top]
  constructor
  · rintro ⟨_, _, h⟩
    rw [compF_eq h0, hcg] at h
    exact canT_inj hT hg.ok h
  · intro h
    exact ⟨h0, hg.chk, by rw [compF_eq h0, hcg, h]⟩
theorem ClIs.cnt {t : TypeId} {H : Hl} {gs : List FV} {ts : List Tr} (h : ClIs t H gs ts) (hn : ts.Nodup) {f : List NV} (h0 : chkF f = 0) (hm : topT f ∈ ts) : cntS f (gs.map FV.f) = 1 := by
  unfold cntS
  rw [h.eq, List.countP_map]
  have e : ∀ u ∈ ts, ((fun g => sameB f g) ∘ bT) u = (u == topT f) := fun u hu => by
    have hc := h.cf u hu
    simp only [Function.comp_apply]
    rw [same_cf h0 (Cf.ofB hc.1 hc.2)]
    by_cases e1 : topT f = u
    · simp [e1]
    · rw [decide_eq_false e1]; symm; rw [beq_eq_false_iff_ne]; exact fun e2 => e1 e2.symm
  rw [List.countP_congr (fun u hu => by rw [e u hu])]
  have := List.nodup_iff_count.1 hn (topT f)
  have h1 := List.count_pos_iff.2 hm
  have h2 : List.countP (fun u => u == topT f) ts = List.count (topT f) ts := rfl
  omega
theorem clos_cf {f : List NV} (h0 : chkF f = 0) (hl : f.length ≤ 100) : ∀ u ∈ clos (topT f), u.ok ∧ bT u ≠ [] ∧ (canT u).length ≤ 101 := fun u hu => by
  have hT := (chkF_zero.1 h0).top
  have hcl := compF_len h0
  rw [compF_eq h0] at hcl
  have hk : ∀ v ∈ subT (topT f), (canT v).length ≤ 100 := fun v hv => by
    have : (canT v).length ≤ (canT (topT f)).length := by
      rw [canT_len, canT_len]; exact (subT_ok v).nd.length_le_of_subset (subT_tr hv)
    omega
  obtain ⟨v, hv, rfl | rfl⟩ := mem_clos.1 hu
  · have := hk u hv
    exact ⟨subT_all hT u hv, bT_ne.2 (by omega), by omega⟩
  · have := hk v hv
    have := neg_len (t := v)
    exact ⟨negT_ok (subT_all hT v hv), bT_ne.2 (by omega), by omega⟩
theorem ClP.get {f : List NV} {gs : List (List NV)} {e : Int} (h : ClP f gs e) (h0 : chkF f = 0) (hl : f.length ≤ 100) : gs = (clos (topT f)).map bT ∧ e = 0 := by
  rcases h with h | ⟨_, ⟨u, hu, h⟩, _⟩ | ⟨_, _, h, h'⟩
  · exact absurd h0 h.1
  · exact absurd h (clos_cf h0 hl _ (mem_clos.2 ⟨u, hu, .inr rfl⟩)).2.1
  · exact ⟨h, h'⟩
theorem NegP.get {f o : List NV} {e : Int} (h : NegP f o e) {u : Tr} (hc : Cf f u) (hl : (canT u).length ≤ 150) : o = bT (negT u) ∧ e = 0 ∧ Cf o (negT u) := by
  have hn : bT (negT u) ≠ [] := bT_ne.2 (by have := neg_len (t := u); omega)
  rcases h with h | ⟨_, h, h'⟩
  · exact absurd hc.chk h.1
  · rw [hc.top] at h
    exact ⟨h, by rw [h', if_neg (by rw [h]; exact hn)], by rw [h]; exact Cf.ofB (negT_ok hc.ok) hn⟩
end Go.Proofs.Wit
