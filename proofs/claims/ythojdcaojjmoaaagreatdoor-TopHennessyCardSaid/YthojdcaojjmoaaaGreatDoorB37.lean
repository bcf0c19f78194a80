/- Laws of walks, for any program, under the conditions that each theorem states. -/
import Derived.Test.YthojdcaojjmoaaaGreatDoorB28
import Derived.Test.YthojdcaojjmoaaaGreatDoorB27
import Derived.Test.YthojdcaojjmoaaaGreatDoorB12
namespace Go.Proofs.Wit
open Go Go.RowKit
/-! characteristic sets -/
section
variable {n : Nat} {val : List W64} {rel : List (List W64)}
theorem allW_lt (hn : n ≤ 64) {i : Nat} (h : (allW n).getLsbD i = true) : i < n := by
  by_cases hi : i < 64
  · rw [allW_bit hn hi] at h; simpa using h
  · rw [BitVec.getLsbD_of_ge _ _ (by omega)] at h; cases h
/-- a formula that is made has its kind, fits, and means what its tree means -/
structure PlnF (n : Nat) (val : List W64) (rel : List (List W64)) (f : List NV) (t : Tr) : Prop where
  chk : chkF f = 0
  fit : fitB f rel.length val.length = true
  frg : andN (frgL (compF f)) 1 = 0
  can : compF f = canT t
  top : topT f = t
  hold : holdE (n : Int) val rel f = 0
  ok : t.ok
theorem PlnF.of (hv : ValM (n : Int) val rel) {f : List NV} {t : Tr} (ht : t.ok) (hp : Pln rel.length val.length t) (e : f = bT t) (hne : f ≠ []) : PlnF n val rel f t := by
  rw [e] at hne
  have hl : ¬ 200 < (canT t).length := fun h => hne (bT_nil.2 h)
  obtain ⟨h1, h2, h3⟩ := bT_chk ht (by omega)
  have hc : compF f = canT t := by rw [e, compF_bT ht, bT_ok hl]
  have hk : chkF f = 0 := by rw [e, bT_ok hl]; exact h2
  have ht2 : topT f = t := by rw [e, bT_ok hl]; exact topT_canT ht.wf
  refine ⟨hk, ?_, ?_, hc, ht2, ?_, ht⟩
  · rw [fitB_iff, ht2]; exact ⟨hk, hp.mono (fun _ _ _ h => h.1.2)⟩
  · rw [hc]; exact (frg_has ht frO_1).2 (hp.mono (fun _ _ _ h => h.2))
  · rw [holdE_zero, ht2]; exact ⟨hv, hk, hp.mono (fun _ _ _ h => h.1)⟩
end
theorem and3 {s : W64} (h0 : s.getLsbD 0 = true) (h1 : s.getLsbD 1 = false) : s &&& 3#64 = 1#64 := by
  apply BitVec.eq_of_getLsbD_eq
  intro i hi
  rw [BitVec.getLsbD_and]
  have key : ∀ i : Fin 64, (3#64).getLsbD i.val = (decide (i.val = 0) || decide (i.val = 1)) ∧ (1#64).getLsbD i.val = decide (i.val = 0) := by decide +kernel
  obtain ⟨k1, k2⟩ := key ⟨i, hi⟩
  dsimp only at k1 k2
  rw [k1, k2]
  by_cases e0 : i = 0
  · subst e0; rw [h0]; rfl
  · by_cases e1 : i = 1
    · subst e1; rw [h1]; rfl
    · simp [e0, e1]
theorem ex_dst : dst 3 exV exM 0 2 = some 0 ∧ dst 3 exV exM 0 1 = some 1 ∧ dst 3 exV exM 1 1 = none := by decide +kernel
theorem ex_valM : ValM 3 exV exM := checkM_zero.1 ex_chkM
end Go.Proofs.Wit
namespace Go.Proofs.Wit
open Go Go.RowKit
end Go.Proofs.Wit
