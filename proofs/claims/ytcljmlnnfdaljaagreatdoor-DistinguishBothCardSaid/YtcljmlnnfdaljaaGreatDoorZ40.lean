/- Laws of walks, for any program, under the conditions that each theorem states. -/
import Derived.Test.YtcljmlnnfdaljaaGreatDoorZ33
import Derived.Test.YtcljmlnnfdaljaaGreatDoorZ29
import Derived.Test.YtcljmlnnfdaljaaGreatDoorZ14
namespace Go.Proofs.Wit
open Go Go.RowKit
/-! characteristic sets -/
section
variable {n : Nat} {val : List W64} {rel : List (List W64)}
theorem allW_lt (hn : n ≤ 64) {i : Nat} (h : (allW n).getLsbD i = true) : i < n := by
  by_cases hi : i < 64
  · rw [allW_bit hn hi] at h; simpa using h
  · rw [BitVec.getLsbD_of_ge _ _ (by omega)] at h; cases h
theorem val_out (hv : ValM (n : Int) val rel) {i j : Nat} (h : (val.getD i 0#64).getLsbD j = true) : j < n := by
  have h64 := hv.n64
  have := hv.out
  rw [Int.toNat_natCast] at this
  exact (outB_rng (by omega)).1 this i j h
theorem bool_lt (hn : n ≤ 64) {op : Int} {x y : W64} (hx : ∀ j, x.getLsbD j = true → j < n) (hy : ∀ j, y.getLsbD j = true → j < n) : ∀ j, (boolW op x y (allW n)).getLsbD j = true → j < n := by
  intro j h
  unfold boolW at h
  split at h
  · exact allW_lt hn h
  split at h
  · rw [BitVec.getLsbD_and, Bool.and_eq_true] at h; exact allW_lt hn h.1
  split at h
  · rw [BitVec.getLsbD_and, Bool.and_eq_true] at h; exact hx j h.1
  split at h
  · rw [BitVec.getLsbD_or, Bool.or_eq_true] at h; exact h.elim (hx j) (hy j)
  split at h
  · rw [BitVec.getLsbD_or, Bool.or_eq_true, BitVec.getLsbD_and, Bool.and_eq_true] at h; exact h.elim (fun h => allW_lt hn h.1) (hy j)
  split at h
  · rw [BitVec.getLsbD_and, Bool.and_eq_true] at h; exact allW_lt hn h.1
  · simp at h
theorem one_lt (hv : ValM (n : Int) val rel) {op i g : Int} {x y : W64} (hx : ∀ j, x.getLsbD j = true → j < n) (hy : ∀ j, y.getLsbD j = true → j < n) : ∀ j, (oneW n val rel op i g x y).getLsbD j = true → j < n := by
  intro j h
  have h64 := hv.n64
  have hn : n ≤ 64 := by omega
  unfold oneW at h
  split at h
  · exact val_out hv h
  split at h
  · exact bool_lt hn hx hy j h
  split at h
  · exact ((boxW_bit hn).1 h).1
  split at h
  · rw [BitVec.getLsbD_and, Bool.and_eq_true] at h; exact allW_lt hn h.1
  split at h
  · exact ((boxW_bit hn).1 h).1
  split at h
  · exact ((boxW_bit hn).1 h).1
  · exact ((comW_bit hn (fun a b hr => joinL_lt (val_lt hv rfl) hr)).1 h).1
theorem zero_lt : ∀ j, (0#64 : W64).getLsbD j = true → j < n := fun j h => by simp at h
theorem sem_lt (hv : ValM (n : Int) val rel) : ∀ (t : Tr) (j : Nat), (semT n val rel t).getLsbD j = true → j < n
  | .leaf _op _i _e _g => one_lt hv zero_lt zero_lt
  | .un _op _i _e _g a => one_lt hv (sem_lt hv a) zero_lt
  | .bin _op _i _e _g a b => one_lt hv (sem_lt hv a) (sem_lt hv b)
/-- the worlds that a partition keeps together with w -/
def clsW (n : Nat) (p : List Int) (w : Nat) : W64 := selW (fun i => p.getD i 0 == p.getD w 0) n
theorem clsW_bit (hn : n ≤ 64) {p : List Int} {w i : Nat} : (clsW n p w).getLsbD i = true ↔ i < n ∧ p.getD i 0 = p.getD w 0 := by
  rw [clsW, selW_bit hn, beq_iff_eq]
theorem char_set (hv : ValM (n : Int) val rel) {x k : Nat} {ts : List Tr} (hx : x < n) (h : TellL n val rel x k (othW (psq n val rel k) x n) ts) : semT n val rel (conjT ts) = clsW n (psq n val rel k) x := by
  have h1 := hv.n1
  have h64 := hv.n64
  have hn : n ≤ 64 := by omega
  refine bits_ext (n := n) (sem_lt hv _) (fun i hi => ((clsW_bit hn).1 hi).1) (fun i hi => ?_)
  rw [conj_bit hn hi, clsW_bit hn]
  constructor
  · intro hall
    refine ⟨hi, Classical.byContradiction (fun hne => ?_)⟩
    obtain ⟨t, ht, j, hj, hd, hT⟩ := h.ofMem i (mem_oth.2 ⟨hi, hne⟩)
    have := hall t ht
    rw [hT.no] at this; cases this
  · rintro ⟨_, he⟩ t ht
    obtain ⟨y, hy, j, hj, hd, hT⟩ := h.mem t ht
    have hq := hT.pl.mono (q' := fun op i _ => op ≤ 10 ∧ (op = 9 ∨ op = 10 → i.toNat < rel.length)) (fun _ _ _ h => ⟨h.2, stat_ix h.1⟩)
    have hi2 := sem_dep (n := n) (val := val) (rel := rel) hn (val_lt hv rfl) hT.ok.wf hq (Nat.le_refl (depT t))
    exact hi2 x i hx hi (peq_mono hx hi (Nat.le_trans hT.dp hj) he.symm) hT.yes
theorem psq_min (hn : 1 ≤ n) (h64 : n ≤ 64) {j : Nat} : psq n val rel (min j (dep n val rel)) = psq n val rel j := by
  by_cases h : j ≤ dep n val rel
  · rw [Nat.min_eq_left h]
  · rw [Nat.min_eq_right (by omega), psq_from hn h64 (by omega : dep n val rel ≤ j)]
/-- a formula that is made has its kind, fits, and means what its tree means -/
structure PlnF (n : Nat) (val : List W64) (rel : List (List W64)) (f : List NV) (t : Tr) : Prop where
  chk : chkF f = 0
  fit : fitB f rel.length val.length = true
  frg : andN (frgL (compF f)) 1 = 0
  can : compF f = canT t
  top : topT f = t
  hold : holdE (n : Int) val rel f = 0
  ok : t.ok
theorem PlnF.of (hv : ValM (n : Int) val rel) {f : List NV} {t : Tr} (ht : t.ok) (hp : Pln rel.length val.length t) (e : f = bT t) (hne : f ≠ []) : PlnF n val rel f t := by
  rw [e] at hne
  have hl : ¬ 200 < (canT t).length := fun h => hne (bT_nil.2 h)
  obtain ⟨h1, h2, h3⟩ := bT_chk ht (by omega)
  have hc : compF f = canT t := by rw [e, compF_bT ht, bT_ok hl]
  have hk : chkF f = 0 := by rw [e, bT_ok hl]; exact h2
  have ht2 : topT f = t := by rw [e, bT_ok hl]; exact topT_canT ht.wf
  refine ⟨hk, ?_, ?_, hc, ht2, ?_, ht⟩
  · rw [fitB_iff, ht2]; exact ⟨hk, hp.mono (fun _ _ _ h => h.1.2)⟩
  · rw [hc]; exact (frg_has ht frO_1).2 (hp.mono (fun _ _ _ h => h.2))
  · rw [holdE_zero, ht2]; exact ⟨hv, hk, hp.mono (fun _ _ _ h => h.1)⟩
end
theorem shr1_one {s : W64} {i : Nat} (h : s.getLsbD i = true) : (s >>> i) &&& 1#64 = 1#64 := by
  apply BitVec.eq_of_toNat_eq
  rw [bit1, if_pos h]; rfl
theorem shr1_zero {s : W64} {i : Nat} (h : s.getLsbD i = false) : (s >>> i) &&& 1#64 = 0#64 := by
  apply BitVec.eq_of_toNat_eq
  rw [bit1, if_neg (by rw [h]; simp)]; rfl
theorem shr1_ne {s : W64} {i j : Nat} : ((s >>> i) &&& 1#64 != (s >>> j) &&& 1#64) = (s.getLsbD i != s.getLsbD j) := by
  cases h : s.getLsbD i <;> cases h2 : s.getLsbD j <;> simp only [shr1_one, shr1_zero, h, h2] <;> rfl
theorem and3 {s : W64} (h0 : s.getLsbD 0 = true) (h1 : s.getLsbD 1 = false) : s &&& 3#64 = 1#64 := by
  apply BitVec.eq_of_getLsbD_eq
  intro i hi
  rw [BitVec.getLsbD_and]
  have key : ∀ i : Fin 64, (3#64).getLsbD i.val = (decide (i.val = 0) || decide (i.val = 1)) ∧ (1#64).getLsbD i.val = decide (i.val = 0) := by decide +kernel
  obtain ⟨k1, k2⟩ := key ⟨i, hi⟩
  dsimp only at k1 k2
  rw [k1, k2]
  by_cases e0 : i = 0
  · subst e0; rw [h0]; rfl
  · by_cases e1 : i = 1
    · subst e1; rw [h1]; rfl
    · simp [e0, e1]
theorem ex_dst : dst 3 exV exM 0 2 = some 0 ∧ dst 3 exV exM 0 1 = some 1 ∧ dst 3 exV exM 1 1 = none := by decide +kernel
theorem ex_cls : clsW 3 (psq 3 exV exM 0) 1 = 3#64 ∧ clsW 3 (psq 3 exV exM 1) 1 = 2#64 := by decide +kernel
theorem ex_valM : ValM 3 exV exM := checkM_zero.1 ex_chkM
end Go.Proofs.Wit
namespace Go.Proofs.Wit
open Go Go.RowKit
end Go.Proofs.Wit
