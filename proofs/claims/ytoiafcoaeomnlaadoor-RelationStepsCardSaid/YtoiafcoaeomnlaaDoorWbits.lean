/- Laws of a calculus of walks, proved for any program: no condition beyond those that each theorem states. -/
import Derived.Test.YtoiafcoaeomnlaaDoorWbase
namespace Go.Proofs.Wit

/-! the points of a word -/
def pts (s : W64) : List Nat := (List.range 64).filter (fun i => s.getLsbD i)
def tz (s : W64) : Nat := (pts s).headD 64

theorem filter_range_succ (p : Nat → Bool) (n : Nat) : (List.range (n + 1)).filter p = (List.range n).filter p ++ (if p n then [n] else []) := by
  rw [List.range_succ, List.filter_append]; simp [List.filter_cons]
theorem filter_range_nil (p : Nat → Bool) (n : Nat) : (List.range n).filter p = [] ↔ ∀ j, j < n → p j = false := by
  simp [List.filter_eq_nil_iff]
theorem filter_tail (p : Nat → Bool) (q : Nat → Bool) (n : Nat) (hq : ∀ i, i < n → (q i = true ↔ p i = true ∧ ∃ j, j < i ∧ p j = true)) :
    (List.range n).filter q = ((List.range n).filter p).tail := by
  induction n with
  | zero => rfl
  | succ n ih =>
    rw [filter_range_succ, filter_range_succ, ih (fun i hi => hq i (by omega))]
    have hn := hq n (by omega)
    by_cases he : (List.range n).filter p = []
    · rw [he]
      have h0 : ¬ (∃ j, j < n ∧ p j = true) := by
        rintro ⟨j, hj, hp⟩; have := (filter_range_nil p n).1 he j hj; rw [hp] at this; cases this
      have hqn : q n = false := by
        cases hqq : q n with
        | false => rfl
        | true => exact absurd (hn.1 hqq).2 h0
      rw [hqn]; cases p n <;> rfl
    · rw [List.tail_append_of_ne_nil he]
      have h1 : ∃ j, j < n ∧ p j = true := by
        obtain ⟨x, hx⟩ := List.exists_mem_of_ne_nil _ he
        rw [List.mem_filter, List.mem_range] at hx
        exact ⟨x, hx.1, hx.2⟩
      have : q n = p n := by
        rw [Bool.eq_iff_iff, hn]; exact ⟨fun h => h.1, fun h => ⟨h, h1⟩⟩
      rw [this]
theorem filter_head (p : Nat → Bool) (n k : Nat) (hk : ((List.range n).filter p).head? = some k) : k < n ∧ p k = true ∧ ∀ j, j < k → p j = false := by
  induction n with
  | zero => simp at hk
  | succ n ih =>
    rw [filter_range_succ] at hk
    by_cases he : (List.range n).filter p = []
    · rw [he] at hk
      cases hp : p n with
      | false => simp [hp] at hk
      | true =>
        simp [hp] at hk
        subst hk
        exact ⟨by omega, hp, (filter_range_nil p n).1 he⟩
    · have hk' : ((List.range n).filter p).head? = some k := by
        cases hf : (List.range n).filter p with
        | nil => exact absurd hf he
        | cons a l => rw [hf] at hk; simpa using hk
      have := ih hk'
      exact ⟨by omega, this.2⟩

theorem lsb_sub_one (s : W64) (i : Nat) (hi : i < 64) : (s - 1#64).getLsbD i = !(s.getLsbD i ^^ decide (∃ j, j < i ∧ s.getLsbD j = true)) := by
  have e : s - 1#64 = ~~~(-s) := by
    apply BitVec.eq_of_toNat_eq
    rw [BitVec.toNat_not, BitVec.toNat_neg, BitVec.toNat_sub]
    have := s.isLt
    simp
    omega
  rw [e, BitVec.getLsbD_not, BitVec.getLsbD_neg]
  simp [hi]
theorem pts_ne {s : W64} (h : s ≠ 0#64) : pts s ≠ [] := by
  intro e
  apply h
  rw [pts, filter_range_nil] at e
  ext i hi
  have := e i hi
  rw [BitVec.getLsbD_eq_getElem hi] at this
  simpa using this
theorem pts_head {s : W64} (h : s ≠ 0#64) : (pts s).head? = some (tz s) := by
  have := pts_ne h
  unfold tz
  cases hb : pts s with
  | nil => exact absurd hb this
  | cons a l => rfl
theorem tz_spec {s : W64} (h : s ≠ 0#64) : tz s < 64 ∧ s.getLsbD (tz s) = true ∧ ∀ j, j < tz s → s.getLsbD j = false :=
  filter_head _ 64 _ (pts_head h)
theorem pts_next (s : W64) : pts (s &&& (s - 1#64)) = (pts s).tail := by
  unfold pts
  refine filter_tail (fun i => s.getLsbD i) _ 64 (fun i hi => ?_)
  rw [BitVec.getLsbD_and, lsb_sub_one s i hi]
  cases s.getLsbD i <;> simp
theorem pts_cons {s : W64} (h : s ≠ 0#64) : pts s = tz s :: pts (s &&& (s - 1#64)) := by
  rw [pts_next]
  have := pts_head h
  cases hb : pts s with
  | nil => rw [hb] at this; cases this
  | cons a l => rw [hb] at this; simp at this; simp [this]
theorem pts_zero : pts 0#64 = [] := by decide
theorem tz_lt {s : W64} (h : s ≠ 0#64) : tz s < 64 := (tz_spec h).1
theorem low_bit {s : W64} (h : s ≠ 0#64) : s &&& -s = 1#64 <<< tz s := by
  obtain ⟨h1, h2, h3⟩ := tz_spec h
  ext i hi
  rw [BitVec.getElem_and, ← BitVec.getLsbD_eq_getElem, ← BitVec.getLsbD_eq_getElem, ← BitVec.getLsbD_eq_getElem, BitVec.getLsbD_neg, BitVec.getLsbD_shiftLeft]
  by_cases e : i = tz s
  · subst e
    have hn : ¬ ∃ j, j < tz s ∧ s.getLsbD j = true := by
      rintro ⟨j, hj, hp⟩; rw [h3 j hj] at hp; cases hp
    simp [h2, h1, hn]
  · by_cases hlt : i < tz s
    · simp [h3 i hlt, hlt]
    · have hx : ∃ j, j < i ∧ s.getLsbD j = true := ⟨tz s, by omega, h2⟩
      have : (1#64).getLsbD (i - tz s) = false := by
        have : i - tz s ≠ 0 := by omega
        rw [BitVec.getLsbD_one]; simp [this]
      rw [this]; simp only [decide_eq_true hx]; cases s.getLsbD i <;> simp [hi]

def dbtab : List Int := [0, 1, 56, 2, 57, 49, 28, 3, 61, 58, 42, 50, 38, 29, 17, 4, 62, 47, 59, 36, 45, 43, 51, 22, 53, 39, 33, 30, 24, 18, 12, 5, 63, 55, 48, 27, 60, 41, 37, 16, 46, 35, 44, 21, 52, 32, 23, 11, 54, 26, 40, 15, 34, 20, 31, 10, 25, 14, 19, 9, 13, 8, 7, 6]
def dbix (s : W64) : W64 := ((s &&& -s) * 285870213051353865#64) >>> 58
theorem dbix_lt (s : W64) : (dbix s).toNat < 64 := by
  unfold dbix
  rw [BitVec.toNat_ushiftRight, Nat.shiftRight_eq_div_pow]
  have := ((s &&& -s) * 285870213051353865#64).isLt
  omega
theorem db_all : ∀ k : Nat, k < 64 → dbtab.getD ((((1#64 <<< k) * 285870213051353865#64) >>> 58).toNat) 0 = (k : Int) := by decide
theorem db_tz {s : W64} (h : s ≠ 0#64) : dbtab.getD (dbix s).toNat 0 = (tz s : Int) := by
  unfold dbix
  rw [low_bit h]
  exact db_all _ (tz_lt h)
end Go.Proofs.Wit
