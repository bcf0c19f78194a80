/- Laws of a calculus of walks, proved for any program: no condition beyond those that each theorem states. -/
import Derived.Test.YtoiafcoaeomnlaaDoorWslu
namespace Go.Proofs.Wit
open Go Go.RowKit
/-! plain facts on relations as lists of words -/
def allW (n : Nat) : W64 := if 64 ≤ n then 18446744073709551615#64 else (1#64 <<< n) - 1#64
def badW (n : Nat) (xs : List W64) (k : Nat) : Bool := xs.getD k 0#64 &&& ~~~ (allW n) != 0#64
def checkR (n : Int) (xs : List W64) : Int :=
  if n < 0 ∨ 64 < n then 2 else if (xs.length : Int) ≠ n then 3 else if anyTo (badW n.toNat xs) xs.length then 1 else 0
def twoR (r s : List W64) : Int := if checkR r.length r ≠ 0 then checkR r.length r else if checkR s.length s ≠ 0 then checkR s.length s else if r.length ≠ s.length then 1 else 0

theorem mem_pts {s : W64} {i : Nat} : i ∈ pts s ↔ i < 64 ∧ s.getLsbD i = true := by simp [pts]
theorem allOnes_eq : (18446744073709551615#64 : W64) = BitVec.allOnes 64 := by decide
theorem allW_bit {n i : Nat} (hn : n ≤ 64) (hi : i < 64) : (allW n).getLsbD i = decide (i < n) := by
  unfold allW
  split
  · rw [allOnes_eq, BitVec.getLsbD_allOnes]; simp; omega
  · rename_i h
    have e1 : ((1#64 <<< n) - 1#64).toNat = 2 ^ n - 1 := by
      have hp : 2 ^ n < 2 ^ 64 := Nat.pow_lt_pow_right (by decide) (by omega)
      have h1 : 0 < 2 ^ n := Nat.pow_pos (by decide)
      rw [BitVec.toNat_sub, BitVec.toNat_shiftLeft, Nat.shiftLeft_eq]
      simp only [BitVec.toNat_ofNat]
      rw [show 1 % 2 ^ 64 = 1 from by decide, Nat.one_mul, Nat.mod_eq_of_lt hp]
      omega
    rw [BitVec.getLsbD, e1, Nat.testBit_two_pow_sub_one]
theorem bit_lt {s : W64} {i : Nat} (h : s.getLsbD i = true) : i < 64 := by
  rcases Nat.lt_or_ge i 64 with h1 | h1
  · exact h1
  · rw [BitVec.getLsbD_of_ge _ _ h1] at h; cases h
theorem eq_of_bits {s t : W64} (h : ∀ i, i < 64 → s.getLsbD i = t.getLsbD i) : s = t := BitVec.eq_of_getLsbD_eq (fun i hi => h i hi)
theorem andNot_zero {s t : W64} : s &&& ~~~t = 0#64 ↔ ∀ i, s.getLsbD i = true → t.getLsbD i = true := by
  constructor
  · intro h i hi
    have h1 := congrArg (fun x => BitVec.getLsbD x i) h
    have hl := bit_lt hi
    simp only [BitVec.getLsbD_and, BitVec.getLsbD_not, hi, hl] at h1
    simpa using h1
  · intro h
    refine eq_of_bits (fun i hi => ?_)
    rw [BitVec.getLsbD_and, BitVec.getLsbD_not]
    cases hs : s.getLsbD i with
    | false => simp
    | true => simp [hi, h i hs]
/-- v is a successor of w -/
def Rl (r : List W64) (w v : Nat) : Prop := (r.getD w 0#64).getLsbD v = true
/-- a valid relation -/
structure Val (r : List W64) : Prop where
  len : r.length ≤ 64
  lt : ∀ w v, Rl r w v → v < r.length
theorem Rl.dom {r : List W64} {w v : Nat} (h : Rl r w v) : w < r.length := by
  rcases Nat.lt_or_ge w r.length with h1 | h1
  · exact h1
  · unfold Rl at h; simp [List.getD_eq_getElem?_getD, List.getElem?_eq_none h1] at h
theorem badW_iff {n : Nat} {xs : List W64} {k : Nat} (hn : n ≤ 64) : badW n xs k = false ↔ ∀ i, (xs.getD k 0#64).getLsbD i = true → i < n := by
  unfold badW
  rw [bne_eq_false_iff_eq, andNot_zero]
  constructor
  · intro h i hi; have := h i hi; rw [allW_bit hn (bit_lt hi)] at this; simpa using this
  · intro h i hi; rw [allW_bit hn (bit_lt hi)]; simpa using h i hi
theorem check_zero {r : List W64} : checkR r.length r = 0 ↔ Val r := by
  unfold checkR
  constructor
  · intro h
    split at h
    · cases h
    · rename_i h1
      have hn : r.length ≤ 64 := by omega
      simp only [ne_eq, not_true_eq_false, if_false, Int.toNat_natCast] at h
      split at h
      · cases h
      · rename_i h2
        have h2 : anyTo (badW r.length r) r.length = false := by simpa using h2
        refine ⟨hn, fun w v hwv => ?_⟩
        exact (badW_iff hn).1 (anyTo_false.1 h2 w hwv.dom) v hwv
  · intro hv
    rw [if_neg (by have := hv.len; omega), if_neg (by simp), Int.toNat_natCast, if_neg]
    rw [anyTo_false.2 (fun k hk => (badW_iff hv.len).2 (fun i hi => hv.lt k i hi))]; simp
theorem Val.pts {r : List W64} (h : Val r) (w : Nat) : ∀ i ∈ pts (r.getD w 0#64), i < r.length := fun i hi => h.lt w i (mem_pts.1 hi).2
theorem two_zero {r s : List W64} : twoR r s = 0 ↔ Val r ∧ Val s ∧ r.length = s.length := by
  unfold twoR
  rw [← check_zero (r := r), ← check_zero (r := s)]
  constructor
  · intro h
    split at h
    · rename_i h1; exact absurd h h1
    · rename_i h1
      split at h
      · rename_i h2; exact absurd h h2
      · rename_i h2
        split at h
        · cases h
        · rename_i h3
          exact ⟨by simpa using h1, by simpa using h2, by simpa using h3⟩
  · rintro ⟨h1, h2, h3⟩
    rw [if_neg (by simp [h1]), if_neg (by simp [h2]), if_neg (by simp [h3])]
/-- the union of the successors of the points of a set -/
def mapR (r : List W64) (s : W64) : W64 := (pts s).foldl (fun o w => o ||| r.getD w 0#64) 0#64
theorem foldl_or_bit (r : List W64) (v : Nat) : ∀ (l : List Nat) (o : W64), (l.foldl (fun o w => o ||| r.getD w 0#64) o).getLsbD v = (o.getLsbD v || l.any (fun w => (r.getD w 0#64).getLsbD v))
  | [], o => by simp
  | w :: l, o => by rw [List.foldl_cons, foldl_or_bit r v l, BitVec.getLsbD_or, List.any_cons, Bool.or_assoc]
theorem mapR_bit {r : List W64} {s : W64} {v : Nat} : (mapR r s).getLsbD v = true ↔ ∃ w, s.getLsbD w = true ∧ Rl r w v := by
  rw [mapR, foldl_or_bit]
  simp only [BitVec.getLsbD_zero, Bool.false_or, List.any_eq_true]
  constructor
  · rintro ⟨w, hw, h⟩; exact ⟨w, (mem_pts.1 hw).2, h⟩
  · rintro ⟨w, hw, h⟩; exact ⟨w, mem_pts.2 ⟨bit_lt hw, hw⟩, h⟩
/-- the first k elements turned -/
def flm (g : Nat → W64 → W64) (xs : List W64) (k : Nat) : List W64 := xs.mapIdx (fun i x => if i < k then g i x else x)
theorem flm_length {g : Nat → W64 → W64} {xs : List W64} {k : Nat} : (flm g xs k).length = xs.length := by simp [flm]
theorem flm_zero {g : Nat → W64 → W64} {xs : List W64} : flm g xs 0 = xs := by
  apply List.ext_getElem? ; intro i; simp [flm]
theorem flm_get {g : Nat → W64 → W64} {xs : List W64} {k i : Nat} (hi : i < xs.length) : (flm g xs k).getD i 0#64 = if i < k then g i (xs.getD i 0#64) else xs.getD i 0#64 := by
  simp [flm, List.getD_eq_getElem?_getD, hi]
theorem flm_succ {g : Nat → W64 → W64} {xs : List W64} {k : Nat} (hk : k < xs.length) : (flm g xs k).set k (g k (xs.getD k 0#64)) = flm g xs (k + 1) := by
  apply List.ext_getElem?
  intro i
  rw [List.getElem?_set]
  simp only [flm, List.getElem?_mapIdx]
  split
  · rename_i e; subst e; simp [hk, List.getD_eq_getElem?_getD]
  · rename_i e
    cases hx : xs[i]? with
    | none => rfl
    | some x =>
      simp only [Option.map_some]
      by_cases h1 : i < k
      · rw [if_pos h1, if_pos (by omega)]
      · rw [if_neg h1, if_neg (by omega)]
/-- the reversed pairs -/
def revS (w : Nat) (s : W64) (out : List W64) : List W64 := (pts s).foldl (fun out v => out.set v (out.getD v 0#64 ||| 1#64 <<< w)) out
def revR (r : List W64) : List W64 := upTo (fun w out => revS w (r.getD w 0#64) out) (List.replicate r.length 0#64) r.length
theorem foldl_set_length (w : Nat) : ∀ (l : List Nat) (out : List W64), (l.foldl (fun out v => out.set v (out.getD v 0#64 ||| 1#64 <<< w)) out).length = out.length
  | [], _ => rfl
  | v :: l, out => by rw [List.foldl_cons, foldl_set_length w l]; simp
theorem upTo_rev_length (r : List W64) (n : Nat) : (upTo (fun w out => revS w (r.getD w 0#64) out) (List.replicate r.length 0#64) n).length = r.length := by
  refine upTo_inv (fun _ (out : List W64) => out.length = r.length) (by simp) (fun k a _ h => ?_)
  rw [revS, foldl_set_length]; exact h
theorem revR_length (r : List W64) : (revR r).length = r.length := upTo_rev_length r _
theorem foldl_set_bit (w : Nat) (hw : w < 64) (v i : Nat) : ∀ (l : List Nat) (out : List W64), (∀ x ∈ l, x < out.length) → v < out.length →
    ((l.foldl (fun out v => out.set v (out.getD v 0#64 ||| 1#64 <<< w)) out).getD v 0#64).getLsbD i = ((out.getD v 0#64).getLsbD i || (decide (v ∈ l) && decide (i = w)))
  | [], out, _, _ => by simp
  | x :: l, out, hl, hv => by
    rw [List.foldl_cons, foldl_set_bit w hw v i l _ (fun y hy => by simpa using hl y (List.mem_cons_of_mem _ hy)) (by simpa using hv)]
    have hx : x < out.length := hl x (List.mem_cons_self ..)
    by_cases e : x = v
    · subst e
      have : (out.set x (out.getD x 0#64 ||| 1#64 <<< w)).getD x 0#64 = out.getD x 0#64 ||| 1#64 <<< w := by simp [List.getD_eq_getElem?_getD, hx]
      rw [this, BitVec.getLsbD_or, BitVec.getLsbD_shiftLeft]
      have : (decide (i < 64) && !decide (i < w) && (1#64).getLsbD (i - w)) = decide (i = w) := by
        rw [BitVec.getLsbD_one]
        by_cases e2 : i = w
        · subst e2; simp [hw]
        · simp [e2]; omega
      rw [this]
      simp
      cases (out[x]?.getD 0#64).getLsbD i <;> cases decide (i = w) <;> simp
    · have : (out.set x (out.getD x 0#64 ||| 1#64 <<< w)).getD v 0#64 = out.getD v 0#64 := by simp [List.getD_eq_getElem?_getD, e]
      rw [this]
      have : decide (v ∈ x :: l) = decide (v ∈ l) := by simp [Ne.symm e]
      rw [this]
theorem revR_bit {r : List W64} (hv : Val r) {v w : Nat} (hlt : v < r.length) : Rl (revR r) v w ↔ Rl r w v := by
  have key : ∀ n, n ≤ r.length → (∀ i, ((upTo (fun w out => revS w (r.getD w 0#64) out) (List.replicate r.length 0#64) n).getD v 0#64).getLsbD i = true ↔ i < n ∧ Rl r i v) := by
    intro n
    induction n with
    | zero => intro _ i; simp [upTo, List.getD_eq_getElem?_getD, hlt]
    | succ n ih =>
      intro hn i
      have hlen := upTo_rev_length r n
      have hn64 : n < 64 := by have := hv.len; omega
      rw [upTo, revS, foldl_set_bit n hn64 v i _ _ (fun x hx => by rw [hlen]; exact hv.pts n x hx) (by rw [hlen]; exact hlt), Bool.or_eq_true, ih (by omega)]
      simp only [Bool.and_eq_true, decide_eq_true_eq]
      constructor
      · rintro (⟨h1, h2⟩ | ⟨h1, rfl⟩)
        · exact ⟨by omega, h2⟩
        · exact ⟨by omega, (mem_pts.1 h1).2⟩
      · rintro ⟨h1, h2⟩
        by_cases e : i = n
        · subst e; exact .inr ⟨mem_pts.2 ⟨bit_lt h2, h2⟩, rfl⟩
        · exact .inl ⟨by omega, h2⟩
  unfold Rl revR
  rw [key _ (Nat.le_refl _) w]
  exact ⟨fun h => h.2, fun h => ⟨Rl.dom h, h⟩⟩
end Go.Proofs.Wit
namespace Go.Proofs.Wit
theorem or_eq_left {a b : W64} (h : a ||| b = a) : b &&& ~~~a = 0#64 := by
  rw [andNot_zero]; intro i hi
  have := congrArg (fun x => BitVec.getLsbD x i) h
  simpa [BitVec.getLsbD_or, hi] using this
theorem sub_or {a b c : W64} (h : a &&& ~~~b = 0#64) : a &&& ~~~(b ||| c) = 0#64 := by
  rw [andNot_zero] at *; intro i hi; rw [BitVec.getLsbD_or, h i hi]; rfl
theorem or_sub {a b c : W64} (h : a &&& ~~~c = 0#64) (h2 : b &&& ~~~c = 0#64) : (a ||| b) &&& ~~~c = 0#64 := by
  rw [andNot_zero] at *; intro i hi
  rw [BitVec.getLsbD_or, Bool.or_eq_true] at hi
  rcases hi with hi | hi
  · exact h i hi
  · exact h2 i hi
theorem map_sub {r : List W64} {a c : W64} (h : a &&& ~~~c = 0#64) (h2 : mapR r c &&& ~~~c = 0#64) : mapR r a &&& ~~~c = 0#64 := by
  rw [andNot_zero] at *
  intro i hi
  obtain ⟨w, hw, hr⟩ := mapR_bit.1 hi
  exact h2 i (mapR_bit.2 ⟨w, h w hw, hr⟩)
theorem or_grows {a b : W64} (h : a ||| b ≠ a) : 18446744073709551616 - (a ||| b).toNat < 18446744073709551616 - a.toNat := by
  have h1 : a.toNat ≤ (a ||| b).toNat := by rw [BitVec.toNat_or]; exact Nat.left_le_or
  have h2 : a.toNat ≠ (a ||| b).toNat := fun e => h (BitVec.eq_of_toNat_eq e.symm)
  have := (a ||| b).isLt
  omega
theorem sub_antisymm {a b : W64} (h : a &&& ~~~b = 0#64) (h2 : b &&& ~~~a = 0#64) : a = b := by
  rw [andNot_zero] at *
  refine eq_of_bits (fun i _ => ?_)
  cases ha : a.getLsbD i <;> cases hb : b.getLsbD i <;> first | rfl | (have := h i ha; rw [hb] at this; cases this) | (have := h2 i hb; rw [ha] at this; cases this)
end Go.Proofs.Wit
