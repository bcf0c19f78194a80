/- Laws of walks, for any program, under the conditions that each theorem states. -/
import Derived.Test.YtcljmlnnfdaljaaDoorF14
namespace Go.Proofs.Wit
open Go Go.RowKit
/-! for the reference of chapter 19 -/
section
variable {P : Program} {t : TypeId}
theorem bRem2 {x : W64} : Bin P .rem t (U x) (U 2#64) (U (x &&& 1#64)) := bU _ (by
  show Op.intDiv .rem .u64 (x.toNat : Int) 2 = _
  unfold Op.intDiv
  rw [if_neg (by decide)]
  show pure (Value.int .u64 ((x.toNat : Int).tmod 2)) = pure (Value.int .u64 ((x &&& 1#64).toNat : Int))
  rw [show (x.toNat : Int).tmod 2 = ((x.toNat % 2 : Nat) : Int) from rfl, BitVec.toNat_and]
  rw [show (1#64 : W64).toNat = 1 from rfl, Nat.and_one_is_mod])
end
section
variable {κ : Type} [DecidableEq κ]
/-- going down from i: low is the lowest point above j with the key of i -/
structure Down (key : Nat → κ) (i : Nat) (j : Int) (low : Nat) : Prop where
  lo : j < low
  hi : low ≤ i
  eq : key low = key i
  min : ∀ m : Nat, j < m → m ≤ i → key m = key i → low ≤ m
omit [DecidableEq κ] in
theorem Down.start {key : Nat → κ} {i : Nat} {j : Int} (h : j < i) (h2 : ∀ m : Nat, j < m → m < i → False) : Down key i j i := ⟨h, Nat.le_refl _, rfl, fun m h1 h3 _ => by
  rcases Nat.lt_or_eq_of_le h3 with h4 | h4
  · exact (h2 m h1 h4).elim
  · omega⟩
omit [DecidableEq κ] in
theorem Down.top {key : Nat → κ} {i : Nat} : Down key i i i → True := fun _ => trivial
omit [DecidableEq κ] in
theorem Down.skip {key : Nat → κ} {i : Nat} {j low : Nat} (h : Down key i j low) (hk : key j ≠ key i) : Down key i ((j : Int) - 1) low := ⟨by have := h.lo; omega, h.hi, h.eq, fun m h1 h2 h3 => by
  by_cases e : m = j
  · subst e; exact absurd h3 hk
  · exact h.min m (by omega) h2 h3⟩
theorem Down.led {key : Nat → κ} {i : Nat} {j : Int} {low : Nat} (h : Down key i j low) (hj : j < 0) : led key i = low := by
  obtain ⟨h1, h2, h3⟩ := led_spec key i
  apply Nat.le_antisymm
  · exact h3 low h.eq
  · exact h.min _ (by omega) h1 h2
end
theorem fmTo_succ {val : List W64} {w k : Nat} : fmTo val w (k + 1) = fmTo val w k + (if (val.getD k 0#64).getLsbD w = true then 2 ^ k else 0) := rfl
/-- row k, worlds before j are done -/
structure RowR (va vb : List W64) (ra rb : List (List W64)) (na nb : Nat) (z0 : List W64) (k j : Nat) (z : List W64) (ch : Bool) : Prop where
  turn : TurnZ va vb ra rb na nb z0 z ch k
  done : ch = false → ∀ w, w < j → Rl z k w → matB va vb ra rb z k w = true
section
variable {va vb : List W64} {ra rb : List (List W64)} {na nb k j : Nat} {z0 z : List W64} {ch : Bool}
theorem RowR.start (h : TurnZ va vb ra rb na nb z0 z ch k) : RowR va vb ra rb na nb z0 k 0 z ch := ⟨h, fun _ _w hw => absurd hw (Nat.not_lt_zero _)⟩
theorem RowR.keep (h : RowR va vb ra rb na nb z0 k j z ch) (hm : Rl z k j → matB va vb ra rb z k j = true) : RowR va vb ra rb na nb z0 k (j + 1) z ch :=
  ⟨h.turn, fun e w hw hr => by
    rcases Nat.lt_succ_iff_lt_or_eq.1 hw with hw | rfl
    · exact h.done e w hw hr
    · exact hm hr⟩
theorem RowR.end (h : RowR va vb ra rb na nb z0 k j z ch) (hj : nb ≤ j) : TurnZ va vb ra rb na nb z0 z ch (k + 1) :=
  ⟨h.turn.inv, h.turn.le, h.turn.chg, fun e v w hv hw => by
    rcases Nat.lt_succ_iff_lt_or_eq.1 hv with hv | rfl
    · exact h.turn.same e v w hv hw
    · exact h.done e w (by have := h.turn.inv.rng _ _ hw; omega) hw⟩
end
end Go.Proofs.Wit
