/- Laws of a calculus of walks, proved for any program: no condition beyond those that each theorem states. -/
import Derived.Test.YtbjopkllkoomkaaDoorWD
namespace Go.Proofs.Wit
open Go Go.RowKit
theorem bLtU {P : Program} {t : TypeId} {x y : W64} : Bin P .lss t (U x) (U y) (.bool (decide (x.toNat < y.toNat))) := by
  have h : Bin P .lss t (.int .u64 (x.toNat : Int)) (.int .u64 (y.toNat : Int)) (.bool (decide ((x.toNat : Int) < (y.toNat : Int)))) := bLt
  have e : decide ((x.toNat : Int) < (y.toNat : Int)) = decide (x.toNat < y.toNat) := by rw [decide_eq_decide]; omega
  rw [e] at h
  exact h
theorem bits_lt {s : W64} {n : Nat} : s.toNat < 2 ^ n ↔ ∀ u, s.getLsbD u = true → u < n := by
  constructor
  · intro h u hu
    rcases Nat.lt_or_ge u n with h1 | h1
    · exact h1
    · rw [BitVec.getLsbD, Nat.testBit_lt_two_pow (Nat.lt_of_lt_of_le h (Nat.pow_le_pow_right (by decide) h1))] at hu
      cases hu
  · intro h
    refine Nat.lt_pow_two_of_testBit _ (fun i hi => ?_)
    cases hb : s.toNat.testBit i with
    | false => rfl
    | true => have := h i hb; omega
theorem propsL_mem {l p : Int} (h : p ∈ propsL l) : 1 ≤ p ∧ p ≤ 5 := by
  unfold propsL at h
  repeat' (split at h)
  all_goals simp at h
  all_goals omega
theorem one_shl {n : Nat} (hn : n ≤ 5) : (1#64 <<< n).toNat = 2 ^ n := by
  rw [BitVec.toNat_shiftLeft, Nat.shiftLeft_eq]
  have h1 : (1#64).toNat = 1 := rfl
  rw [h1, Nat.one_mul, Nat.mod_eq_of_lt]
  exact Nat.pow_lt_pow_right (by decide) (by omega)
/-- the property's axiom, for all small sets -/
theorem correspond_nat {r : List W64} (hv : Val r) {p : Int} (hp : 1 ≤ p ∧ p ≤ 5) : PropR p r ↔ ∀ s : W64, s.toNat < 2 ^ r.length → holdsU r p s = allW r.length := by
  rw [correspond hv hp]
  exact forall_congr' (fun s => by rw [bits_lt])
end Go.Proofs.Wit
