/- Laws of walks, for any program, under the conditions that each theorem states. -/
import Derived.Test.YthojdcaojjmoaaaDoorA23
import Derived.Test.YthojdcaojjmoaaaDoorA03
import Derived.Test.YthojdcaojjmoaaaDoorA02
namespace Go.Proofs.Wit
open Go Go.RowKit
/-! the fragments of a formula; defects and their axioms -/
theorem bOrI {P : Program} {t : TypeId} {a b c : Nat} (ha : a < 512) (hb : b < 512) (hc : c = a ||| b) : Bin P .or t (.int .i64 a) (.int .i64 b) (.int .i64 c) := by
  subst hc
  refine bI _ ?_
  have hx : a ||| b < 2 ^ 9 := Nat.or_lt_two_pow (by omega) (by omega)
  have h1 : (BitVec.ofInt 64 (a : Int)).toNat = a := by
    rw [BitVec.ofInt_natCast, BitVec.toNat_ofNat]; exact Nat.mod_eq_of_lt (by omega)
  have h2 : (BitVec.ofInt 64 (b : Int)).toNat = b := by
    rw [BitVec.ofInt_natCast, BitVec.toNat_ofNat]; exact Nat.mod_eq_of_lt (by omega)
  rw [binOp_or]
  show (pure (Value.int .i64 (IntKind.i64.wrap ((BitVec.ofInt 64 (a : Int) ||| BitVec.ofInt 64 (b : Int)).toNat : Int))) : Sem Value) = _
  rw [BitVec.toNat_or, h1, h2, IntWalk.i64_in _ (by omega)]
def frN (n : NV) : Nat := (frO n.op).toNat
theorem frO_lt (op : Int) : 0 ≤ frO op ∧ frO op < 512 := by
  unfold frO
  repeat' split
  all_goals omega
theorem frN_eq (n : NV) : (frN n : Int) = frO n.op := by
  have := frO_lt n.op
  unfold frN; omega
def frgL (c : List NV) : Nat := c.foldl (fun a n => a ||| frN n) 0
theorem frgL_snoc {c : List NV} {n : NV} : frgL (c ++ [n]) = frgL c ||| frN n := by simp [frgL]
theorem frgL_lt (c : List NV) : frgL c < 512 := by
  induction c using snoc_ind with
  | h0 => decide
  | h1 c n ih =>
    rw [frgL_snoc]
    have h2 : frN n < 2 ^ 9 := by have := frO_lt n.op; unfold frN; omega
    exact Nat.or_lt_two_pow (n := 9) ih h2
theorem compF_le (f : List NV) : (compF f).length ≤ 200 := by
  by_cases h : chkF f = 0
  · exact (compF_ok h).len
  · rw [compF, if_pos h]; exact Nat.zero_le _
/-! their axioms -/
theorem fact0 : bldF ⟨3, 0, 0, 0, 0, 0⟩ [] = canT (.leaf 3 0 0 0) := by
  rw [bld0 (n := ⟨3, 0, 0, 0, 0, 0⟩) (by decide) rfl rfl rfl rfl]
  exact if_neg (by rw [canT_leaf]; omega)
end Go.Proofs.Wit
