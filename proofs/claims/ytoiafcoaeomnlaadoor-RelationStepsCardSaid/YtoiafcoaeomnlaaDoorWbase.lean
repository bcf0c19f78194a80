/- Laws of a calculus of walks, proved for any program: no condition beyond those that each theorem states. -/
import Derived.WalkKit
import Derived.Lib.Hide
namespace Go.Proofs.Wit
open Go.RowKit

abbrev W64 := BitVec 64
/-- a word as a value -/
def U (x : W64) : Value := .int .u64 (x.toNat : Int)

theorem U_zero : Value.int .u64 0 = U 0#64 := rfl
theorem U_one : Value.int .u64 1 = U 1#64 := rfl
theorem U_all : Value.int .u64 18446744073709551615 = U 18446744073709551615#64 := rfl

section
variable (t : TypeId) (x y : W64)
theorem ofInt_toNat64 (x : W64) : BitVec.ofInt 64 (x.toNat : Int) = x := by
  rw [BitVec.ofInt_natCast]; simp
theorem wrap_toNat (x : W64) : IntKind.u64.wrap (x.toNat : Int) = x.toNat := by
  rw [IntKind.wrap_u64]; have := x.isLt; omega
theorem bits_U (f : W64 → W64 → W64) : (.int .u64 (IntKind.u64.wrap ((f (BitVec.ofInt 64 (x.toNat : Int)) (BitVec.ofInt 64 (y.toNat : Int))).toNat : Int)) : Value) = U (f x y) := by
  rw [ofInt_toNat64, ofInt_toNat64, wrap_toNat]; rfl
theorem bin_and : binOp .and t (U x) (U y) = pure (U (x &&& y)) :=
  congrArg pure (bits_U x y (fun a b => a &&& b))
theorem bin_or : binOp .or t (U x) (U y) = pure (U (x ||| y)) :=
  congrArg pure (bits_U x y (fun a b => a ||| b))
theorem bin_xor : binOp .xor t (U x) (U y) = pure (U (x ^^^ y)) :=
  congrArg pure (bits_U x y (fun a b => a ^^^ b))
theorem bin_andNot : binOp .andNot t (U x) (U y) = pure (U (x &&& ~~~y)) :=
  congrArg pure (bits_U x y (fun a b => a &&& ~~~b))
theorem wrapU {n : Int} (z : W64) (h : n % 18446744073709551616 = z.toNat) : (.int .u64 (IntKind.u64.wrap n) : Value) = U z := by
  rw [IntKind.wrap_u64, h]; rfl
theorem bin_add : binOp .add t (U x) (U y) = pure (U (x + y)) :=
  congrArg pure (wrapU _ (by rw [BitVec.toNat_add]; omega))
theorem bin_sub : binOp .sub t (U x) (U y) = pure (U (x - y)) :=
  congrArg pure (wrapU _ (by rw [BitVec.toNat_sub]; have := x.isLt; have := y.isLt; omega))
theorem bin_mul : binOp .mul t (U x) (U y) = pure (U (x * y)) :=
  congrArg pure (wrapU _ (by rw [BitVec.toNat_mul, Int.natCast_emod, Int.natCast_mul]; rfl))
theorem cast_inj : ((x.toNat : Int) = y.toNat) ↔ x = y := by
  rw [Int.ofNat_inj]; exact BitVec.toNat_inj
theorem bin_eql : binOp .eql t (U x) (U y) = pure (.bool (x == y)) := by
  have e : ((x.toNat : Int) == (y.toNat : Int)) = (x == y) := by rw [Bool.eq_iff_iff]; simp [cast_inj]
  rw [← e]; rfl
theorem bin_neq : binOp .neq t (U x) (U y) = pure (.bool (x != y)) := by
  have e : ((x.toNat : Int) != (y.toNat : Int)) = (x != y) := by rw [Bool.eq_iff_iff]; simp [cast_inj]
  rw [← e]; rfl
theorem pow64 : (18446744073709551616 : Nat) = 2 ^ 64 := by decide
theorem bin_shl_nat (k : IntKind) (n : Nat) : binOp .shl t (U x) (.int k (n : Int)) = pure (U (x <<< n)) := by
  show Op.shift .shl .u64 (x.toNat : Int) k (n : Int) = _
  unfold Op.shift
  rw [if_neg (by omega)]
  refine congrArg pure (wrapU _ ?_)
  rw [BitVec.toNat_shiftLeft, Nat.shiftLeft_eq, Int.toNat_natCast]
  show ((x.toNat : Int) * 2 ^ (min n 64)) % ((18446744073709551616 : Nat) : Int) = _
  rw [pow64]
  by_cases h : n ≤ 64
  · rw [Nat.min_eq_left h]; norm_cast
  · rw [Nat.min_eq_right (by omega)]
    have e1 : x.toNat * 2 ^ n % 2 ^ 64 = 0 := by
      obtain ⟨d, rfl⟩ : ∃ d, n = 64 + d := ⟨n - 64, by omega⟩
      rw [Nat.pow_add, ← Nat.mul_assoc, Nat.mul_right_comm]; exact Nat.mul_mod_left _ _
    rw [e1]; norm_cast; exact Nat.mul_mod_left _ _
theorem bin_shr_nat (k : IntKind) (n : Nat) : binOp .shr t (U x) (.int k (n : Int)) = pure (U (x >>> n)) := by
  show Op.shift .shr .u64 (x.toNat : Int) k (n : Int) = _
  unfold Op.shift
  rw [if_neg (by omega)]
  refine congrArg pure (congrArg (Value.int .u64) ?_)
  rw [BitVec.toNat_ushiftRight, Nat.shiftRight_eq_div_pow, Int.toNat_natCast]
  show Int.fdiv (x.toNat : Int) (2 ^ (min n 64)) = _
  have hf : ∀ m : Nat, Int.fdiv (x.toNat : Int) (2 ^ m) = ((x.toNat / 2 ^ m : Nat) : Int) := by
    intro m
    rw [Int.fdiv_eq_ediv_of_nonneg _ (Int.pow_nonneg (by decide))]; norm_cast
  rw [hf]
  by_cases h : n ≤ 64
  · rw [Nat.min_eq_left h]
  · rw [Nat.min_eq_right (by omega), Nat.div_eq_of_lt x.isLt, Nat.div_eq_of_lt]
    exact Nat.lt_of_lt_of_le x.isLt (Nat.pow_le_pow_right (by decide) (by omega))
theorem bin_shl (k : IntKind) (n : Int) (h : 0 ≤ n) : binOp .shl t (U x) (.int k n) = pure (U (x <<< n.toNat)) := by
  obtain ⟨m, rfl⟩ := Int.eq_ofNat_of_zero_le h
  rw [Int.toNat_natCast]; exact bin_shl_nat t x k m
theorem bin_shr (k : IntKind) (n : Int) (h : 0 ≤ n) : binOp .shr t (U x) (.int k n) = pure (U (x >>> n.toNat)) := by
  obtain ⟨m, rfl⟩ := Int.eq_ofNat_of_zero_le h
  rw [Int.toNat_natCast]; exact bin_shr_nat t x k m
theorem bin_shl_U : binOp .shl t (U x) (U y) = pure (U (x <<< y.toNat)) := bin_shl_nat t x .u64 y.toNat
theorem bin_shr_U : binOp .shr t (U x) (U y) = pure (U (x >>> y.toNat)) := bin_shr_nat t x .u64 y.toNat
theorem indexAt_U (v : Value) : Instr.indexAt t v (U x) = Instr.indexAt t v (.int .u64 (x.toNat : Int)) := rfl
theorem asIntOf_U : asIntOf (U x) = pure (.u64, (x.toNat : Int)) := rfl
theorem eqGuard_U (op : BinOp) (a b : Operand) : eqGuard op t a b (U x) (U y) = pure () := by
  unfold eqGuard U; cases op <;> rfl
theorem unary_neg : Op.unary .neg (U x) = pure (U (-x)) :=
  congrArg pure (wrapU _ (by rw [BitVec.toNat_neg]; have := x.isLt; omega))
theorem unary_xor : Op.unary .xor (U x) = pure (U (~~~x)) := by
  have e : BitVec.ofInt 64 IntKind.u64.max = BitVec.allOnes 64 := by decide
  refine congrArg pure ?_
  show (.int .u64 (IntKind.u64.wrap ((BitVec.ofInt 64 IntKind.u64.max ^^^ BitVec.ofInt 64 (x.toNat : Int)).toNat : Int)) : Value) = _
  rw [ofInt_toNat64, wrap_toNat, e, BitVec.allOnes_xor]; rfl
end
end Go.Proofs.Wit
