/- Laws of a calculus of walks, proved for any program: no condition beyond those that each theorem states. -/
import Derived.Test.YtoiafcoaeomnlaaDoorWrul
namespace Go.Proofs.Wit
open Go Go.RowKit
section
variable {P : Program} {t : TypeId} {x y : W64} {a b : Int}
theorem eqg_int (op : BinOp) (t : TypeId) (p q : Operand) (k k' : IntKind) (a b : Int) : eqGuard op t p q (.int k a) (.int k' b) = pure () := by unfold eqGuard; cases op <;> rfl
theorem eqg_bool (op : BinOp) (t : TypeId) (p q : Operand) (a b : Bool) : eqGuard op t p q (.bool a) (.bool b) = pure () := by unfold eqGuard; cases op <;> rfl
theorem bin_pure {op : BinOp} {u v z : Value} (h1 : ∀ p q, eqGuard op t p q u v = pure ()) (h2 : binOp op t u v = pure z) : Bin P op t u v z := by
  intro p q w; rw [h1, h2]; rfl
theorem bU (op : BinOp) {z : Value} (h2 : binOp op t (U x) (U y) = pure z) : Bin P op t (U x) (U y) z := bin_pure (fun p q => eqGuard_U t x y op p q) h2
theorem bAnd : Bin P .and t (U x) (U y) (U (x &&& y)) := bU _ (bin_and t x y)
theorem bOr : Bin P .or t (U x) (U y) (U (x ||| y)) := bU _ (bin_or t x y)
theorem bXor : Bin P .xor t (U x) (U y) (U (x ^^^ y)) := bU _ (bin_xor t x y)
theorem bAndNot : Bin P .andNot t (U x) (U y) (U (x &&& ~~~y)) := bU _ (bin_andNot t x y)
theorem bAddU : Bin P .add t (U x) (U y) (U (x + y)) := bU _ (bin_add t x y)
theorem bSubU : Bin P .sub t (U x) (U y) (U (x - y)) := bU _ (bin_sub t x y)
theorem bMulU : Bin P .mul t (U x) (U y) (U (x * y)) := bU _ (bin_mul t x y)
theorem bEqU : Bin P .eql t (U x) (U y) (.bool (x == y)) := bU _ (bin_eql t x y)
theorem bNeU : Bin P .neq t (U x) (U y) (.bool (x != y)) := bU _ (bin_neq t x y)
theorem bShlU : Bin P .shl t (U x) (U y) (U (x <<< y.toNat)) := bU _ (bin_shl_U t x y)
theorem bShrU : Bin P .shr t (U x) (U y) (U (x >>> y.toNat)) := bU _ (bin_shr_U t x y)
theorem eqg_UI (op : BinOp) (p q : Operand) (k : IntKind) (b : Int) : eqGuard op t p q (U x) (.int k b) = pure () := by unfold eqGuard U; cases op <;> rfl
theorem bShl (j : Nat) (h : b = j) {k : IntKind} : Bin P .shl t (U x) (.int k b) (U (x <<< j)) := by subst h; exact bin_pure (fun p q => eqg_UI _ p q k _) (bin_shl_nat t x k j)
theorem bShr (j : Nat) (h : b = j) {k : IntKind} : Bin P .shr t (U x) (.int k b) (U (x >>> j)) := by subst h; exact bin_pure (fun p q => eqg_UI _ p q k _) (bin_shr_nat t x k j)
theorem bI (op : BinOp) {k : IntKind} {z : Value} (h2 : binOp op t (.int k a) (.int k b) = pure z) : Bin P op t (.int k a) (.int k b) z := bin_pure (fun p q => eqg_int op t p q k k a b) h2
theorem bAdd (h : -9223372036854775808 ≤ a + b ∧ a + b ≤ 9223372036854775807) : Bin P .add t (.int .i64 a) (.int .i64 b) (.int .i64 (a + b)) := bI _ (by rw [binOp_add]; show pure (Value.int .i64 (IntKind.i64.wrap (a + b))) = _; rw [IntWalk.i64_in _ h])
theorem bSub (h : -9223372036854775808 ≤ a - b ∧ a - b ≤ 9223372036854775807) : Bin P .sub t (.int .i64 a) (.int .i64 b) (.int .i64 (a - b)) := bI _ (by rw [binOp_sub]; show pure (Value.int .i64 (IntKind.i64.wrap (a - b))) = _; rw [IntWalk.i64_in _ h])
theorem wrapN64 {a : Int} (h : 0 ≤ a ∧ a < 18446744073709551616) : IntKind.u64.wrap a = a := by
  rw [IntKind.wrap_u64]; omega
/-- a difference, as a number that is known -/
theorem bSubE {c : Int} (e : a - b = c) (h : -9223372036854775808 ≤ c ∧ c ≤ 9223372036854775807) : Bin P .sub t (.int .i64 a) (.int .i64 b) (.int .i64 c) := e ▸ bSub (by omega)
theorem bAddE {c : Int} (e : a + b = c) (h : -9223372036854775808 ≤ c ∧ c ≤ 9223372036854775807) : Bin P .add t (.int .i64 a) (.int .i64 b) (.int .i64 c) := e ▸ bAdd (by omega)
theorem bEq {k : IntKind} : Bin P .eql t (.int k a) (.int k b) (.bool (a == b)) := bI _ (binOp_eql ..)
theorem bNe {k : IntKind} : Bin P .neq t (.int k a) (.int k b) (.bool (a != b)) := bI _ (binOp_neq ..)
theorem bLt {k : IntKind} : Bin P .lss t (.int k a) (.int k b) (.bool (decide (a < b))) := bI _ (binOp_lss ..)
theorem bLe {k : IntKind} : Bin P .leq t (.int k a) (.int k b) (.bool (decide (a ≤ b))) := bI _ (binOp_leq ..)
theorem bGt {k : IntKind} : Bin P .gtr t (.int k a) (.int k b) (.bool (decide (a > b))) := bI _ (binOp_gtr ..)
theorem bGe {k : IntKind} : Bin P .geq t (.int k a) (.int k b) (.bool (decide (a ≥ b))) := bI _ (binOp_geq ..)
theorem eqIn_bool (dd : Nat) {p q : Bool} (hu : P.underlying t = some .bool) (w : World) : (Op.equalIn (dd + 1) t (.bool p) (.bool q)).run P w = .ok (p == q) w := by
  simp only [Op.equalIn, Sem.run_bind, run_underlying hu, Result.andThen_ok]; rfl
theorem eq_bool {p q : Bool} (hu : P.underlying t = some .bool) (w : World) : (Op.equal t (.bool p) (.bool q)).run P w = .ok (p == q) w := eqIn_bool 9999 hu w
theorem bEqB {p q : Bool} (hu : P.underlying t = some .bool) : Bin P .eql t (.bool p) (.bool q) (.bool (p == q)) := by
  intro c d w
  rw [eqg_bool]
  show (do pure (Value.bool (← Op.equal t (.bool p) (.bool q))) : Sem Value).run P w = _
  rw [Sem.run_bind, eq_bool hu]; rfl
theorem bNeB {p q : Bool} (hu : P.underlying t = some .bool) : Bin P .neq t (.bool p) (.bool q) (.bool (p != q)) := by
  intro c d w
  rw [eqg_bool]
  show (do pure (Value.bool (!(← Op.equal t (.bool p) (.bool q)))) : Sem Value).run P w = _
  rw [Sem.run_bind, eq_bool hu]; rfl
theorem uNot {p : Bool} : Una P .not (.bool p) (.bool (!p)) := fun _ => rfl
theorem uNegU : Una P .neg (U x) (U (-x)) := fun w => by rw [unary_neg]; rfl
theorem uXorU : Una P .xor (U x) (U (~~~x)) := fun w => by rw [unary_xor]; rfl
theorem uNeg (h : -9223372036854775808 ≤ -a ∧ -a ≤ 9223372036854775807) : Una P .neg (.int .i64 a) (.int .i64 (-a)) := fun w => by
  show (pure (Value.int .i64 (IntKind.i64.wrap (0 - a))) : Sem Value).run P w = _
  rw [IntWalk.i64_in _ (by omega), Int.zero_sub]; rfl
/-- a number of another kind, as an int -/
theorem cInt {s t : TypeId} {k k' : IntKind} {c : TypeDesc} (hs : P.underlying s = some c) (ht : P.underlying t = some (.int k)) (hk : k.wrap a = a) : Cnv P s t (.int k' a) (.int k a) := by
  intro w
  simp only [convert, Sem.run_bind, run_underlying hs, run_underlying ht, Result.andThen_ok]
  cases c <;> simp [Conv.intToInt, hk]
end
end Go.Proofs.Wit
