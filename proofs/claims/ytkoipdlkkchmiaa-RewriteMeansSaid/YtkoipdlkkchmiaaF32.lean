/- Laws of walks, for any program, under the conditions that each theorem states. -/
import Derived.Test.YtkoipdlkkchmiaaF23
import Derived.Test.YtkoipdlkkchmiaaF14
import Derived.Test.YtkoipdlkkchmiaaF30
namespace Go.Proofs.Wit
open Go Go.RowKit
/-- what a walk from the parts up gives, in two cases -/
theorem UpP.cases0 {r : Rul} (hr : RulOk r) {f o : List NV} {e : Int} (h : UpP r f o e) (h0 : chkF f = 0) : (e = 8 ∧ o = []) ∨ (e = 0 ∧ o = bT (upT r (topT f)) ∧ Cf o (upT r (topT f))) := by
  rcases h with h | ⟨_, _, rfl, rfl⟩ | ⟨_, h1, rfl, rfl⟩
  · exact absurd h0 h.1
  · exact .inl ⟨rfl, rfl⟩
  · exact .inr ⟨rfl, rfl, rfl, h1 _ (mem_subT _), upT_ok hr (chkF_zero.1 h0).top⟩
theorem NnfP.cases0 {f o : List NV} {e : Int} (h : NnfP f o e) (h0 : chkF f = 0) : o = bT (nnT (topT f)).1 ∧ ((e = 8 ∧ o = []) ∨ (e = 0 ∧ Cf o (nnT (topT f)).1)) := by
  rcases h with h | ⟨_, h1, rfl⟩
  · exact absurd h0 h.1
  · refine ⟨h1, ?_⟩
    by_cases h2 : o = []
    · exact .inl ⟨if_pos h2, h2⟩
    · exact .inr ⟨if_neg h2, h1, h2, (nnT_ok (chkF_zero.1 h0).top).1⟩
theorem UpP.sim0 {f o : List NV} {e : Int} (h : UpP simT f o e) (h0 : chkF f = 0) : e = 0 ∧ Cf o (upT simT (topT f)) := by
  rcases h.small simT_ok sim_small KC.nil (by have := (chkF_zero.1 h0).len; simp; omega) with h | ⟨_, _, _, _, h3, h4, h5⟩
  · exact absurd h0 h.1
  · exact ⟨h5, h3.symm, h4, upT_ok simT_ok (chkF_zero.1 h0).top⟩
end Go.Proofs.Wit
namespace Go.Proofs.Wit
open Go Go.RowKit
/-! bytes -/
abbrev B8 := BitVec 8
def B (x : B8) : Value := .int .u8 (x.toNat : Int)
section
variable (t : TypeId) (x y : B8)
theorem ofInt_toNat8 (x : B8) : BitVec.ofInt 8 (x.toNat : Int) = x := by
  rw [BitVec.ofInt_natCast]; simp
theorem wrap_toNat8 (x : B8) : IntKind.u8.wrap (x.toNat : Int) = x.toNat := by
  rw [IntKind.wrap_u8]; have := x.isLt; omega
theorem bits_B (f : B8 → B8 → B8) : (.int .u8 (IntKind.u8.wrap ((f (BitVec.ofInt 8 (x.toNat : Int)) (BitVec.ofInt 8 (y.toNat : Int))).toNat : Int)) : Value) = B (f x y) := by
  rw [ofInt_toNat8, ofInt_toNat8, wrap_toNat8]; rfl
theorem wrapB {n : Int} (z : B8) (h : n % 256 = z.toNat) : (.int .u8 (IntKind.u8.wrap n) : Value) = B z := by
  rw [IntKind.wrap_u8, h]; rfl
theorem cast_inj8 : ((x.toNat : Int) = y.toNat) ↔ x = y := by
  rw [Int.ofNat_inj]; exact BitVec.toNat_inj
theorem binB_eql : binOp .eql t (B x) (B y) = pure (.bool (x == y)) := by
  have e : ((x.toNat : Int) == (y.toNat : Int)) = (x == y) := by rw [Bool.eq_iff_iff]; simp [cast_inj8]
  rw [← e]; rfl
theorem binB_neq : binOp .neq t (B x) (B y) = pure (.bool (x != y)) := by
  have e : ((x.toNat : Int) != (y.toNat : Int)) = (x != y) := by rw [Bool.eq_iff_iff]; simp [cast_inj8]
  rw [← e]; rfl
theorem pow8 : (256 : Nat) = 2 ^ 8 := by decide
theorem binB_shl (k : IntKind) (n : Nat) : binOp .shl t (B x) (.int k (n : Int)) = pure (B (x <<< n)) := by
  show Op.shift .shl .u8 (x.toNat : Int) k (n : Int) = _
  unfold Op.shift
  rw [if_neg (by omega)]
  refine congrArg pure (wrapB _ ?_)
  rw [BitVec.toNat_shiftLeft, Nat.shiftLeft_eq, Int.toNat_natCast]
  show ((x.toNat : Int) * 2 ^ (min n 8)) % ((256 : Nat) : Int) = _
  rw [pow8]
  by_cases h : n ≤ 8
  · rw [Nat.min_eq_left h]; norm_cast
  · rw [Nat.min_eq_right (by omega)]
    have e1 : x.toNat * 2 ^ n % 2 ^ 8 = 0 := by
      obtain ⟨d, rfl⟩ : ∃ d, n = 8 + d := ⟨n - 8, by omega⟩
      rw [Nat.pow_add, ← Nat.mul_assoc, Nat.mul_right_comm]; exact Nat.mul_mod_left _ _
    rw [e1]; norm_cast; exact Nat.mul_mod_left _ _
theorem binB_shr (k : IntKind) (n : Nat) : binOp .shr t (B x) (.int k (n : Int)) = pure (B (x >>> n)) := by
  show Op.shift .shr .u8 (x.toNat : Int) k (n : Int) = _
  unfold Op.shift
  rw [if_neg (by omega)]
  refine congrArg pure (congrArg (Value.int .u8) ?_)
  rw [BitVec.toNat_ushiftRight, Nat.shiftRight_eq_div_pow, Int.toNat_natCast]
  show Int.fdiv (x.toNat : Int) (2 ^ (min n 8)) = _
  have hf : ∀ m : Nat, Int.fdiv (x.toNat : Int) (2 ^ m) = ((x.toNat / 2 ^ m : Nat) : Int) := by
    intro m
    rw [Int.fdiv_eq_ediv_of_nonneg _ (Int.pow_nonneg (by decide))]; norm_cast
  rw [hf]
  by_cases h : n ≤ 8
  · rw [Nat.min_eq_left h]
  · rw [Nat.min_eq_right (by omega), Nat.div_eq_of_lt x.isLt, Nat.div_eq_of_lt]
    exact Nat.lt_of_lt_of_le x.isLt (Nat.pow_le_pow_right (by decide) (by omega))
theorem eqGuard_B (op : BinOp) (a b : Operand) : eqGuard op t a b (B x) (B y) = pure () := by
  unfold eqGuard B; cases op <;> rfl
theorem unaryB_xor : Op.unary .xor (B x) = pure (B (~~~x)) := by
  have e : BitVec.ofInt 8 IntKind.u8.max = BitVec.allOnes 8 := by decide
  refine congrArg pure ?_
  show (.int .u8 (IntKind.u8.wrap ((BitVec.ofInt 8 IntKind.u8.max ^^^ BitVec.ofInt 8 (x.toNat : Int)).toNat : Int)) : Value) = _
  rw [ofInt_toNat8, wrap_toNat8, e, BitVec.allOnes_xor]; rfl
end
section
variable {P : Program} {t : TypeId} {x y : B8} {b : Int}
theorem bB (op : BinOp) {z : Value} (h2 : binOp op t (B x) (B y) = pure z) : Bin P op t (B x) (B y) z := bin_pure (fun p q => eqGuard_B t x y op p q) h2
theorem bAndB : Bin P .and t (B x) (B y) (B (x &&& y)) := bB _ (congrArg pure (bits_B x y (fun a b => a &&& b)))
theorem bOrB : Bin P .or t (B x) (B y) (B (x ||| y)) := bB _ (congrArg pure (bits_B x y (fun a b => a ||| b)))
theorem bXorB : Bin P .xor t (B x) (B y) (B (x ^^^ y)) := bB _ (congrArg pure (bits_B x y (fun a b => a ^^^ b)))
theorem bAndNotB : Bin P .andNot t (B x) (B y) (B (x &&& ~~~y)) := bB _ (congrArg pure (bits_B x y (fun a b => a &&& ~~~b)))
theorem bEqB8 : Bin P .eql t (B x) (B y) (.bool (x == y)) := bB _ (binB_eql t x y)
theorem bNeB8 : Bin P .neq t (B x) (B y) (.bool (x != y)) := bB _ (binB_neq t x y)
theorem bNeB8V {v : Bool} (e : (x != y) = v) : Bin P .neq t (B x) (B y) (.bool v) := e ▸ bNeB8
theorem eqg_BI (op : BinOp) (p q : Operand) (k : IntKind) (b : Int) : eqGuard op t p q (B x) (.int k b) = pure () := by unfold eqGuard B; cases op <;> rfl
theorem bShlB (j : Nat) (h : b = j) {k : IntKind} : Bin P .shl t (B x) (.int k b) (B (x <<< j)) := by subst h; exact bin_pure (fun p q => eqg_BI _ p q k _) (binB_shl t x k j)
theorem bShrB (j : Nat) (h : b = j) {k : IntKind} : Bin P .shr t (B x) (.int k b) (B (x >>> j)) := by subst h; exact bin_pure (fun p q => eqg_BI _ p q k _) (binB_shr t x k j)
theorem uXorB : Una P .xor (B x) (B (~~~x)) := fun w => by rw [unaryB_xor]; rfl
end
/-! arrays of elements of many cells -/
section
variable {P : Program} {r : Option Nat} {f : FuncId} {R : Value → World → Prop} {w0 : World} {S : List Nat} {Y : List (Nat × Obj)} {n : Nat} {k : List Item} {l : Fl} {h : Hl}
variable {ops : Array Oper} {i d : Nat} {rest : List Nat} {ty : TypeId} {pos : String} {aft : Array Edge} {g : Option (Nat × Bool)}
theorem idxAN_run {t e : TypeId} {len sz : Nat} (hu : P.underlying t = some (.array len e)) (he : ∀ w, (sizeOf e).run P w = .ok sz w) (b o : Nat) (kd : IntKind) (j : Nat) (hj : j < len) (w' : World) :
    (Instr.indexAt t (.pointer (some ⟨b, o, none⟩)) (.int kd j)).run P w' = .ok (.pointer (some ⟨b, o + j * sz, none⟩)) w' := by
  simp only [Instr.indexAt, asIntOf, Sem.run_bind, Sem.run_pure, Result.andThen_ok, run_underlying hu, Instr.sureAddr]
  rw [if_pos ⟨by omega, by omega⟩]
  simp only [Sem.run_bind, he, Result.andThen_ok, Sem.run_pure, Addr.add, Int.toNat_natCast]
  split
  · rename_i h0; rw [h0]; rfl
  · rfl
theorem Vop.idxAN {t e : TypeId} {x y : Operand} {b o len sz : Nat} {kd : IntKind} {j : Int} (ho : ops[i]? = some ⟨some d, .indexAddr t x y, ty, pos, aft, g⟩) (hw : wantL ops l g = true)
    (hx : opd l x = some (.pointer (some ⟨b, o, none⟩))) (hy : opd l y = some (.int kd j)) (hd : Nat.blt d n = true) (hu : P.underlying t = some (.array len e)) (he : ∀ w, (sizeOf e).run P w = .ok sz w)
    (j' : Nat) (hj : j = j') (hlt : j' < len) (o' : Nat) (hO : o + j' * sz = o') : Vop P w0 S n h ops i l d (.pointer (some ⟨b, o', none⟩)) := by
  subst hj; subst hO
  exact .of ho hw rfl rfl hd (fun t w Ds _ hF _ => ⟨.value (.pointer (some ⟨b, o + j' * sz, none⟩)), by
    simp only [execOp, hF.opd hx, hF.opd hy, Sem.run_bind, idxAN_run hu he b o kd j' hlt w]; rfl, rfl⟩)
end
/-! four worlds -/
abbrev W4 := Nat → B8
def w4c (m : W4) : Array Value := #[B (m 0), B (m 1), B (m 2), B (m 3), B (m 4), B (m 5), B (m 6), B (m 7), B (m 8), B (m 9), B (m 10), B (m 11)]
theorem w4c_get {m : W4} : ∀ {j : Nat}, j < 12 → (w4c m)[j]? = some (B (m j))
  | 0, _ => rfl
  | 1, _ => rfl
  | 2, _ => rfl
  | 3, _ => rfl
  | 4, _ => rfl
  | 5, _ => rfl
  | 6, _ => rfl
  | 7, _ => rfl
  | 8, _ => rfl
  | 9, _ => rfl
  | 10, _ => rfl
  | 11, _ => rfl
  | _ + 12, h => by omega
theorem w4_at {w : World} {b j : Nat} {m : W4} {t : TypeId} {fr : Nat × Nat} (hb : w.heap[b]? = some (.cells (w4c m) t fr)) (hj : j < 12) : w.cell? ⟨b, j, none⟩ = some (B (m j)) := by
  unfold World.cell?
  simp only [hb]
  exact w4c_get hj
end Go.Proofs.Wit
namespace Go.Proofs.Wit
open Go Go.RowKit
/-! truth at four worlds, as masks -/
def nt (x : B8) : B8 := 15#8 &&& ~~~x
def Lo (x : B8) : Prop := x &&& 15#8 = x
theorem Lo.lt {x : B8} (h : Lo x) : ∃ n, n < 16 ∧ x = BitVec.ofNat 8 n := by
  refine ⟨x.toNat, ?_, by simp⟩
  have : (x &&& 15#8).toNat = x.toNat := by rw [h]
  rw [BitVec.toNat_and] at this
  have h2 : x.toNat &&& 15 ≤ 15 := Nat.and_le_right
  have h3 : (15#8 : B8).toNat = 15 := rfl
  rw [h3] at this
  omega
theorem lo1 (p : B8 → Bool) (h : (List.range 16).all (fun n => p (BitVec.ofNat 8 n)) = true) {x : B8} (hx : Lo x) : p x = true := by
  obtain ⟨n, hn, rfl⟩ := hx.lt
  exact List.all_eq_true.1 h n (List.mem_range.2 hn)
theorem lo2 (p : B8 → B8 → Bool) (h : (List.range 16).all (fun n => (List.range 16).all fun m => p (BitVec.ofNat 8 n) (BitVec.ofNat 8 m)) = true) {x y : B8} (hx : Lo x) (hy : Lo y) : p x y = true := by
  obtain ⟨n, hn, rfl⟩ := hx.lt
  obtain ⟨m, hm, rfl⟩ := hy.lt
  exact List.all_eq_true.1 (List.all_eq_true.1 h n (List.mem_range.2 hn)) m (List.mem_range.2 hm)
theorem lo_and {x y : B8} (h : Lo x) : Lo (x &&& y) := by
  unfold Lo at *
  rw [BitVec.and_assoc, BitVec.and_comm y, ← BitVec.and_assoc, h]
theorem lo_or {x y : B8} (h : Lo x) (h' : Lo y) : Lo (x ||| y) := by
  have := lo2 (fun x y => (x ||| y) &&& 15#8 == (x ||| y)) (by decide +kernel) h h'
  exact eq_of_beq this
theorem lo_nt (x : B8) : Lo (nt x) := lo_and (rfl : Lo 15#8)
theorem lo_15 : Lo 15#8 := rfl
theorem lo_0 : Lo 0#8 := rfl
/-- successors of a world for the agents of a group -/
def gbit (g a : Nat) : Bool := decide (g / 2 ^ a % 2 = 1)
def toB (m : W4) (g : Nat) (both : Bool) (w : Nat) : Nat → B8
  | 0 => if both then 15#8 else 0#8
  | a + 1 => if gbit g a = true then (if both = true then toB m g both w a &&& m (3 * w + 1 + a) else toB m g both w a ||| (m (3 * w + 1 + a) &&& 15#8)) else toB m g both w a
def afB (m : W4) (g : Nat) (both : Bool) (set : B8) : Nat → B8
  | 0 => 0#8
  | w + 1 => if (toB m g both w 2 &&& ~~~set == 0#8) = true then afB m g both set w ||| (1#8 <<< w) else afB m g both set w
abbrev af (m : W4) (g : Nat) (both : Bool) (set : B8) : B8 := afB m g both set 4
def cmB (m : W4) (g : Nat) (x y : B8) : Nat → B8
  | 0 => 15#8
  | k + 1 => af m g false ((~~~x &&& 15#8) ||| (y &&& cmB m g x y k))
abbrev cm (m : W4) (g : Nat) (x y : B8) : B8 := cmB m g x y 5
def fcB (m : W4) (i : Nat) : Nat → B8
  | 0 => 0#8
  | w + 1 => fcB m i w ||| (((m (3 * w) >>> i) &&& 1#8) <<< w)
theorem toB_lo (m : W4) (g : Nat) (both : Bool) (w : Nat) : ∀ a, Lo (toB m g both w a)
  | 0 => by
    cases both
    · exact lo_0
    · exact lo_15
  | a + 1 => by
    rw [toB]
    split
    · split
      · exact lo_and (toB_lo m g both w a)
      · exact lo_or (toB_lo m g both w a) (by unfold Lo; rw [BitVec.and_assoc, BitVec.and_self])
    · exact toB_lo m g both w a
def f4 (a b c d : Bool) : B8 := ((((if a then 1#8 else 0#8) ||| (if b then 2#8 else 0#8)) ||| (if c then 4#8 else 0#8)) ||| (if d then 8#8 else 0#8))
theorem af_f4 (m : W4) (g : Nat) (both : Bool) (set : B8) : af m g both set = f4 (toB m g both 0 2 &&& ~~~set == 0#8) (toB m g both 1 2 &&& ~~~set == 0#8) (toB m g both 2 2 &&& ~~~set == 0#8) (toB m g both 3 2 &&& ~~~set == 0#8) := by
  unfold af
  rw [afB, afB, afB, afB, afB]
  generalize (toB m g both 0 2 &&& ~~~set == 0#8) = a
  generalize (toB m g both 1 2 &&& ~~~set == 0#8) = b
  generalize (toB m g both 2 2 &&& ~~~set == 0#8) = c
  generalize (toB m g both 3 2 &&& ~~~set == 0#8) = d
  cases a <;> cases b <;> cases c <;> cases d <;> rfl
theorem af_lo (m : W4) (g : Nat) (both : Bool) (set : B8) : Lo (af m g both set) := by
  rw [af_f4]
  generalize (toB m g both 0 2 &&& ~~~set == 0#8) = a
  generalize (toB m g both 1 2 &&& ~~~set == 0#8) = b
  generalize (toB m g both 2 2 &&& ~~~set == 0#8) = c
  generalize (toB m g both 3 2 &&& ~~~set == 0#8) = d
  cases a <;> cases b <;> cases c <;> cases d <;> rfl
theorem af_15 (m : W4) (g : Nat) (both : Bool) : af m g both 15#8 = 15#8 := by
  rw [af_f4]
  have h : ∀ w, (toB m g both w 2 &&& ~~~15#8 == 0#8) = true := fun w => lo1 (fun x => x &&& ~~~15#8 == 0#8) (by decide +kernel) (toB_lo m g both w 2)
  rw [h, h, h, h]; rfl
theorem cm_lo (m : W4) (g : Nat) (x y : B8) : ∀ k, Lo (cmB m g x y k)
  | 0 => lo_15
  | _k + 1 => af_lo ..
theorem cm_x0 (m : W4) (g : Nat) (y : B8) : ∀ k, cmB m g 0#8 y k = 15#8
  | 0 => rfl
  | k + 1 => by
    rw [cmB, cm_x0 m g y k]
    have h : (~~~0#8 &&& 15#8) ||| (y &&& 15#8) = (15#8 : B8) := by
      have := lo1 (fun z => (~~~0#8 &&& 15#8) ||| z == 15#8) (by decide +kernel) (x := y &&& 15#8) (by unfold Lo; rw [BitVec.and_assoc, BitVec.and_self])
      exact eq_of_beq this
    rw [h]; exact af_15 m g false
theorem cm_y15 (m : W4) (g : Nat) (x : B8) : ∀ k, cmB m g x 15#8 k = 15#8
  | 0 => rfl
  | k + 1 => by
    rw [cmB, cm_y15 m g x k]
    have h : (~~~x &&& 15#8) ||| (15#8 &&& 15#8) = (15#8 : B8) := by
      have := lo1 (fun z => z ||| (15#8 &&& 15#8) == 15#8) (by decide +kernel) (x := ~~~x &&& 15#8) (by unfold Lo; rw [BitVec.and_assoc, BitVec.and_self])
      exact eq_of_beq this
    rw [h]; exact af_15 m g false
theorem fc_bit (z : B8) (i : Nat) : (z >>> i) &&& 1#8 = 0#8 ∨ (z >>> i) &&& 1#8 = 1#8 := by
  generalize z >>> i = v
  have h : (v &&& 1#8).toNat = v.toNat % 2 := by
    rw [BitVec.toNat_and, show (1#8 : B8).toNat = 1 from rfl, Nat.and_one_is_mod]
  rcases Nat.mod_two_eq_zero_or_one v.toNat with h2 | h2
  · exact .inl (BitVec.eq_of_toNat_eq (by rw [h, h2]; rfl))
  · exact .inr (BitVec.eq_of_toNat_eq (by rw [h, h2]; rfl))
theorem fc_lo (m : W4) (i : Nat) : Lo (fcB m i 4) := by
  rw [fcB, fcB, fcB, fcB, fcB]
  rcases fc_bit (m (3 * 0)) i with h0 | h0 <;> rcases fc_bit (m (3 * 1)) i with h1 | h1 <;> rcases fc_bit (m (3 * 2)) i with h2 | h2 <;> rcases fc_bit (m (3 * 3)) i with h3 | h3 <;> rw [h0, h1, h2, h3] <;> rfl
/-- of an operator -/
def opM (m : W4) (op i g : Int) (x y : B8) : B8 :=
  if op = 1 then 15#8 else if op = 2 then 0#8 else if op = 3 then fcB m i.toNat 4 else if op = 4 then nt x else if op = 5 then x &&& y else if op = 6 then x ||| y
  else if op = 7 then nt x ||| y else if op = 8 then nt (x ^^^ y) else if op = 9 then af m (2 ^ i.toNat) false x else if op = 10 then nt (af m (2 ^ i.toNat) false (nt x))
  else if op = 11 then af m g.toNat false x else if op = 12 then af m g.toNat true x else if op = 13 then cm m g.toNat x y else 0#8
def truM (m : W4) : Tr → B8
  | .leaf op i _ g => opM m op i g 0#8 0#8
  | .un op i _ g a => opM m op i g (truM m a) 0#8
  | .bin op i _ g a b => opM m op i g (truM m a) (truM m b)
theorem lo_ite {c : Prop} [Decidable c] {a b : B8} (h : Lo a) (h' : Lo b) : Lo (if c then a else b) := by
  by_cases hc : c
  · rw [if_pos hc]; exact h
  · rw [if_neg hc]; exact h'
theorem opM_lo {m : W4} {op i g : Int} {x y : B8} (hx : Lo x) (hy : Lo y) : Lo (opM m op i g x y) :=
  lo_ite lo_15 (lo_ite lo_0 (lo_ite (fc_lo ..) (lo_ite (lo_nt x) (lo_ite (lo_and hx) (lo_ite (lo_or hx hy) (lo_ite (lo_or (lo_nt x) hy) (lo_ite (lo_nt _) (lo_ite (af_lo ..) (lo_ite (lo_nt _) (lo_ite (af_lo ..) (lo_ite (af_lo ..) (lo_ite (cm_lo ..) lo_0))))))))))))
theorem truM_lo (m : W4) : ∀ t, Lo (truM m t)
  | .leaf .. => opM_lo lo_0 lo_0
  | .un .. => opM_lo (truM_lo m _) lo_0
  | .bin .. => opM_lo (truM_lo m _) (truM_lo m _)
section
variable {x y : B8}
theorem nt_nt (h : Lo x) : nt (nt x) = x := eq_of_beq (lo1 (fun x => nt (nt x) == x) (by decide +kernel) h)
theorem nt_and (h : Lo x) (h' : Lo y) : nt (x &&& y) = nt x ||| nt y := eq_of_beq (lo2 (fun x y => nt (x &&& y) == (nt x ||| nt y)) (by decide +kernel) h h')
theorem nt_or (h : Lo x) (h' : Lo y) : nt (x ||| y) = nt x &&& nt y := eq_of_beq (lo2 (fun x y => nt (x ||| y) == (nt x &&& nt y)) (by decide +kernel) h h')
theorem nt_imp (h : Lo x) (h' : Lo y) : nt (nt x ||| y) = x &&& nt y := eq_of_beq (lo2 (fun x y => nt (nt x ||| y) == (x &&& nt y)) (by decide +kernel) h h')
theorem iff_pos (h : Lo x) (h' : Lo y) : nt (x ^^^ y) = (nt x ||| y) &&& (x ||| nt y) := eq_of_beq (lo2 (fun x y => nt (x ^^^ y) == ((nt x ||| y) &&& (x ||| nt y))) (by decide +kernel) h h')
theorem iff_neg (h : Lo x) (h' : Lo y) : nt (nt (x ^^^ y)) = (x &&& nt y) ||| (nt x &&& y) := eq_of_beq (lo2 (fun x y => nt (nt (x ^^^ y)) == ((x &&& nt y) ||| (nt x &&& y))) (by decide +kernel) h h')
theorem or_cor (h : Lo x) (h' : Lo y) : nt (nt x &&& nt y) = x ||| y := eq_of_beq (lo2 (fun x y => nt (nt x &&& nt y) == (x ||| y)) (by decide +kernel) h h')
theorem imp_cor (h : Lo x) (h' : Lo y) : nt (x &&& nt y) = nt x ||| y := eq_of_beq (lo2 (fun x y => nt (x &&& nt y) == (nt x ||| y)) (by decide +kernel) h h')
theorem iff_cor (h : Lo x) (h' : Lo y) : nt (x &&& nt y) &&& nt (y &&& nt x) = nt (x ^^^ y) := eq_of_beq (lo2 (fun x y => (nt (x &&& nt y) &&& nt (y &&& nt x)) == nt (x ^^^ y)) (by decide +kernel) h h')
end
end Go.Proofs.Wit
namespace Go.Proofs.Wit
open Go Go.RowKit
/-! normal forms mean the same at four worlds -/
theorem tru_nt (m : W4) (t : Tr) : truM m (ntT t) = nt (truM m t) := rfl
theorem tru_and (m : W4) (a b : Tr) : truM m (.bin 5 0 0 0 a b) = truM m a &&& truM m b := rfl
theorem tru_or (m : W4) (a b : Tr) : truM m (.bin 6 0 0 0 a b) = truM m a ||| truM m b := rfl
theorem tru_nn (m : W4) : ∀ t : Tr, t.ok → truM m (nnT t).1 = truM m t ∧ truM m (nnT t).2 = nt (truM m t)
  | .leaf op i e g, h => by
    rw [nnT]
    refine ⟨rfl, ?_⟩
    dsimp only
    by_cases h1 : op = 1
    · subst h1; rw [if_pos rfl]; show (0#8 : B8) = nt 15#8; decide
    · rw [if_neg h1]
      by_cases h2 : op = 2
      · subst h2; rw [if_pos rfl]; show (15#8 : B8) = nt 0#8; decide
      · rw [if_neg h2]; rfl
  | .un op i e g a, h => by
    obtain ⟨h1, h2⟩ := tru_nn m a h.2.2.2.2
    have hl := truM_lo m a
    have hme : truM m (.un op i e g (nnT a).1) = truM m (.un op i e g a) := by rw [truM, truM, h1]
    rw [nnT]
    by_cases h4 : op = 4
    · rw [if_pos h4]; subst h4
      refine ⟨h2, ?_⟩
      show truM m (nnT a).1 = nt (nt (truM m a))
      rw [h1, nt_nt hl]
    rw [if_neg h4]
    by_cases h9 : op = 9
    · rw [if_pos h9]; subst h9
      refine ⟨hme, ?_⟩
      show nt (af m (2 ^ i.toNat) false (nt (truM m (nnT a).2))) = nt (af m (2 ^ i.toNat) false (truM m a))
      rw [h2, nt_nt hl]
    rw [if_neg h9]
    by_cases h10 : op = 10
    · rw [if_pos h10]; subst h10
      refine ⟨hme, ?_⟩
      show af m (2 ^ i.toNat) false (truM m (nnT a).2) = nt (nt (af m (2 ^ i.toNat) false (nt (truM m a))))
      rw [h2, nt_nt (af_lo ..)]
    rw [if_neg h10]
    exact ⟨hme, by rw [tru_nt, hme]⟩
  | .bin op i e g a b, h => by
    obtain ⟨h1, h2⟩ := tru_nn m a h.2.2.2.1
    obtain ⟨k1, k2⟩ := tru_nn m b h.2.2.2.2
    have hl := truM_lo m a
    have kl := truM_lo m b
    have hme : truM m (.bin op i e g (nnT a).1 (nnT b).1) = truM m (.bin op i e g a b) := by rw [truM, truM, h1, k1]
    rw [nnT]
    by_cases h5 : op = 5
    · rw [if_pos h5]; subst h5
      refine ⟨hme, ?_⟩
      rw [tru_or, h2, k2]
      exact (nt_and hl kl).symm
    rw [if_neg h5]
    by_cases h6 : op = 6
    · rw [if_pos h6]; subst h6
      refine ⟨hme, ?_⟩
      rw [tru_and, h2, k2]
      exact (nt_or hl kl).symm
    rw [if_neg h6]
    by_cases h7 : op = 7
    · rw [if_pos h7]; subst h7
      refine ⟨?_, ?_⟩
      · rw [tru_or, h2, k1]; rfl
      · rw [tru_and, h1, k2]; exact (nt_imp hl kl).symm
    rw [if_neg h7]
    by_cases h8 : op = 8
    · rw [if_pos h8]; subst h8
      refine ⟨?_, ?_⟩
      · rw [tru_and, tru_or, tru_or, h2, k1, h1, k2]; exact (iff_pos hl kl).symm
      · rw [tru_or, tru_and, tru_and, h1, k2, h2, k1]; exact (iff_neg hl kl).symm
    rw [if_neg h8]
    exact ⟨hme, by rw [tru_nt, hme]⟩
theorem tru_neg (m : W4) {t : Tr} : truM m (negT t) = nt (truM m t) := by
  unfold negT
  cases hs : strT t with
  | none => rfl
  | some c =>
    obtain ⟨i, e, g, rfl⟩ := strT_kid hs
    show truM m c = nt (nt (truM m c))
    rw [nt_nt (truM_lo m c)]
/-- a rule that keeps the meaning -/
def MeansR (m : W4) (r : Rul) : Prop := ∀ op i e g a b, (1 ≤ op ∧ op ≤ 21) → op ≤ 13 → fldE op i e g = 0 → (usX op = true → a.ok) → (usY op = true → b.ok) → truM m (r op i e g a b) = opM m op i g (if usX op = true then truM m a else 0#8) (if usY op = true then truM m b else 0#8)
abbrev St13 (t : Tr) : Prop := allL (fun op _ _ => op ≤ 13) t
theorem tru_up {m : W4} {r : Rul} (hr : RulOk r) (hm : MeansR m r) : ∀ t : Tr, t.ok → St13 t → truM m (upT r t) = truM m t
  | .leaf op i e g, h, k => by
    rw [upT, hm _ _ _ _ _ _ h.1 k h.2.2 (fun e => absurd (h.2.1.symm.trans e) (by decide)) (fun e => absurd ((usX_of_Y h.2.1).symm.trans e) (by decide)), if_neg (by rw [h.2.1]; simp), if_neg (by rw [usX_of_Y h.2.1]; simp)]; rfl
  | .un op i e g a, h, k => by
    rw [upT, hm _ _ _ _ _ _ h.1 k.1 h.2.2.2.1 (fun _ => upT_ok hr h.2.2.2.2) (fun e => absurd (h.2.2.1.symm.trans e) (by decide)), if_pos h.2.1, if_neg (by rw [h.2.2.1]; simp), tru_up hr hm a h.2.2.2.2 k.2]; rfl
  | .bin op i e g a b, h, k => by
    rw [upT, hm _ _ _ _ _ _ h.1 k.1 h.2.2.1 (fun _ => upT_ok hr h.2.2.2.1) (fun _ => upT_ok hr h.2.2.2.2), if_pos (usY_X h.2.1), if_pos h.2.1, tru_up hr hm a h.2.2.2.1 k.2.1, tru_up hr hm b h.2.2.2.2 k.2.2]; rfl
theorem tru_mk {m : W4} {op i e g : Int} {a b : Tr} : truM m (mkQ op i e g a b) = opM m op i g (if usX op = true then truM m a else 0#8) (if usY op = true then truM m b else 0#8) := by
  by_cases hY : usY op = true
  · rw [mkQ_bin hY, if_pos (usY_X hY), if_pos hY]; rfl
  · by_cases hX : usX op = true
    · rw [mkQ_un hX (by simpa using hY), if_pos hX, if_neg hY]; rfl
    · rw [mkQ_leaf (by simpa using hX), if_neg hX, if_neg hY]; rfl
theorem cor_means (m : W4) : MeansR m corR := fun op i e g a b h1 h13 h2 ha hb => by
  have hl := truM_lo m a
  have kl := truM_lo m b
  unfold corR
  by_cases c1 : op = 1
  · rw [if_pos c1]; subst c1; show nt 0#8 = (15#8 : B8); decide
  rw [if_neg c1]
  by_cases c6 : op = 6
  · rw [if_pos c6]; subst c6; exact or_cor hl kl
  rw [if_neg c6]
  by_cases c7 : op = 7
  · rw [if_pos c7]; subst c7; exact imp_cor hl kl
  rw [if_neg c7]
  by_cases c8 : op = 8
  · rw [if_pos c8]; subst c8; exact iff_cor hl kl
  rw [if_neg c8]
  by_cases c10 : op = 10
  · rw [if_pos c10]; subst c10; rfl
  rw [if_neg c10]
  exact tru_mk
theorem is_tru {m : W4} {t : Tr} (h : t.ok) : (isT t 1 = true → truM m t = 15#8) ∧ (isT t 2 = true → truM m t = 0#8) :=
  ⟨fun hi => by rw [(isT_eq h (.inl rfl)).1 hi]; rfl, fun hi => by rw [(isT_eq h (.inr rfl)).1 hi]; rfl⟩
theorem opp_tru {m : W4} {a b : Tr} (h : oppT a b = true) : truM m b = nt (truM m a) := by
  unfold oppT at h
  rw [Bool.or_eq_true, beq_iff_eq, beq_iff_eq] at h
  rcases h with h | h
  · obtain ⟨i, e, g, rfl⟩ := strT_kid h
    show truM m b = nt (nt (truM m b))
    rw [nt_nt (truM_lo m b)]
  · obtain ⟨i, e, g, rfl⟩ := strT_kid h
    rfl
section
variable {x y : B8}
theorem and_l (h : Lo y) : 15#8 &&& y = y := eq_of_beq (lo1 (fun y => (15#8 &&& y) == y) (by decide +kernel) h)
theorem and_r (h : Lo x) : x &&& 15#8 = x := h
theorem and_op (h : Lo x) : x &&& nt x = 0#8 := eq_of_beq (lo1 (fun x => (x &&& nt x) == 0#8) (by decide +kernel) h)
theorem or_op (h : Lo x) : x ||| nt x = 15#8 := eq_of_beq (lo1 (fun x => (x ||| nt x) == 15#8) (by decide +kernel) h)
theorem or_l (h : Lo y) : 15#8 ||| y = 15#8 := eq_of_beq (lo1 (fun y => (15#8 ||| y) == 15#8) (by decide +kernel) h)
theorem or_r (h : Lo x) : x ||| 15#8 = 15#8 := eq_of_beq (lo1 (fun x => (x ||| 15#8) == 15#8) (by decide +kernel) h)
theorem imp_same (h : Lo x) : nt x ||| x = 15#8 := eq_of_beq (lo1 (fun x => (nt x ||| x) == 15#8) (by decide +kernel) h)
theorem iff_op (h : Lo x) : nt (x ^^^ nt x) = 0#8 := eq_of_beq (lo1 (fun x => nt (x ^^^ nt x) == 0#8) (by decide +kernel) h)
theorem iff_l (h : Lo y) : nt (15#8 ^^^ y) = y := eq_of_beq (lo1 (fun y => nt (15#8 ^^^ y) == y) (by decide +kernel) h)
theorem iff_r (h : Lo x) : nt (x ^^^ 15#8) = x := eq_of_beq (lo1 (fun x => nt (x ^^^ 15#8) == x) (by decide +kernel) h)
end
theorem joint5_tru {m : W4} {i e g : Int} {a b : Tr} (ha : a.ok) (hb : b.ok) : truM m (jointT 5 i e g a b 1 2) = truM m a &&& truM m b := by
  have hl := truM_lo m a
  have kl := truM_lo m b
  unfold jointT
  by_cases h : (isT a 2 || isT b 2 || (oppT a b && !isT a 1 && !isT b 1)) = true
  · rw [if_pos h]
    show (0#8 : B8) = _
    simp only [Bool.or_eq_true, Bool.and_eq_true] at h
    rcases h with (h | h) | h
    · rw [(is_tru ha).2 h, BitVec.zero_and]
    · rw [(is_tru hb).2 h, BitVec.and_zero]
    · rw [opp_tru h.1.1, and_op hl]
  rw [if_neg h]
  by_cases h1 : isT a 1 = true
  · rw [if_pos h1, (is_tru ha).1 h1, and_l kl]
  rw [if_neg h1]
  by_cases h2 : (isT b 1 || a == b) = true
  · rw [if_pos h2]
    rw [Bool.or_eq_true] at h2
    rcases h2 with h2 | h2
    · rw [(is_tru hb).1 h2, and_r hl]
    · rw [← eq_of_beq h2, BitVec.and_self]
  rw [if_neg h2]; rfl
theorem joint6_tru {m : W4} {i e g : Int} {a b : Tr} (ha : a.ok) (hb : b.ok) : truM m (jointT 6 i e g a b 2 1) = truM m a ||| truM m b := by
  have hl := truM_lo m a
  have kl := truM_lo m b
  unfold jointT
  by_cases h : (isT a 1 || isT b 1 || (oppT a b && !isT a 2 && !isT b 2)) = true
  · rw [if_pos h]
    show (15#8 : B8) = _
    simp only [Bool.or_eq_true, Bool.and_eq_true] at h
    rcases h with (h | h) | h
    · rw [(is_tru ha).1 h, or_l kl]
    · rw [(is_tru hb).1 h, or_r hl]
    · rw [opp_tru h.1.1, or_op hl]
  rw [if_neg h]
  by_cases h1 : isT a 2 = true
  · rw [if_pos h1, (is_tru ha).2 h1, BitVec.zero_or]
  rw [if_neg h1]
  by_cases h2 : (isT b 2 || a == b) = true
  · rw [if_pos h2]
    rw [Bool.or_eq_true] at h2
    rcases h2 with h2 | h2
    · rw [(is_tru hb).2 h2, BitVec.or_zero]
    · rw [← eq_of_beq h2, BitVec.or_self]
  rw [if_neg h2]; rfl
theorem nt_15 : nt 15#8 = 0#8 := by decide
theorem nt_0 : nt 0#8 = 15#8 := by decide
theorem cond_tru {m : W4} {a b : Tr} (ha : a.ok) (hb : b.ok) : truM m (condT a b) = nt (truM m a) ||| truM m b := by
  have hl := truM_lo m a
  have kl := truM_lo m b
  unfold condT
  by_cases h : (isT a 2 || isT b 1 || a == b) = true
  · rw [if_pos h]
    show (15#8 : B8) = _
    simp only [Bool.or_eq_true] at h
    rcases h with (h | h) | h
    · rw [(is_tru ha).2 h, nt_0, or_l kl]
    · rw [(is_tru hb).1 h, or_r (lo_nt _)]
    · rw [← eq_of_beq h, imp_same hl]
  rw [if_neg h]
  by_cases h1 : isT a 1 = true
  · rw [if_pos h1, (is_tru ha).1 h1, nt_15, BitVec.zero_or]
  rw [if_neg h1]
  by_cases h2 : isT b 2 = true
  · rw [if_pos h2, tru_neg, (is_tru hb).2 h2, BitVec.or_zero]
  rw [if_neg h2]; rfl
theorem equ_tru {m : W4} {a b : Tr} (ha : a.ok) (hb : b.ok) : truM m (equT a b) = nt (truM m a ^^^ truM m b) := by
  have hl := truM_lo m a
  have kl := truM_lo m b
  unfold equT
  by_cases h : (a == b) = true
  · rw [if_pos h, ← eq_of_beq h, BitVec.xor_self, nt_0]; rfl
  rw [if_neg h]
  by_cases h0 : oppT a b = true
  · rw [if_pos h0, opp_tru h0, iff_op hl]; rfl
  rw [if_neg h0]
  by_cases h1 : isT a 1 = true
  · rw [if_pos h1, (is_tru ha).1 h1, iff_l kl]
  rw [if_neg h1]
  by_cases h2 : isT b 1 = true
  · rw [if_pos h2, (is_tru hb).1 h2, iff_r hl]
  rw [if_neg h2]
  by_cases h3 : isT a 2 = true
  · rw [if_pos h3, tru_neg, (is_tru ha).2 h3, BitVec.zero_xor]
  rw [if_neg h3]
  by_cases h4 : isT b 2 = true
  · rw [if_pos h4, tru_neg, (is_tru hb).2 h4, BitVec.xor_zero]
  rw [if_neg h4]; rfl
theorem sim_means (m : W4) : MeansR m simT := fun op i e g a b h1 h13 h2 ha hb => by
  have hl := truM_lo m a
  have kl := truM_lo m b
  unfold simT
  by_cases c4 : op = 4
  · rw [if_pos c4]; subst c4
    have ha := ha rfl
    show _ = nt (truM m a)
    by_cases i1 : isT a 1 = true
    · rw [if_pos i1, (is_tru ha).1 i1, nt_15]; rfl
    rw [if_neg i1]
    by_cases i2 : isT a 2 = true
    · rw [if_pos i2, (is_tru ha).2 i2, nt_0]; rfl
    rw [if_neg i2, tru_neg]
  rw [if_neg c4]
  by_cases c5 : op = 5
  · rw [if_pos c5]; subst c5; exact joint5_tru (ha rfl) (hb rfl)
  rw [if_neg c5]
  by_cases c6 : op = 6
  · rw [if_pos c6]; subst c6; exact joint6_tru (ha rfl) (hb rfl)
  rw [if_neg c6]
  by_cases c7 : op = 7
  · rw [if_pos c7]; subst c7; exact cond_tru (ha rfl) (hb rfl)
  rw [if_neg c7]
  by_cases c8 : op = 8
  · rw [if_pos c8]; subst c8; exact equ_tru (ha rfl) (hb rfl)
  rw [if_neg c8]
  by_cases c10 : op = 10
  · rw [if_pos c10]; subst c10
    by_cases i2 : isT a 2 = true
    · rw [if_pos i2]
      show (0#8 : B8) = nt (af m (2 ^ i.toNat) false (nt (truM m a)))
      rw [(is_tru (ha rfl)).2 i2, nt_0, af_15, nt_15]
    rw [if_neg i2]; exact tru_mk
  rw [if_neg c10]
  rw [if_neg (by omega : ¬ op = 16)]
  by_cases c13 : op = 13 ∨ op = 14
  · rw [if_pos c13]
    obtain rfl : op = 13 := by omega
    by_cases i2 : (isT a 2 || isT b 1) = true
    · rw [if_pos i2]
      show (15#8 : B8) = cm m g.toNat (truM m a) (truM m b)
      rw [Bool.or_eq_true] at i2
      rcases i2 with i2 | i2
      · rw [(is_tru (ha rfl)).2 i2, cm, cm_x0]
      · rw [(is_tru (hb rfl)).1 i2, cm, cm_y15]
    rw [if_neg i2]; exact tru_mk
  rw [if_neg c13]
  by_cases c9 : op = 9 ∨ op = 11 ∨ op = 12 ∨ op = 15 ∨ op = 17
  · rw [if_pos c9]
    by_cases i1 : isT a 1 = true
    · rw [if_pos i1]
      have : op = 9 ∨ op = 11 ∨ op = 12 := by omega
      rcases this with rfl | rfl | rfl
      · show (15#8 : B8) = af m (2 ^ i.toNat) false (truM m a)
        rw [(is_tru (ha rfl)).1 i1, af_15]
      · show (15#8 : B8) = af m g.toNat false (truM m a)
        rw [(is_tru (ha rfl)).1 i1, af_15]
      · show (15#8 : B8) = af m g.toNat true (truM m a)
        rw [(is_tru (ha rfl)).1 i1, af_15]
    rw [if_neg i1]; exact tru_mk
  rw [if_neg c9]; exact tru_mk
end Go.Proofs.Wit
namespace Go.Proofs.Wit
open Go Go.RowKit
/-! static formulas stay static -/
theorem tru_node {m : W4} {f : List NV} {i : Nat} (hi : i < f.length) (hO : NodesOk f) :
    truM m (treeAt f i) = opM m f[i].op f[i].i f[i].g (if usX f[i].op = true then truM m (treeAt f f[i].x.toNat) else 0#8) (if usY f[i].op = true then truM m (treeAt f f[i].y.toNat) else 0#8) := by
  rcases kids_node hi hO with ⟨h1, h2⟩ | ⟨h1, h1', h2⟩ | ⟨h1, h2⟩
  · rw [h2, truM, if_neg (by rw [h1]; simp), if_neg (by rw [usX_of_Y h1]; simp)]
  · rw [h2, truM, if_pos h1, if_neg (by rw [h1']; simp)]
  · rw [h2, truM, if_pos (usY_X h1), if_pos h1]
theorem st_nt {t : Tr} (h : St13 t) : St13 (ntT t) := ⟨by decide, h⟩
theorem st_un {op i e g : Int} {a : Tr} (ho : op ≤ 13) (h : St13 a) : St13 (.un op i e g a) := ⟨ho, h⟩
theorem st_bin {op i e g : Int} {a b : Tr} (ho : op ≤ 13) (h : St13 a) (h' : St13 b) : St13 (.bin op i e g a b) := ⟨ho, h, h'⟩
theorem st_c {o : Int} (ho : o ≤ 13) : St13 (cT o) := ho
theorem st_str {t c : Tr} (h : St13 t) (hs : strT t = some c) : St13 c := by
  obtain ⟨i, e, g, rfl⟩ := strT_kid hs; exact h.2
theorem st_neg {t : Tr} (h : St13 t) : St13 (negT t) := by
  unfold negT
  cases hs : strT t with
  | none => exact st_nt h
  | some c => exact st_str h hs
theorem st_nn : ∀ t : Tr, St13 t → St13 (nnT t).1 ∧ St13 (nnT t).2
  | .leaf op i e g, h => by
    rw [nnT]
    refine ⟨h, ?_⟩
    dsimp only
    by_cases h1 : op = 1
    · rw [if_pos h1]; exact st_c (by decide)
    rw [if_neg h1]
    by_cases h2 : op = 2
    · rw [if_pos h2]; exact st_c (by decide)
    rw [if_neg h2]; exact st_nt h
  | .un op i e g a, h => by
    obtain ⟨h1, h2⟩ := st_nn a h.2
    have hme : St13 (.un op i e g (nnT a).1) := ⟨h.1, h1⟩
    rw [nnT]
    by_cases h4 : op = 4
    · rw [if_pos h4]; exact ⟨h2, h1⟩
    rw [if_neg h4]
    by_cases h9 : op = 9
    · rw [if_pos h9]; exact ⟨hme, st_un (by decide) h2⟩
    rw [if_neg h9]
    by_cases h10 : op = 10
    · rw [if_pos h10]; exact ⟨hme, st_un (by decide) h2⟩
    rw [if_neg h10]; exact ⟨hme, st_nt hme⟩
  | .bin op i e g a b, h => by
    obtain ⟨h1, h2⟩ := st_nn a h.2.1
    obtain ⟨k1, k2⟩ := st_nn b h.2.2
    have hme : St13 (.bin op i e g (nnT a).1 (nnT b).1) := ⟨h.1, h1, k1⟩
    rw [nnT]
    by_cases h5 : op = 5
    · rw [if_pos h5]; exact ⟨hme, st_bin (by decide) h2 k2⟩
    rw [if_neg h5]
    by_cases h6 : op = 6
    · rw [if_pos h6]; exact ⟨hme, st_bin (by decide) h2 k2⟩
    rw [if_neg h6]
    by_cases h7 : op = 7
    · rw [if_pos h7]; exact ⟨st_bin (by decide) h2 k1, st_bin (by decide) h1 k2⟩
    rw [if_neg h7]
    by_cases h8 : op = 8
    · rw [if_pos h8]; exact ⟨st_bin (by decide) (st_bin (by decide) h2 k1) (st_bin (by decide) h1 k2), st_bin (by decide) (st_bin (by decide) h1 k2) (st_bin (by decide) h2 k1)⟩
    rw [if_neg h8]; exact ⟨hme, st_nt hme⟩
/-- a rule that keeps formulas static -/
def StR (r : Rul) : Prop := ∀ op i e g a b, (1 ≤ op ∧ op ≤ 21) → op ≤ 13 → fldE op i e g = 0 → (usX op = true → a.ok ∧ St13 a) → (usY op = true → b.ok ∧ St13 b) → St13 (r op i e g a b)
theorem st_up {r : Rul} (hr : RulOk r) (hs : StR r) : ∀ t : Tr, t.ok → St13 t → St13 (upT r t)
  | .leaf op i e g, h, k => hs _ _ _ _ _ _ h.1 k h.2.2 (fun e => absurd (h.2.1.symm.trans e) (by decide)) (fun e => absurd ((usX_of_Y h.2.1).symm.trans e) (by decide))
  | .un op i e g a, h, k => hs _ _ _ _ _ _ h.1 k.1 h.2.2.2.1 (fun _ => ⟨upT_ok hr h.2.2.2.2, st_up hr hs a h.2.2.2.2 k.2⟩) (fun e => absurd (h.2.2.1.symm.trans e) (by decide))
  | .bin op i e g a b, h, k => hs _ _ _ _ _ _ h.1 k.1 h.2.2.1 (fun _ => ⟨upT_ok hr h.2.2.2.1, st_up hr hs a h.2.2.2.1 k.2.1⟩) (fun _ => ⟨upT_ok hr h.2.2.2.2, st_up hr hs b h.2.2.2.2 k.2.2⟩)
theorem st_mk {op i e g : Int} {a b : Tr} (ho : op ≤ 13) (ha : usX op = true → St13 a) (hb : usY op = true → St13 b) : St13 (mkQ op i e g a b) := by
  by_cases hY : usY op = true
  · rw [mkQ_bin hY]; exact ⟨ho, ha (usY_X hY), hb hY⟩
  · by_cases hX : usX op = true
    · rw [mkQ_un hX (by simpa using hY)]; exact ⟨ho, ha hX⟩
    · rw [mkQ_leaf (by simpa using hX)]; exact ho
theorem sim_st : StR simT := fun op i e g a b h1 h13 h2 ha hb => by
  have hc := sim_c h1 h2 (fun h => (ha h).1) (fun h => (hb h).1)
  obtain ⟨t, ht⟩ : ∃ t, t = simT op i e g a b := ⟨_, rfl⟩
  rw [← ht] at hc ⊢
  cases hc with
  | c1 => exact st_c (by decide)
  | c2 => exact st_c (by decide)
  | a h => exact (ha h).2
  | b h => exact (hb h).2
  | sa h c hs => exact st_str (ha h).2 hs
  | sb h c hs => exact st_str (hb h).2 hs
  | na h => exact st_nt (ha h).2
  | nb h => exact st_nt (hb h).2
  | mk h => exact st_mk h13 (fun h => (ha h).2) (fun h => (hb h).2)
theorem st_wi {a b : Tr} (h : St13 a) (h' : St13 b) : St13 (wiT a b) := st_nt (st_bin (by decide) h (st_nt h'))
theorem cor_st : StR corR := fun op i e g a b h1 h13 h2 ha hb => by
  unfold corR
  by_cases c1 : op = 1
  · rw [if_pos c1]; exact st_nt (st_c (by decide))
  rw [if_neg c1]
  by_cases c6 : op = 6
  · rw [if_pos c6]; subst c6; exact st_wi (st_nt (ha rfl).2) (hb rfl).2
  rw [if_neg c6]
  by_cases c7 : op = 7
  · rw [if_pos c7]; subst c7; exact st_wi (ha rfl).2 (hb rfl).2
  rw [if_neg c7]
  by_cases c8 : op = 8
  · rw [if_pos c8]; subst c8; exact st_bin (by decide) (st_wi (ha rfl).2 (hb rfl).2) (st_wi (hb rfl).2 (ha rfl).2)
  rw [if_neg c8]
  by_cases c10 : op = 10
  · rw [if_pos c10]; subst c10; exact st_nt (st_un (by decide) (st_nt (ha rfl).2))
  rw [if_neg c10]; exact st_mk h13 (fun h => (ha h).2) (fun h => (hb h).2)
theorem st_ops {t : Tr} (h : St13 t) {i : Nat} (hi : i < (canT t).length) : (canT t)[i].op ≤ 13 := allL_can.1 h _ (List.getElem_mem hi)
end Go.Proofs.Wit
namespace Go.Proofs.Wit
theorem getD_app_lt {α : Type} {xs : List α} {v d : α} {k : Nat} (h : k < xs.length) : (xs ++ [v]).getD k d = xs.getD k d := by
  simp [List.getD_eq_getElem?_getD, List.getElem?_append, h]
theorem getD_app_eq {α : Type} {xs : List α} {v d : α} : (xs ++ [v]).getD xs.length d = v := by
  simp [List.getD_eq_getElem?_getD]
end Go.Proofs.Wit
namespace Go.Proofs.Wit
open Go Go.RowKit Go.ChangeShapes Go.WideShapes Go.ChangeAt Go.Deep Go.Joins
/-! an argument that is four worlds -/
theorem bounds_u8 {n : Int} (h : (Lit.int .u8 n).wf = true) : 0 ≤ n ∧ n ≤ 255 := by
  simp [Lit.wf, IntKind.min, IntKind.max, IntKind.signed, IntKind.bits] at h
  omega
theorem wf_u8 {n : Int} (h : (Lit.int .u8 n).wf = true) : (Value.int .u8 n) = B (BitVec.ofInt 8 n) := by
  have := bounds_u8 h
  unfold B
  congr 1
  rw [BitVec.toNat_ofInt]
  omega
section
variable {H : Type} {enc : TypeId × Value → H} {P : Program}
theorem open_worlds {W : World} {r : Reach} {b0 : Nat} {t s e : TypeId} {f0 f1 : Field} {v : Value} {d : DataW H} {p : List MemPlace} (ht : P.underlying t = some (.array 4 s)) (hs : P.underlying s = some (.struct #[f0, f1])) (i0 : P.underlying f0.type = some (.int .u8)) (i1 : P.underlying f1.type = some (.array 2 e)) (ie : P.underlying e = some (.int .u8))
    (o0 : f0.offset = 0) (o1 : f1.offset = 1) (ct : P.cellsOf t = 12) (cs : P.cellsOf s = 3) (c0 : P.cellsOf f0.type = 1) (c1 : P.cellsOf f1.type = 2) (ce : P.cellsOf e = 1)
    (h : DataW.Trod enc P W 0 (fun _ => true) true t v d p) (hok : Value.okWide P W r b0 t v) : ∃ m : W4, v = .agg (w4c m) := by
  obtain ⟨ar, rfl, hsz⟩ := okWide_array ht hok
  rw [ct] at hsz
  obtain ⟨fuel, hf⟩ := h
  obtain ⟨xs, m, _, _, _, hl, hel⟩ := DataW.trod_array ht hf
  have hcells : (Value.agg ar).cells.toList = ar.toList := rfl
  rw [cs] at hel
  have hlen : ar.toList.length = 12 := by simpa using hsz
  have one : ∀ {ty : TypeId} {k : Nat} {L : List Value} {y}, P.underlying ty = some (.int .u8) → DataW.trod enc P W 0 (fun _ => true) true k ty L = some y → ∃ b : B8, L = [B b] := fun hi hx => by
    obtain ⟨z, hz, _, hw⟩ := DataW.trod_int hi hx
    exact ⟨_, by rw [hz, wf_u8 hw]⟩
  have sub : ∀ (L : List Value) (i n j : Nat) (v : Value), j < n → ((L.drop i).take n)[j]? = some v → L[i + j]? = some v := fun L i n j v hj hv => by
    rw [List.getElem?_take, if_pos hj, List.getElem?_drop] at hv; exact hv
  have key : ∀ i, i < 4 → ∀ j, j < 3 → ∃ b : B8, ar.toList[i * 3 + j]? = some (B b) := by
    intro i hi
    have hx := hel i hi
    rw [List.getElem?_eq_getElem (by omega), hcells] at hx
    obtain ⟨y0, y1, n, _, hcl, h0, h1⟩ := trod_struct2 hs hx
    rw [o0, c0] at h0
    rw [o1, c1] at h1
    obtain ⟨b, hb⟩ := one i0 h0
    obtain ⟨ys, m2, _, _, hcl2, hyl, hel2⟩ := DataW.trod_array i1 h1
    rw [ce] at hel2
    have g0 : ar.toList[i * 3 + 0]? = some (B b) := by
      have h2 := sub ((ar.toList.drop (i * 3)).take 3) 0 1 0 (B b) (by decide) (by rw [hb]; rfl)
      exact sub ar.toList (i * 3) 3 0 (B b) (by decide) h2
    have gj : ∀ j, j < 2 → ∃ b : B8, ar.toList[i * 3 + (1 + j)]? = some (B b) := fun j hj => by
      have hx2 := hel2 j hj
      rw [List.getElem?_eq_getElem (by omega)] at hx2
      obtain ⟨b2, hb2⟩ := one ie hx2
      have h2 := sub _ (j * 1) 1 0 (B b2) (by decide) (by rw [hb2]; rfl)
      rw [Nat.mul_one, Nat.add_zero] at h2
      have h3 := sub _ 1 2 j (B b2) hj h2
      exact ⟨b2, sub ar.toList (i * 3) 3 (1 + j) (B b2) (by omega) h3⟩
    intro j hj
    have : j = 0 ∨ j = 1 ∨ j = 2 := by omega
    rcases this with rfl | rfl | rfl
    · exact ⟨b, g0⟩
    · exact gj 0 (by decide)
    · exact gj 1 (by decide)
  have all : ∀ j, j < 12 → ∃ b : B8, ar.toList[j]? = some (B b) := fun j hj => by
    obtain ⟨b, hb⟩ := key (j / 3) (by omega) (j % 3) (by omega)
    exact ⟨b, by rw [show j / 3 * 3 + j % 3 = j from by omega] at hb; exact hb⟩
  obtain ⟨mm, hmm⟩ := choose_lt all
  refine ⟨mm, congrArg Value.agg (Array.ext (by rw [hsz]; rfl) (fun j h1 h2 => ?_))⟩
  have hj : j < 12 := by omega
  have e1 := hmm j hj
  have e2 := w4c_get (m := mm) hj
  rw [Array.getElem?_toList, Array.getElem?_eq_getElem h1] at e1
  rw [Array.getElem?_eq_getElem h2] at e2
  exact (Option.some.inj e1).trans (Option.some.inj e2).symm
end
end Go.Proofs.Wit
