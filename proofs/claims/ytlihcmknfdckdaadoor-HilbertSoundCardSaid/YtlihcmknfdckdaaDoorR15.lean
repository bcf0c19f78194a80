/- Laws of walks, for any program, under the conditions that each theorem states. -/
import Derived.Test.YtlihcmknfdckdaaDoorR03
import Derived.Test.YtlihcmknfdckdaaDoorR02
import Derived.Test.YtlihcmknfdckdaaDoorR13
import Derived.Test.YtlihcmknfdckdaaDoorR06
namespace Go.Proofs.Wit
open Go Go.RowKit
/-! the laws of chapter 15, plainly -/
theorem hasL_true {r : List W64} {l : Int} : hasL r l = true ↔ propsE l = 0 ∧ checkR r.length r = 0 ∧ ∀ p ∈ propsL l, PropR p r := by
  rw [hasL, Bool.and_eq_true, Bool.and_eq_true, beq_iff_eq, beq_iff_eq, List.all_eq_true]
  constructor
  · rintro ⟨⟨h1, h2⟩, h3⟩
    exact ⟨h1, h2, fun p hp => (hasB_true.1 (h3 p hp)).2⟩
  · rintro ⟨h1, h2, h3⟩
    exact ⟨⟨h1, h2⟩, fun p hp => hasB_true.2 ⟨h2, h3 p hp⟩⟩
theorem inM_true {n : Int} {val : List W64} {rel : List (List W64)} {l : Int} : inM n val rel l = true ↔ propsE l = 0 ∧ checkM n val rel = 0 ∧ ∀ r ∈ rel, hasL r l = true := by
  rw [inM, Bool.and_eq_true, Bool.and_eq_true, beq_iff_eq, beq_iff_eq, List.all_eq_true]; exact and_assoc
section
variable {n : Int} {val : List W64} {rel : List (List W64)}
end
end Go.Proofs.Wit
namespace Go.Proofs.Wit
open Go Go.RowKit
/-! the fragments of a formula; defects and their axioms -/
theorem bOrI {P : Program} {t : TypeId} {a b c : Nat} (ha : a < 512) (hb : b < 512) (hc : c = a ||| b) : Bin P .or t (.int .i64 a) (.int .i64 b) (.int .i64 c) := by
  subst hc
  refine bI _ ?_
  have hx : a ||| b < 2 ^ 9 := Nat.or_lt_two_pow (by omega) (by omega)
  have h1 : (BitVec.ofInt 64 (a : Int)).toNat = a := by
    rw [BitVec.ofInt_natCast, BitVec.toNat_ofNat]; exact Nat.mod_eq_of_lt (by omega)
  have h2 : (BitVec.ofInt 64 (b : Int)).toNat = b := by
    rw [BitVec.ofInt_natCast, BitVec.toNat_ofNat]; exact Nat.mod_eq_of_lt (by omega)
  rw [binOp_or]
  show (pure (Value.int .i64 (IntKind.i64.wrap ((BitVec.ofInt 64 (a : Int) ||| BitVec.ofInt 64 (b : Int)).toNat : Int))) : Sem Value) = _
  rw [BitVec.toNat_or, h1, h2, IntWalk.i64_in _ (by omega)]
def frN (n : NV) : Nat := (frO n.op).toNat
theorem frO_lt (op : Int) : 0 ≤ frO op ∧ frO op < 512 := by
  unfold frO
  repeat' split
  all_goals omega
theorem frN_eq (n : NV) : (frN n : Int) = frO n.op := by
  have := frO_lt n.op
  unfold frN; omega
def frgL (c : List NV) : Nat := c.foldl (fun a n => a ||| frN n) 0
theorem frgL_snoc {c : List NV} {n : NV} : frgL (c ++ [n]) = frgL c ||| frN n := by simp [frgL]
theorem frgL_lt (c : List NV) : frgL c < 512 := by
  induction c using snoc_ind with
  | h0 => decide
  | h1 c n ih =>
    rw [frgL_snoc]
    have h2 : frN n < 2 ^ 9 := by have := frO_lt n.op; unfold frN; omega
    exact Nat.or_lt_two_pow (n := 9) ih h2
theorem compF_le (f : List NV) : (compF f).length ≤ 200 := by
  by_cases h : chkF f = 0
  · exact (compF_ok h).len
  · rw [compF, if_pos h]; exact Nat.zero_le _
end Go.Proofs.Wit
namespace Go.Proofs.Wit
open Go Go.RowKit
/-! strings; numbers in hexadecimal -/
def digL : List UInt8 := [48, 49, 50, 51, 52, 53, 54, 55, 56, 57, 97, 98, 99, 100, 101, 102, 103, 104, 105, 106, 107, 108, 109, 110, 111, 112, 113, 114, 115, 116, 117, 118, 119, 120, 121, 122]
def dig (i : Nat) : UInt8 := digL.getD i 0
def hexN (n : Nat) : List UInt8 := if n < 16 then [dig n] else hexN (n / 16) ++ [dig (n % 16)]
termination_by n
section
variable {P : Program} {r : Option Nat} {f : FuncId} {R : Value → World → Prop} {w0 : World} {S : List Nat} {Y : List (Nat × Obj)} {n : Nat} {k : List Item} {l : Fl} {h : Hl}
variable {ops : Array Oper} {i d : Nat} {rest : List Nat} {ty : TypeId} {pos : String} {aft : Array Edge} {g : Option (Nat × Bool)} {t : TypeId}
end
structure Nums (ks : Nat → List UInt8) (n : Nat) (L : List (List UInt8 × Nat)) (l : List Int) (k : Nat) : Prop where
  len : l.length = n
  le : k ≤ n
  lt : ∀ x v, mget (fun a b => a == b) L x = some v → v < L.length
  inj : ∀ x y v, mget (fun a b => a == b) L x = some v → mget (fun a b => a == b) L y = some v → x = y
  at_ : ∀ i, i < k → ∃ v : Nat, l.getD i 0 = v ∧ mget (fun a b => a == b) L (ks i) = some v
end Go.Proofs.Wit
namespace Go.Proofs.Wit
open Go Go.RowKit
/-! small whole numbers: or, shifts -/
section
variable {P : Program} {t : TypeId}
theorem ofInt_nat (x : Nat) : BitVec.ofInt 64 (x : Int) = BitVec.ofNat 64 x := by
  apply BitVec.eq_of_toNat_eq; simp
theorem bShlN {x j : Nat} {b : Int} {k : IntKind} (h : b = j) (hx : x * 2 ^ j < 9223372036854775808) (hj : j ≤ 64) : Bin P .shl t (.int .i64 x) (.int k b) (.int .i64 ((x * 2 ^ j : Nat) : Int)) := by
  subst h
  refine bin_pure (fun p q => eqg_int _ _ _ _ _ _ _ _) ?_
  show Op.shift .shl .i64 (x : Int) k (j : Int) = _
  unfold Op.shift
  rw [if_neg (by omega), Int.toNat_natCast]
  show pure (Value.int .i64 (IntKind.i64.wrap ((x : Int) * 2 ^ (min j 64)))) = _
  rw [Nat.min_eq_left hj]
  have e1 : ((x : Int) * 2 ^ j) = ((x * 2 ^ j : Nat) : Int) := by norm_cast
  rw [e1, IntWalk.i64_in _ (by omega)]
end
end Go.Proofs.Wit
namespace Go.Proofs.Wit
/-! bisimulations between two models -/
def forB (r s z : List W64) (v w : Nat) : Bool := (pts (r.getD v 0#64)).all (fun x => z.getD x 0#64 &&& s.getD w 0#64 != 0#64) && (s.getD w 0#64 &&& ~~~ mapR z (r.getD v 0#64) == 0#64)
def matB (va vb : List W64) (ra rb : List (List W64)) (z : List W64) (v w : Nat) : Bool := (fm va v == fm vb w) && (List.range ra.length).all (fun i => forB (ra.getD i []) (rb.getD i []) z v w)
def LeZ (l c : List W64) : Prop := ∀ u v, Rl l u v → Rl c u v
section
variable {va vb : List W64} {ra rb : List (List W64)}
def SimB (va vb : List W64) (ra rb : List (List W64)) (z : List W64) : Prop := ∀ v w, Rl z v w → matB va vb ra rb z v w = true
structure InvZ (va vb : List W64) (ra rb : List (List W64)) (na nb : Nat) (z : List W64) : Prop where
  len : z.length = na
  rng : ∀ v w, Rl z v w → w < nb
  top : ∀ z' : List W64, z'.length = na → (∀ v w, Rl z' v w → w < nb) → SimB va vb ra rb z' → LeZ z' z
theorem one_bit {w i : Nat} (hw : w < 64) : (1#64 <<< w).getLsbD i = decide (i = w) := by
  rw [BitVec.getLsbD_shiftLeft]
  by_cases e : i = w
  · subst e; simp [hw]
  · rw [decide_eq_false e]
    by_cases h1 : i < 64
    · by_cases h2 : i < w
      · simp [h1, h2]
      · have h3 : i - w ≠ 0 := by omega
        simp [h1, h2, h3]
    · simp [h1]
end
def sumZ (z : List W64) : Nat := (z.map BitVec.toNat).sum
structure TurnZ (va vb : List W64) (ra rb : List (List W64)) (na nb : Nat) (z0 z : List W64) (ch : Bool) (k : Nat) : Prop where
  inv : InvZ va vb ra rb na nb z
  le : sumZ z ≤ sumZ z0
  chg : ch = true → sumZ z < sumZ z0
  same : ch = false → ∀ v w, v < k → Rl z v w → matB va vb ra rb z v w = true
structure RowZ (va vb : List W64) (ra rb : List (List W64)) (na nb : Nat) (z0 : List W64) (k : Nat) (s : W64) (i : Nat) (z : List W64) (ch : Bool) : Prop where
  turn : TurnZ va vb ra rb na nb z0 z ch k
  row : ∀ w, Rl z k w → s.getLsbD w = true
  left : ∀ w ∈ (pts s).drop i, Rl z k w
  done : ch = false → ∀ w ∈ (pts s).take i, matB va vb ra rb z k w = true
section
variable {va vb : List W64} {ra rb : List (List W64)} {na nb k i : Nat} {z0 z : List W64} {s : W64} {ch : Bool}
end
theorem outB_rng {n : Nat} {z : List W64} (hn : n ≤ 64) : outB n z = false ↔ ∀ v w, Rl z v w → w < n := by
  rw [outB_false]
  constructor
  · intro h v w hw
    have hv := hw.dom
    have h1 := h z[v] (List.getElem_mem hv)
    have e : z.getD v 0#64 = z[v] := by simp [List.getD_eq_getElem?_getD, hv]
    unfold Rl at hw
    rw [e] at hw
    have h2 := andNot_zero.1 h1 w hw
    rw [allW_bit hn (bit_lt hw)] at h2
    simpa using h2
  · intro h s hs
    obtain ⟨v, hv, rfl⟩ := List.mem_iff_getElem.1 hs
    refine andNot_zero.2 fun i hi => ?_
    have e : z.getD v 0#64 = z[v] := by simp [List.getD_eq_getElem?_getD, hv]
    have := h v i (by unfold Rl; rw [e]; exact hi)
    rw [allW_bit hn (bit_lt hi)]
    simpa using this
end Go.Proofs.Wit
namespace Go.Proofs.Wit
open Go Go.RowKit
/-! for the reference of chapter 19 -/
section
variable {P : Program} {t : TypeId}
theorem bRem2 {x : W64} : Bin P .rem t (U x) (U 2#64) (U (x &&& 1#64)) := bU _ (by
  show Op.intDiv .rem .u64 (x.toNat : Int) 2 = _
  unfold Op.intDiv
  rw [if_neg (by decide)]
  show pure (Value.int .u64 ((x.toNat : Int).tmod 2)) = pure (Value.int .u64 ((x &&& 1#64).toNat : Int))
  rw [show (x.toNat : Int).tmod 2 = ((x.toNat % 2 : Nat) : Int) from rfl, BitVec.toNat_and]
  rw [show (1#64 : W64).toNat = 1 from rfl, Nat.and_one_is_mod])
end
section
variable {κ : Type} [DecidableEq κ]
structure Down (key : Nat → κ) (i : Nat) (j : Int) (low : Nat) : Prop where
  lo : j < low
  hi : low ≤ i
  eq : key low = key i
  min : ∀ m : Nat, j < m → m ≤ i → key m = key i → low ≤ m
omit [DecidableEq κ] in
end
structure RowR (va vb : List W64) (ra rb : List (List W64)) (na nb : Nat) (z0 : List W64) (k j : Nat) (z : List W64) (ch : Bool) : Prop where
  turn : TurnZ va vb ra rb na nb z0 z ch k
  done : ch = false → ∀ w, w < j → Rl z k w → matB va vb ra rb z k w = true
section
variable {va vb : List W64} {ra rb : List (List W64)} {na nb k j : Nat} {z0 z : List W64} {ch : Bool}
end
end Go.Proofs.Wit
namespace Go.Proofs.Wit
open Go Go.RowKit
/-! groups: the meet of the relations of a group -/
section
variable {P : Program} {t : TypeId}
theorem bShrN {x j : Nat} {b : Int} {k : IntKind} (h : b = j) (_hx : x < 9223372036854775808) (hj : j ≤ 64) : Bin P .shr t (.int .i64 x) (.int k b) (.int .i64 ((x / 2 ^ j : Nat) : Int)) := by
  subst h
  refine bin_pure (fun p q => eqg_int _ _ _ _ _ _ _ _) ?_
  show Op.shift .shr .i64 (x : Int) k (j : Int) = _
  unfold Op.shift
  rw [if_neg (by omega), Int.toNat_natCast]
  show pure (Value.int .i64 ((x : Int).fdiv (2 ^ (min j 64)))) = _
  rw [Nat.min_eq_left hj]
  have e1 : ((2 : Int) ^ j) = ((2 ^ j : Nat) : Int) := by norm_cast
  rw [e1, ← Int.ofNat_fdiv]
theorem bAnd1N {x : Nat} (hx : x < 9223372036854775808) : Bin P .and t (.int .i64 x) (.int .i64 1) (.int .i64 ((x % 2 : Nat) : Int)) := bI _ (by
  show Op.intBits .and .i64 (x : Int) 1 = _
  unfold Op.intBits
  have e1 : (BitVec.ofInt 64 (x : Int) &&& BitVec.ofInt 64 1).toNat = x % 2 := by
    rw [ofInt_nat, show BitVec.ofInt 64 1 = BitVec.ofNat 64 1 from rfl, BitVec.toNat_and, BitVec.toNat_ofNat, BitVec.toNat_ofNat, Nat.mod_eq_of_lt (by omega), Nat.mod_eq_of_lt (by omega), Nat.and_one_is_mod]
  show pure (Value.int .i64 (IntKind.i64.wrap ((BitVec.ofInt 64 (x : Int) &&& BitVec.ofInt 64 1).toNat : Int))) = _
  rw [e1, IntWalk.i64_in _ (by omega)])
theorem bRem2N {x : Nat} : Bin P .rem t (.int .i64 x) (.int .i64 2) (.int .i64 ((x % 2 : Nat) : Int)) := bI _ (by
  show Op.intDiv .rem .i64 (x : Int) 2 = _
  unfold Op.intDiv
  rw [if_neg (by decide)]
  rfl)
end
def gb (g k : Nat) : Nat := g / 2 ^ k % 2
theorem gb_cases (g k : Nat) : gb g k = 0 ∨ gb g k = 1 := by unfold gb; omega
def meetW (n : Nat) (rel : List (List W64)) (g w : Nat) (k : Nat) : W64 := upTo (fun a (o : W64) => if gb g a = 1 then o &&& (rel.getD a []).getD w 0#64 else o) (allW n) k
def meetTo (n : Nat) (rel : List (List W64)) (g k : Nat) : List W64 := (List.range n).map (fun w => meetW n rel g w k)
def meetL (n : Nat) (rel : List (List W64)) (g : Nat) : List W64 := meetTo n rel g rel.length
section
variable {n : Nat} {rel : List (List W64)} {g k w : Nat}
theorem meetW_succ : meetW n rel g w (k + 1) = if gb g k = 1 then meetW n rel g w k &&& (rel.getD k []).getD w 0#64 else meetW n rel g w k := rfl
theorem meetTo_len : (meetTo n rel g k).length = n := by simp [meetTo]
end
section
variable {P : Program} {r : Option Nat} {f : FuncId} {R : Value → World → Prop} {w0 : World} {S : List Nat} {Y : List (Nat × Obj)} {n : Nat} {k : List Item} {l : Fl} {h : Hl}
variable {ops : Array Oper} {i d : Nat} {rest : List Nat} {ty : TypeId} {pos : String} {aft : Array Edge} {g : Option (Nat × Bool)}
end
end Go.Proofs.Wit
namespace Go.Proofs.Wit
open Go
/-! the truth of formulas: sets of worlds -/
theorem one_has {w i : Nat} (hw : w < 64) : (1#64 <<< w).getLsbD i = true ↔ i = w := by rw [one_bit hw]; simp
def selW (q : Nat → Bool) (n : Nat) : W64 := upTo (fun w (o : W64) => if q w = true then o ||| 1#64 <<< w else o) 0#64 n
theorem selW_succ {q : Nat → Bool} {n : Nat} : selW q (n + 1) = if q n = true then selW q n ||| 1#64 <<< n else selW q n := rfl
theorem selW_bit {q : Nat → Bool} : ∀ {n i : Nat}, n ≤ 64 → ((selW q n).getLsbD i = true ↔ i < n ∧ q i = true)
  | 0, i, _ => by simp [selW, upTo]
  | n + 1, i, hn => by
    rw [selW_succ]
    have ih := selW_bit (q := q) (n := n) (i := i) (by omega)
    by_cases hq : q n = true
    · rw [if_pos hq, BitVec.getLsbD_or, Bool.or_eq_true, ih, one_has (by omega)]
      constructor
      · rintro (⟨h1, h2⟩ | rfl)
        · exact ⟨by omega, h2⟩
        · exact ⟨by omega, hq⟩
      · rintro ⟨h1, h2⟩
        rcases Nat.lt_succ_iff_lt_or_eq.1 h1 with h3 | h3
        · exact .inl ⟨h3, h2⟩
        · exact .inr h3
    · rw [if_neg hq, ih]
      constructor
      · rintro ⟨h1, h2⟩; exact ⟨by omega, h2⟩
      · rintro ⟨h1, h2⟩
        rcases Nat.lt_succ_iff_lt_or_eq.1 h1 with h3 | rfl
        · exact ⟨h3, h2⟩
        · exact absurd h2 hq
def boxW (r : List W64) (n : Nat) (s : W64) : W64 := selW (fun w => r.getD w 0#64 &&& ~~~s == 0#64) n
theorem boxW_bit {r : List W64} {n : Nat} {s : W64} {w : Nat} (hn : n ≤ 64) : (boxW r n s).getLsbD w = true ↔ w < n ∧ ∀ u, Rl r w u → s.getLsbD u = true := by
  rw [boxW, selW_bit hn, beq_iff_eq, andNot_zero]; rfl
def pstep (r : List W64) (c : W64) (n : Nat) (s : W64) : W64 := upTo (fun w (o : W64) => if o.getLsbD w = true then o ||| (r.getD w 0#64 &&& c) else o) s n
def pathTo (r : List W64) (n v : Nat) (c : W64) (k : Nat) : W64 := upTo (fun _ (o : W64) => pstep r c n o) (r.getD v 0#64 &&& c) k
def pathW (r : List W64) (n v : Nat) (c : W64) : W64 := pathTo r n v c n
def comW (r : List W64) (n : Nat) (c s : W64) : W64 := selW (fun w => pathW r n w c &&& ~~~s == 0#64) n
def pstp (r : List W64) (c : W64) (w : Nat) (o : W64) : W64 := if o.getLsbD w = true then o ||| (r.getD w 0#64 &&& c) else o
theorem pstp_le {r : List W64} {c : W64} {w i : Nat} {o : W64} (h : o.getLsbD i = true) : (pstp r c w o).getLsbD i = true := by
  unfold pstp
  split
  · rw [BitVec.getLsbD_or, h, Bool.true_or]
  · exact h
theorem pst_le {r : List W64} {c : W64} {s : W64} {i : Nat} (h : s.getLsbD i = true) : ∀ k, (upTo (pstp r c) s k).getLsbD i = true
  | 0 => h
  | k + 1 => pstp_le (pst_le h k)
inductive RchC (r : List W64) (c : W64) (v : Nat) : Nat → Prop where
  | one {u : Nat} (h : Rl r v u) (hc : c.getLsbD u = true) : RchC r c v u
  | step {u x : Nat} (h : RchC r c v u) (h2 : Rl r u x) (hc : c.getLsbD x = true) : RchC r c v x
theorem pst_reach {r : List W64} {c : W64} {v : Nat} {s : W64} (h : ∀ i, s.getLsbD i = true → RchC r c v i) : ∀ k i, (upTo (pstp r c) s k).getLsbD i = true → RchC r c v i
  | 0, i, hi => h i hi
  | k + 1, i, hi => by
    rw [upTo, pstp] at hi
    split at hi
    · rename_i hk
      rw [BitVec.getLsbD_or, Bool.or_eq_true] at hi
      rcases hi with hi | hi
      · exact pst_reach h k i hi
      · rw [BitVec.getLsbD_and, Bool.and_eq_true] at hi
        exact .step (pst_reach h k k hk) hi.1 hi.2
    · exact pst_reach h k i hi
theorem pathTo_reach {r : List W64} {n v : Nat} {c : W64} : ∀ k i, (pathTo r n v c k).getLsbD i = true → RchC r c v i
  | 0, i, hi => by
    rw [pathTo, upTo, BitVec.getLsbD_and, Bool.and_eq_true] at hi
    exact .one hi.1 hi.2
  | k + 1, i, hi => pst_reach (fun i h => pathTo_reach k i h) n i hi
theorem pstep_closed {r : List W64} {c : W64} {n : Nat} {s : W64} (h : pstep r c n s = s) {w u : Nat} (hw : w < n) (hs : s.getLsbD w = true) (hr : Rl r w u) (hc : c.getLsbD u = true) : s.getLsbD u = true := by
  have key : ∀ k, w < k → (upTo (pstp r c) s k).getLsbD u = true := by
    intro k
    induction k with
    | zero => intro h; omega
    | succ k ih =>
      intro hk
      rcases Nat.lt_succ_iff_lt_or_eq.1 hk with h1 | rfl
      · exact pstp_le (ih h1)
      · rw [upTo, pstp, if_pos (pst_le hs w), BitVec.getLsbD_or, BitVec.getLsbD_and, show (r.getD w 0#64).getLsbD u = true from hr, hc]; simp
  have := key n hw
  rw [← h]; exact this
def cntB (n : Nat) (s : W64) : Nat := (List.range n).countP (fun i => s.getLsbD i)
theorem cntB_le {n : Nat} {s : W64} : cntB n s ≤ n := by
  have := List.countP_le_length (p := fun i => s.getLsbD i) (l := List.range n)
  simpa [cntB] using this
theorem bits_ext {n : Nat} {s t : W64} (hs : ∀ i, s.getLsbD i = true → i < n) (ht : ∀ i, t.getLsbD i = true → i < n) (h : ∀ i, i < n → (s.getLsbD i = true ↔ t.getLsbD i = true)) : s = t := by
  apply BitVec.eq_of_getLsbD_eq
  intro i _
  rw [Bool.eq_iff_iff]
  exact ⟨fun h1 => (h i (hs i h1)).1 h1, fun h1 => (h i (ht i h1)).2 h1⟩
theorem cntB_lt {n : Nat} {s t : W64} (hs : ∀ i, s.getLsbD i = true → i < n) (ht : ∀ i, t.getLsbD i = true → i < n) (h : ∀ i, s.getLsbD i = true → t.getLsbD i = true) (hne : s ≠ t) : cntB n s < cntB n t := by
  obtain ⟨j, hj, h1, h2⟩ : ∃ j, j < n ∧ s.getLsbD j = false ∧ t.getLsbD j = true := Classical.byContradiction (fun hno => hne (bits_ext hs ht (fun i hi => ⟨h i, fun h2 => by
    cases e : s.getLsbD i with
    | true => rfl
    | false => exact absurd ⟨i, hi, e, h2⟩ hno⟩)))
  exact cntR_lt (fun i _ hi => h i hi) hj h1 h2
theorem fix_of {n : Nat} {f : W64 → W64} {s : W64} (hle : ∀ t i, t.getLsbD i = true → (f t).getLsbD i = true) (hb : ∀ k i, (upTo (fun _ o => f o) s k).getLsbD i = true → i < n) : f (upTo (fun _ o => f o) s n) = upTo (fun _ o => f o) s n := by
  have key : ∀ k, f (upTo (fun _ o => f o) s k) = upTo (fun _ o => f o) s k ∨ k ≤ cntB n (upTo (fun _ o => f o) s k) := by
    intro k
    induction k with
    | zero => exact .inr (Nat.zero_le _)
    | succ k ih =>
      by_cases he : f (upTo (fun _ o => f o) s k) = upTo (fun _ o => f o) s k
      · left
        show f (f (upTo (fun _ o => f o) s k)) = f (upTo (fun _ o => f o) s k)
        rw [he]
        exact he
      · rcases ih with ih | ih
        · exact absurd ih he
        · right
          have := cntB_lt (n := n) (hb k) (hb (k + 1)) (fun i hi => hle _ i hi) (fun e => he e.symm)
          omega
  rcases key n with h | h
  · exact h
  · refine Classical.byContradiction (fun hne => ?_)
    have := cntB_lt (n := n) (hb n) (hb (n + 1)) (fun i hi => hle _ i hi) (fun e => hne e.symm)
    have := cntB_le (n := n) (s := upTo (fun _ o => f o) s (n + 1))
    omega
theorem RchC.lt {r : List W64} {c : W64} {v u n : Nat} (hr : ∀ a b, Rl r a b → b < n) (h : RchC r c v u) : u < n := by
  cases h with
  | one h _ => exact hr _ _ h
  | step _ h _ => exact hr _ _ h
theorem pathW_bit {r : List W64} {n v : Nat} {c : W64} (hr : ∀ a b, Rl r a b → b < n) {u : Nat} : (pathW r n v c).getLsbD u = true ↔ RchC r c v u := by
  have hfix : pstep r c n (pathW r n v c) = pathW r n v c := fix_of (fun t i hi => pst_le hi n) (fun k i hi => (pathTo_reach k i hi).lt hr)
  constructor
  · exact pathTo_reach n u
  · intro h
    induction h with
    | @one u h hc =>
      have h0 : (pathTo r n v c 0).getLsbD u = true := by rw [pathTo, upTo, BitVec.getLsbD_and, show (r.getD v 0#64).getLsbD u = true from h, hc]; rfl
      have key : ∀ k, (pathTo r n v c k).getLsbD u = true := by
        intro k
        induction k with
        | zero => exact h0
        | succ k ih => exact pst_le ih n
      exact key n
    | step h h2 hc ih => exact pstep_closed hfix (h.lt hr) ih h2 hc
theorem comW_bit {r : List W64} {n : Nat} {c s : W64} {w : Nat} (hn : n ≤ 64) (hr : ∀ a b, Rl r a b → b < n) : (comW r n c s).getLsbD w = true ↔ w < n ∧ ∀ u, RchC r c w u → s.getLsbD u = true := by
  rw [comW, selW_bit hn, beq_iff_eq, andNot_zero]
  exact and_congr_right (fun _ => forall_congr' (fun u => by rw [pathW_bit hr]))
def joinW (rel : List (List W64)) (g w : Nat) (k : Nat) : W64 := upTo (fun a (o : W64) => if gb g a = 1 then o ||| (rel.getD a []).getD w 0#64 else o) 0#64 k
def joinTo (n : Nat) (rel : List (List W64)) (g k : Nat) : List W64 := (List.range n).map (fun w => joinW rel g w k)
def joinL (n : Nat) (rel : List (List W64)) (g : Nat) : List W64 := joinTo n rel g rel.length
theorem joinW_bit {rel : List (List W64)} {g w i : Nat} : ∀ {k : Nat}, (joinW rel g w k).getLsbD i = true ↔ ∃ a, a < k ∧ gb g a = 1 ∧ Rl (rel.getD a []) w i
  | 0 => by simp [joinW, upTo]
  | k + 1 => by
    have ih := joinW_bit (rel := rel) (g := g) (w := w) (i := i) (k := k)
    show (if gb g k = 1 then joinW rel g w k ||| (rel.getD k []).getD w 0#64 else joinW rel g w k).getLsbD i = true ↔ _
    constructor
    · intro h
      split at h
      · rename_i hg
        rw [BitVec.getLsbD_or, Bool.or_eq_true] at h
        rcases h with h | h
        · obtain ⟨a, h1, h2⟩ := ih.1 h; exact ⟨a, by omega, h2⟩
        · exact ⟨k, by omega, hg, h⟩
      · obtain ⟨a, h1, h2⟩ := ih.1 h; exact ⟨a, by omega, h2⟩
    · rintro ⟨a, h1, h2, h3⟩
      rcases Nat.lt_succ_iff_lt_or_eq.1 h1 with h4 | rfl
      · have := ih.2 ⟨a, h4, h2, h3⟩
        split
        · rw [BitVec.getLsbD_or, this, Bool.true_or]
        · exact this
      · rw [if_pos h2, BitVec.getLsbD_or, show ((rel.getD a []).getD w 0#64).getLsbD i = true from h3, Bool.or_true]
theorem joinL_bit {n : Nat} {rel : List (List W64)} {g w u : Nat} : Rl (joinL n rel g) w u ↔ w < n ∧ ∃ a, a < rel.length ∧ gb g a = 1 ∧ Rl (rel.getD a []) w u := by
  unfold Rl joinL joinTo
  by_cases hw : w < n
  · rw [show ((List.range n).map (fun w => joinW rel g w rel.length)).getD w 0#64 = joinW rel g w rel.length from by simp [List.getD_eq_getElem?_getD, hw], joinW_bit]
    exact ⟨fun h => ⟨hw, h⟩, fun h => h.2⟩
  · rw [show ((List.range n).map (fun w => joinW rel g w rel.length)).getD w 0#64 = 0#64 from by simp [List.getD_eq_getElem?_getD, hw]]
    constructor
    · intro h; simp at h
    · rintro ⟨h, _⟩; exact absurd h hw
def boolW (op : Int) (x y all : W64) : W64 := if op = 1 then all else if op = 4 then all &&& ~~~x else if op = 5 then x &&& y else if op = 6 then x ||| y else if op = 7 then (all &&& ~~~x) ||| y else if op = 8 then all &&& ~~~(x ^^^ y) else 0#64
def oneW (n : Nat) (val : List W64) (rel : List (List W64)) (op i g : Int) (x y : W64) : W64 :=
  if op = 3 then val.getD i.toNat 0#64 else if op ≤ 8 then boolW op x y (allW n)
  else if op = 9 then boxW (rel.getD i.toNat []) n x else if op = 10 then allW n &&& ~~~boxW (rel.getD i.toNat []) n (allW n &&& ~~~x)
  else if op = 11 then boxW (joinL n rel g.toNat) n x else if op = 12 then boxW (meetL n rel g.toNat) n x else comW (joinL n rel g.toNat) n x y
def semT (n : Nat) (val : List W64) (rel : List (List W64)) : Tr → W64
  | .leaf op i _ g => oneW n val rel op i g 0#64 0#64
  | .un op i _ g a => oneW n val rel op i g (semT n val rel a) 0#64
  | .bin op i _ g a b => oneW n val rel op i g (semT n val rel a) (semT n val rel b)
end Go.Proofs.Wit
namespace Go.Proofs.Wit
open Go
/-! worlds that are together agree -/
abbrev PEq (p : List Int) (v w : Nat) : Prop := p.getD v 0 = p.getD w 0
structure IvS (n : Nat) (p' p : List Int) (R : List W64) : Prop where
  fb : ∀ v w, v < n → w < n → PEq p' v w → ∀ u, Rl R v u → ∃ u', Rl R w u' ∧ PEq p u u'
def IvX (n : Nat) (p : List Int) (s : W64) : Prop := ∀ v w, v < n → w < n → PEq p v w → s.getLsbD v = true → s.getLsbD w = true
section
variable {n : Nat} {p p' : List Int} {s t c : W64} {R : List W64}
theorem allW_has (hn : n ≤ 64) {v : Nat} (hv : v < n) : (allW n).getLsbD v = true := by rw [allW_bit hn (by omega)]; simpa using hv
theorem not_bit {v : Nat} (hv : v < 64) : (~~~s).getLsbD v = !s.getLsbD v := by rw [BitVec.getLsbD_not]; simp [hv]
theorem joinL_lt {rel : List (List W64)} {g : Nat} (h : ∀ r ∈ rel, ∀ a b, Rl r a b → b < n) {a b : Nat} (hu : Rl (joinL n rel g) a b) : b < n := by
  obtain ⟨_, k, hk, _, hr⟩ := joinL_bit.1 hu
  exact h _ (by rw [List.getD_eq_getElem?_getD, List.getElem?_eq_getElem hk]; exact List.getElem_mem hk) _ _ hr
end
section
variable {n : Nat} {val : List W64} {rels : List (List W64)}
end
def allL (q : Int → Int → Int → Prop) : Tr → Prop
  | .leaf op i _ g => q op i g
  | .un op i _ g a => q op i g ∧ allL q a
  | .bin op i _ g a b => q op i g ∧ allL q a ∧ allL q b
theorem allL.mono {q q' : Int → Int → Int → Prop} (h : ∀ op i g, q op i g → q' op i g) : ∀ {t : Tr}, allL q t → allL q' t
  | .leaf _ _ _ _, h1 => h _ _ _ h1
  | .un _ _ _ _ _, h1 => ⟨h _ _ _ h1.1, h1.2.mono h⟩
  | .bin _ _ _ _ _ _, h1 => ⟨h _ _ _ h1.1, h1.2.1.mono h, h1.2.2.mono h⟩
def mdO (op : Int) : Nat := if 9 ≤ op ∧ op ≤ 15 ∨ 18 ≤ op then 1 else 0
def depT : Tr → Nat
  | .leaf op _ _ _ => mdO op
  | .un op _ _ _ a => depT a + mdO op
  | .bin op _ _ _ a b => max (depT a) (depT b) + mdO op
end Go.Proofs.Wit
namespace Go.Proofs.Wit
open Go
/-! labels, masks, and which formulas fit a model -/
def lab (q : Int → Int → Int → Prop) : Tr → Prop
  | .leaf op i _ g => q op i g
  | .un op i _ g _ => q op i g
  | .bin op i _ g _ _ => q op i g
theorem allL.lab {q : Int → Int → Int → Prop} : ∀ {t : Tr}, allL q t → Wit.lab q t
  | .leaf .., h => h
  | .un .., h => h.1
  | .bin .., h => h.1
theorem allL.kid {q : Int → Int → Int → Prop} : ∀ {t c : Tr}, allL q t → c ∈ kids t → allL q c
  | .leaf .., _, _, hc => by cases hc
  | .un .., _, h, hc => by rw [List.mem_singleton.1 hc]; exact h.2
  | .bin .., _, h, hc => by
    simp only [kids, List.mem_cons, List.not_mem_nil, or_false] at hc
    rcases hc with rfl | rfl
    · exact h.2.1
    · exact h.2.2
theorem Clo.allL {q : Int → Int → Int → Prop} {ts : List Tr} (hc : Clo ts) (h : ∀ u ∈ ts, Wit.lab q u) : ∀ t : Tr, t ∈ ts → Wit.allL q t
  | .leaf .., ht => h _ ht
  | .un _ _ _ _ a, ht => ⟨h _ ht, hc.allL h a (hc.mem ht a (by simp [kids]))⟩
  | .bin _ _ _ _ a b, ht => ⟨h _ ht, hc.allL h a (hc.mem ht a (by simp [kids])), hc.allL h b (hc.mem ht b (by simp [kids]))⟩
theorem mem_subT (t : Tr) : t ∈ subT t := (subT_ok t).mem
theorem allL_subT {q : Int → Int → Int → Prop} {t : Tr} : allL q t ↔ ∀ u ∈ subT t, lab q u :=
  ⟨fun h u hu => (visit_all (fun _ ht _ hc => ht.kid hc) t h (fun u hu => by cases hu) u hu).lab, fun h => (subT_ok t).clo.allL h t (mem_subT t)⟩
theorem lab_nodeOf {q : Int → Int → Int → Prop} {ts : List Tr} : ∀ {u : Tr}, lab q u ↔ q (nodeOf ts u).op (nodeOf ts u).i (nodeOf ts u).g
  | .leaf .. => Iff.rfl
  | .un .. => Iff.rfl
  | .bin .. => Iff.rfl
theorem allL_can {q : Int → Int → Int → Prop} {t : Tr} : allL q t ↔ ∀ n ∈ canT t, q n.op n.i n.g := by
  rw [allL_subT]
  show _ ↔ ∀ n ∈ nodesOf (subT t), _
  unfold nodesOf
  constructor
  · intro h n hn
    obtain ⟨u, hu, rfl⟩ := List.mem_map.1 hn
    exact lab_nodeOf.1 (h u hu)
  · intro h u hu
    exact lab_nodeOf.2 (h _ (List.mem_map_of_mem hu))
def orL (h : NV → Nat) (c : List NV) : Nat := c.foldl (fun a n => a ||| h n) 0
theorem orL_snoc {h : NV → Nat} {c : List NV} {n : NV} : orL h (c ++ [n]) = orL h c ||| h n := by simp [orL]
theorem orL_take {h : NV → Nat} {c : List NV} {k : Nat} (hk : k < c.length) : orL h (c.take (k + 1)) = orL h (c.take k) ||| h c[k] := by rw [List.take_succ_eq_append_getElem hk, orL_snoc]
theorem orL_lt {h : NV → Nat} {k : Nat} {c : List NV} : (∀ n ∈ c, h n < 2 ^ k) → orL h c < 2 ^ k := by
  induction c using snoc_ind with
  | h0 => intro _; exact Nat.two_pow_pos k
  | h1 c n ih => intro hb; rw [orL_snoc]; exact Nat.or_lt_two_pow (ih (fun m hm => hb m (by simp [hm]))) (hb n (by simp))
theorem orL_bit {h : NV → Nat} {j : Nat} {c : List NV} : (orL h c).testBit j = true ↔ ∃ n ∈ c, (h n).testBit j = true := by
  induction c using snoc_ind with
  | h0 => simp [orL]
  | h1 c n ih =>
    rw [orL_snoc, Nat.testBit_or, Bool.or_eq_true, ih]
    simp only [List.mem_append, List.mem_singleton]
    constructor
    · rintro (⟨m, h1, h2⟩ | h1)
      · exact ⟨m, .inl h1, h2⟩
      · exact ⟨n, .inr rfl, h1⟩
    · rintro ⟨m, h1 | rfl, h2⟩
      · exact .inl ⟨m, h1, h2⟩
      · exact .inr h2
def ftN (n : NV) : Nat := if n.op = 3 then 2 ^ n.i.toNat else 0
def agN (n : NV) : Nat := (if agO n.op = true then 2 ^ n.i.toNat else 0) ||| n.g.toNat
structure FldOk (op i e g : Int) : Prop where
  i0 : iO op = false → i = 0
  e0 : op ≠ 17 → e = 0
  g0 : grO op = false → g = 0
  fact : op = 3 → 0 ≤ i ∧ i < 8
  ag : agO op = true → 0 ≤ i ∧ i < 4
  act : op = 17 → (0 ≤ i ∧ i < 8) ∧ 0 ≤ e ∧ e < 8
  gr : grO op = true → 1 ≤ g ∧ g < 16
theorem fldOk_of {op i e g : Int} (h : fldE op i e g = 0) : FldOk op i e g := by
  unfold fldE at h
  split at h
  · cases h
  · rename_i h1
    split at h
    · cases h
    · rename_i h2
      simp only [Bool.or_eq_true, Bool.and_eq_true, Bool.not_eq_true', bne_iff_ne, ne_eq, beq_iff_eq, not_or, not_and, Bool.and_eq_false_iff, decide_eq_false_iff_not, Classical.not_not] at h1 h2
      obtain ⟨⟨a1, a2⟩, a3⟩ := h1
      obtain ⟨⟨⟨b1, b2⟩, b3⟩, b4⟩ := h2
      refine ⟨a1, a2, a3, fun e => ?_, fun e => ?_, fun e => ?_, fun e => ?_⟩
      · have := b1 e; omega
      · have := b2 e; omega
      · have := b3 e; omega
      · have := b4 e; omega
def okM (m k A : Nat) : Bool := (List.range k).all (fun i => gb m i != 1 || decide (i < A))
theorem gb_testBit {m i : Nat} : gb m i = 1 ↔ m.testBit i = true := by
  unfold gb
  rw [Nat.testBit_eq_decide_div_mod_eq]; simp
theorem okM_iff {m k A : Nat} : okM m k A = true ↔ ∀ i, i < k → m.testBit i = true → i < A := by
  unfold okM
  simp only [List.all_eq_true, List.mem_range, Bool.or_eq_true, bne_iff_ne, ne_eq, decide_eq_true_eq, gb_testBit]
  constructor
  · intro h i hi hb
    rcases h i hi with h1 | h1
    · exact absurd hb h1
    · exact h1
  · intro h i hi
    by_cases hb : m.testBit i = true
    · exact .inr (h i hi hb)
    · exact .inl hb
theorem okM_false {m k A i : Nat} (hi : i < k) (h1 : gb m i = 1) (h2 : ¬ i < A) : okM m k A = false := by
  rw [Bool.eq_false_iff]
  intro h
  exact h2 (okM_iff.1 h i hi (gb_testBit.1 h1))
theorem okM_all {m k A : Nat} (h : ∀ i, i < k → gb m i = 1 → i < A) : okM m k A = true := okM_iff.2 (fun i hi hb => h i hi (gb_testBit.2 hb))
def fitB (f : List NV) (A B : Nat) : Bool := chkF f == 0 && (okM (orL agN (compF f)) 4 A && okM (orL ftN (compF f)) 8 B)
def FitL (A B : Nat) (op i g : Int) : Prop := (agO op = true → i.toNat < A) ∧ (op = 3 → i.toNat < B) ∧ g.toNat < 2 ^ A
theorem bits_lt {g A : Nat} (hg : g < 16) : (∀ i, i < 4 → g.testBit i = true → i < A) ↔ g < 2 ^ A := by
  constructor
  · intro h
    refine Nat.lt_pow_two_of_testBit g (fun i hi => ?_)
    by_cases h4 : i < 4
    · cases e : g.testBit i with
      | false => rfl
      | true => have := h i h4 e; omega
    · exact Nat.testBit_lt_two_pow (Nat.lt_of_lt_of_le hg (by show 2 ^ 4 ≤ 2 ^ i; exact Nat.pow_le_pow_right (by decide) (by omega)))
  · intro h i _ hb
    refine Classical.byContradiction (fun hA => ?_)
    rw [Nat.testBit_lt_two_pow (Nat.lt_of_lt_of_le h (Nat.pow_le_pow_right (by decide) (by omega)))] at hb
    cases hb
theorem g_lt {op i e g : Int} (h : FldOk op i e g) : g.toNat < 16 := by
  cases hg : grO op with
  | false => rw [h.g0 hg]; decide
  | true => have := h.gr hg; omega
theorem agN_lt {n : NV} (h : FldOk n.op n.i n.e n.g) : agN n < 2 ^ 4 := by
  refine Nat.or_lt_two_pow ?_ (g_lt h)
  split
  · rename_i ha; have := h.ag ha; exact Nat.pow_lt_pow_right (by decide) (by omega)
  · decide
theorem ftN_lt {n : NV} (h : FldOk n.op n.i n.e n.g) : ftN n < 2 ^ 8 := by
  unfold ftN
  split
  · rename_i ha; have := h.fact ha; exact Nat.pow_lt_pow_right (by decide) (by omega)
  · decide
theorem fit_ag {n : NV} (h : FldOk n.op n.i n.e n.g) {A : Nat} : (∀ i, i < 4 → (agN n).testBit i = true → i < A) ↔ (agO n.op = true → n.i.toNat < A) ∧ n.g.toNat < 2 ^ A := by
  rw [← bits_lt (g_lt h)]
  unfold agN
  constructor
  · intro h1
    refine ⟨fun ha => ?_, fun i hi hb => h1 i hi (by rw [Nat.testBit_or, hb, Bool.or_true])⟩
    have := h.ag ha
    exact h1 n.i.toNat (by omega) (by rw [Nat.testBit_or, if_pos ha, Nat.testBit_two_pow_self, Bool.true_or])
  · rintro ⟨h1, h2⟩ i hi hb
    rw [Nat.testBit_or, Bool.or_eq_true] at hb
    rcases hb with hb | hb
    · split at hb
      · rename_i ha
        rw [Nat.testBit_two_pow, decide_eq_true_eq] at hb
        rw [← hb]; exact h1 ha
      · rw [Nat.zero_testBit] at hb; cases hb
    · exact h2 i hi hb
theorem fit_ft {n : NV} (h : FldOk n.op n.i n.e n.g) {B : Nat} : (∀ i, i < 8 → (ftN n).testBit i = true → i < B) ↔ (n.op = 3 → n.i.toNat < B) := by
  unfold ftN
  constructor
  · intro h1 h3
    have := h.fact h3
    exact h1 n.i.toNat (by omega) (by rw [if_pos h3, Nat.testBit_two_pow_self])
  · intro h1 i _ hb
    split at hb
    · rename_i h3
      rw [Nat.testBit_two_pow, decide_eq_true_eq] at hb
      rw [← hb]; exact h1 h3
    · rw [Nat.zero_testBit] at hb; cases hb
theorem NodesOk.fld {f : List NV} (h : NodesOk f) : ∀ n ∈ f, FldOk n.op n.i n.e n.g := fun n hn => by
  obtain ⟨i, hi, rfl⟩ := List.mem_iff_getElem.1 hn
  exact fldOk_of (h i hi).fld
theorem NodesOk.opm {f : List NV} (h : NodesOk f) : ∀ n ∈ f, 1 ≤ n.op ∧ n.op ≤ 21 := fun n hn => by
  obtain ⟨i, hi, rfl⟩ := List.mem_iff_getElem.1 hn
  exact (h i hi).op
theorem fitB_iff {f : List NV} {A B : Nat} : fitB f A B = true ↔ chkF f = 0 ∧ allL (FitL A B) (topT f) := by
  unfold fitB
  rw [Bool.and_eq_true, beq_iff_eq]
  refine and_congr_right (fun h0 => ?_)
  have hok := (chkF_zero.1 h0).top
  rw [compF_eq h0, allL_can, Bool.and_eq_true, okM_iff, okM_iff]
  have hfl := (canT_nodes hok).fld
  constructor
  · rintro ⟨h1, h2⟩ n hn
    have k1 := (fit_ag (hfl n hn) (A := A)).1 (fun i hi hb => h1 i hi (orL_bit.2 ⟨n, hn, hb⟩))
    have k2 := (fit_ft (hfl n hn) (B := B)).1 (fun i hi hb => h2 i hi (orL_bit.2 ⟨n, hn, hb⟩))
    exact ⟨k1.1, k2, k1.2⟩
  · intro h
    constructor
    · intro i hi hb
      obtain ⟨n, hn, hb⟩ := orL_bit.1 hb
      exact (fit_ag (hfl n hn)).2 ⟨(h n hn).1, (h n hn).2.2⟩ i hi hb
    · intro i hi hb
      obtain ⟨n, hn, hb⟩ := orL_bit.1 hb
      exact (fit_ft (hfl n hn)).2 (h n hn).2.1 i hi hb
/-! fragments -/
def andN (a b : Nat) : Nat := a &&& (511 ^^^ b)
theorem andN_zero {a b : Nat} (ha : a < 512) : andN a b = 0 ↔ ∀ i, a.testBit i = true → b.testBit i = true := by
  have h511 : ∀ i, (511 : Nat).testBit i = decide (i < 9) := fun i => by
    rw [show (511 : Nat) = 2 ^ 9 - 1 from rfl, Nat.testBit_two_pow_sub_one]
  constructor
  · intro h i hi
    have h9 : i < 9 := by
      refine Classical.byContradiction (fun hc => ?_)
      rw [Nat.testBit_lt_two_pow (Nat.lt_of_lt_of_le ha (by show 2 ^ 9 ≤ 2 ^ i; exact Nat.pow_le_pow_right (by decide) (by omega)))] at hi
      cases hi
    have := congrArg (fun x => x.testBit i) h
    simp only [andN, Nat.testBit_and, Nat.testBit_xor, hi, h511, h9, decide_true, Nat.zero_testBit, Bool.true_and, Bool.true_bne] at this
    simpa using this
  · intro h
    refine Nat.eq_of_testBit_eq (fun i => ?_)
    rw [andN, Nat.testBit_and, Nat.testBit_xor, h511, Nat.zero_testBit]
    cases e : a.testBit i with
    | false => rfl
    | true =>
      rw [h i e]
      have h9 : i < 9 := by
        refine Classical.byContradiction (fun hc => ?_)
        rw [Nat.testBit_lt_two_pow (Nat.lt_of_lt_of_le ha (by show 2 ^ 9 ≤ 2 ^ i; exact Nat.pow_le_pow_right (by decide) (by omega)))] at e
        cases e
      simp [h9]
theorem frN_lt (n : NV) : frN n < 512 := by
  have := frO_lt n.op
  have := frN_eq n
  omega
theorem frg_zero {c : List NV} {b : Nat} : andN (frgL c) b = 0 ↔ ∀ n ∈ c, andN (frN n) b = 0 := by
  rw [andN_zero (frgL_lt c)]
  constructor
  · intro h n hn
    rw [andN_zero (frN_lt n)]
    exact fun i hi => h i (orL_bit.2 ⟨n, hn, hi⟩)
  · intro h i hi
    obtain ⟨n, hn, hb⟩ := orL_bit.1 (show (orL frN c).testBit i = true from hi)
    exact (andN_zero (frN_lt n)).1 (h n hn) i hb
theorem op_cases {p : Int → Prop} (h : ∀ k : Nat, k < 21 → p ((k : Int) + 1)) {op : Int} (ho : 1 ≤ op ∧ op ≤ 21) : p op := by
  have := h (op.toNat - 1) (by omega)
  rw [show (((op.toNat - 1 : Nat) : Int) + 1) = op by omega] at this
  exact this
theorem frO_15 {op : Int} (ho : 1 ≤ op ∧ op ≤ 21) : andN (frO op).toNat 15 = 0 ↔ op ≤ 13 :=
  op_cases (p := fun op => andN (frO op).toNat 15 = 0 ↔ op ≤ 13) (by decide) ho
theorem frg_has {t : Tr} {b : Nat} {r : Int → Prop} (ht : t.ok) (hr : ∀ {op : Int}, (1 ≤ op ∧ op ≤ 21) → (andN (frO op).toNat b = 0 ↔ r op)) : andN (frgL (canT t)) b = 0 ↔ allL (fun op _ _ => r op) t := by
  rw [frg_zero, allL_can]
  have ho := (canT_nodes ht).opm
  exact ⟨fun h n hn => (hr (ho n hn)).1 (h n hn), fun h n hn => (hr (ho n hn)).2 (h n hn)⟩
theorem bAndNotI {P : Program} {t : TypeId} {a b : Nat} (ha : a < 512) (hb : b < 512) : Bin P .andNot t (.int .i64 a) (.int .i64 b) (.int .i64 (andN a b)) := by
  refine bI _ ?_
  have h1 : (BitVec.ofInt 64 (a : Int)).toNat = a := by
    rw [BitVec.ofInt_natCast, BitVec.toNat_ofNat]; exact Nat.mod_eq_of_lt (by omega)
  have h2 : BitVec.ofInt 64 (b : Int) = BitVec.ofNat 64 b := BitVec.ofInt_natCast ..
  have h0 : BitVec.ofInt 64 (a : Int) = BitVec.ofNat 64 a := BitVec.ofInt_natCast ..
  have hx : andN a b < 2 ^ 9 := Nat.and_lt_two_pow _ (by show 511 ^^^ b < 2 ^ 9; exact Nat.xor_lt_two_pow (by decide) (by omega))
  have key : (BitVec.ofInt 64 (a : Int) &&& ~~~ BitVec.ofInt 64 (b : Int)) = BitVec.ofNat 64 (andN a b) := by
    rw [h0, h2]
    apply BitVec.eq_of_getLsbD_eq
    intro i hi
    rw [BitVec.getLsbD_and, BitVec.getLsbD_not, BitVec.getLsbD_ofNat, BitVec.getLsbD_ofNat, BitVec.getLsbD_ofNat, andN, Nat.testBit_and, Nat.testBit_xor, show (511 : Nat) = 2 ^ 9 - 1 from rfl, Nat.testBit_two_pow_sub_one]
    have e9 : ¬ i < 9 → a.testBit i = false := fun hc => Nat.testBit_lt_two_pow (Nat.lt_of_lt_of_le ha (by show 2 ^ 9 ≤ 2 ^ i; exact Nat.pow_le_pow_right (by decide) (by omega)))
    by_cases h9 : i < 9
    · simp [hi, h9]
    · simp [hi, e9 h9]
  show (binOp .andNot t (.int .i64 a) (.int .i64 b)) = _
  show (pure (Value.int .i64 (IntKind.i64.wrap ((BitVec.ofInt 64 (a : Int) &&& ~~~ BitVec.ofInt 64 (b : Int)).toNat : Int))) : Sem Value) = _
  rw [key, BitVec.toNat_ofNat, Nat.mod_eq_of_lt (by omega), IntWalk.i64_in _ (by omega)]
/-! what Holds says of a model and a formula -/
def holdE (n : Int) (val : List W64) (rel : List (List W64)) (f : List NV) : Int :=
  if checkM n val rel ≠ 0 then checkM n val rel else if chkF f ≠ 0 then chkF f else if andN (frgL (compF f)) 15 ≠ 0 then 10 else if fitB f rel.length val.length = false then 2 else 0
def StatL (A B : Nat) (op i g : Int) : Prop := op ≤ 13 ∧ FitL A B op i g
theorem allL_and {p q : Int → Int → Int → Prop} : ∀ {t : Tr}, allL p t → allL q t → allL (fun op i g => p op i g ∧ q op i g) t
  | .leaf .., h, k => ⟨h, k⟩
  | .un .., h, k => ⟨⟨h.1, k.1⟩, allL_and h.2 k.2⟩
  | .bin .., h, k => ⟨⟨h.1, k.1⟩, allL_and h.2.1 k.2.1, allL_and h.2.2 k.2.2⟩
theorem holdE_zero {n : Int} {val : List W64} {rel : List (List W64)} {f : List NV} : holdE n val rel f = 0 ↔ ValM n val rel ∧ chkF f = 0 ∧ allL (StatL rel.length val.length) (topT f) := by
  unfold holdE
  constructor
  · intro h
    split at h
    · rename_i h1; exact absurd h h1
    · rename_i h1
      split at h
      · rename_i h2; exact absurd h h2
      · rename_i h2
        split at h
        · cases h
        · rename_i h3
          split at h
          · cases h
          · rename_i h4
            have h2 := Classical.not_not.1 h2
            have h3 := Classical.not_not.1 h3
            rw [compF_eq h2] at h3
            exact ⟨checkM_zero.1 (Classical.not_not.1 h1), h2, allL_and ((frg_has (chkF_zero.1 h2).top frO_15).1 h3) (fitB_iff.1 (by simpa using h4)).2⟩
  · rintro ⟨h1, h2, h3⟩
    have k3 : andN (frgL (compF f)) 15 = 0 := by
      rw [compF_eq h2]; exact (frg_has (chkF_zero.1 h2).top frO_15).2 (h3.mono (fun _ _ _ h => h.1))
    have k4 : fitB f rel.length val.length = true := fitB_iff.2 ⟨h2, h3.mono (fun _ _ _ h => h.2)⟩
    rw [if_neg (by simp [checkM_zero.2 h1]), if_neg (by simp [h2]), if_neg (by simp [k3]), if_neg (by simp [k4])]
theorem semT_mk {n : Nat} {val : List W64} {rel : List (List W64)} {nd : NV} {a b : Tr} : semT n val rel (mkT nd a b) = oneW n val rel nd.op nd.i nd.g (if usX nd.op = true then semT n val rel a else 0#64) (if usY nd.op = true then semT n val rel b else 0#64) := by
  unfold mkT
  split
  · rename_i h; rw [if_pos (usY_X h)]; rfl
  · split
    · rename_i h; rfl
    · rfl
end Go.Proofs.Wit
namespace Go.Proofs.Wit
/-! a canonical list's sets -/
structure NdFit (A B : Nat) (nd : NV) : Prop where
  op1 : 1 ≤ nd.op
  op13 : nd.op ≤ 13
  fact : nd.op = 3 → 0 ≤ nd.i ∧ nd.i.toNat < B
  ag : nd.op = 9 ∨ nd.op = 10 → 0 ≤ nd.i ∧ nd.i.toNat < A
  gr : 11 ≤ nd.op → 1 ≤ nd.g ∧ nd.g.toNat < 2 ^ A
theorem NdFit.of {A B : Nat} {nd : NV} (h1 : 1 ≤ nd.op ∧ nd.op ≤ 21) (hf : FldOk nd.op nd.i nd.e nd.g) (hs : StatL A B nd.op nd.i nd.g) : NdFit A B nd := by
  obtain ⟨h13, ha, hb, hg⟩ := hs
  refine ⟨h1.1, h13, fun e => ⟨(hf.fact e).1, hb e⟩, fun e => ?_, fun e => ⟨(hf.gr ?_).1, hg⟩⟩
  · have hag : agO nd.op = true := by rcases e with e | e <;> rw [e] <;> rfl
    exact ⟨(hf.ag hag).1, ha hag⟩
  · simp only [grO, Bool.and_eq_true, decide_eq_true_eq]; omega
def setsL (n : Nat) (val : List W64) (rel : List (List W64)) (g : List NV) (k : Nat) : List W64 := (List.range k).map (fun i => semT n val rel (treeAt g i))
theorem setsL_len {n : Nat} {val : List W64} {rel : List (List W64)} {g : List NV} {k : Nat} : (setsL n val rel g k).length = k := by simp [setsL]
theorem setsL_succ {n : Nat} {val : List W64} {rel : List (List W64)} {g : List NV} {k : Nat} : setsL n val rel g (k + 1) = setsL n val rel g k ++ [semT n val rel (treeAt g k)] := by simp [setsL, List.range_succ]
theorem setsL_get {n : Nat} {val : List W64} {rel : List (List W64)} {g : List NV} {i k : Nat} (h : i < k) : (setsL n val rel g k).getD i 0#64 = semT n val rel (treeAt g i) := by simp [setsL, List.getD_eq_getElem?_getD, h]
theorem semT_node {n : Nat} {val : List W64} {rel : List (List W64)} {g : List NV} (ho : NodesOk g) {k : Nat} (hk : k < g.length) :
    semT n val rel (treeAt g k) = oneW n val rel g[k].op g[k].i g[k].g (if usX g[k].op = true then semT n val rel (treeAt g g[k].x.toNat) else 0#64) (if usY g[k].op = true then semT n val rel (treeAt g g[k].y.toNat) else 0#64) := by
  have ho2 := ho.ord k hk
  rw [treeAt_node hk (fun h => by have := ho2.1 h; omega) (fun h => by have := ho2.2 h; omega), semT_mk]
structure CanF (g : List NV) : Prop where
  chk : chkF g = 0
  can : g = canT (topT g)
theorem CanF.comp {g : List NV} (h : CanF g) : compF g = g := by rw [compF_eq h.chk]; exact h.can.symm
theorem CanF.ok {g : List NV} (h : CanF g) : (topT g).ok := (chkF_zero.1 h.chk).top
theorem CanF.of {t : Tr} (h : t.ok) (hl : (canT t).length ≤ 200) : CanF (canT t) := ⟨(bT_chk h hl).2.1, by rw [(bT_chk h hl).2.2]⟩
theorem CanF.compF {f : List NV} (h : chkF f = 0) : CanF (compF f) := by
  have hl := compF_len h
  have hl2 := (chkF_zero.1 h).len
  rw [compF_eq h] at hl ⊢
  exact .of (chkF_zero.1 h).top (by omega)
theorem topT_comp {f : List NV} (h : chkF f = 0) : topT (compF f) = topT f := by
  rw [compF_eq h]; exact topT_canT (chkF_zero.1 h).top.wf
theorem CanF.len {g : List NV} (h : CanF g) : g.length ≤ 200 := (chkF_zero.1 h.chk).len
theorem CanF.nodes {g : List NV} (h : CanF g) : NodesOk g := (chkF_zero.1 h.chk).nodes
theorem CanF.trees {g : List NV} (h : CanF g) : Wit.trees g = subT (topT g) := by
  have := h.can
  rw [this]
  conv => rhs; rw [← this]
  exact trees_canT h.ok.wf
theorem CanF.mem {g : List NV} (h : CanF g) {k : Nat} (hk : k < g.length) : treeAt g k ∈ subT (topT g) := by
  rw [← h.trees, treeAt_eq hk]; exact List.getElem_mem _
theorem CanF.all {g : List NV} (h : CanF g) {q : Int → Int → Int → Prop} (hq : allL q (topT g)) {k : Nat} (hk : k < g.length) : allL q (treeAt g k) :=
  visit_all (fun _ ht _ hc => ht.kid hc) (topT g) hq (fun u hu => by cases hu) _ (h.mem hk)
theorem CanF.sub {g : List NV} (h : CanF g) {k : Nat} (hk : k < g.length) : CanF (subF g k) ∧ topT (subF g k) = treeAt g k := by
  have hok : (treeAt g k).ok := h.nodes.tree k hk
  have hl := canon_len h.nodes.ord hk
  have hl2 := h.len
  have e : subF g k = canT (treeAt g k) := by
    rw [subF, if_neg (by simp only [h.chk, ne_eq, not_true_eq_false, false_or]; omega), Int.toNat_natCast]
  rw [e]
  exact ⟨.of hok (by omega), topT_canT hok.wf⟩
theorem CanF.stat {g : List NV} (h : CanF g) {A B : Nat} (hs : allL (StatL A B) (topT g)) {k : Nat} (hk : k < g.length) : andN (frgL (Wit.compF (subF g k))) 15 = 0 ∧ fitB (subF g k) A B = true := by
  obtain ⟨h1, h2⟩ := h.sub hk
  have hq := h.all hs hk
  constructor
  · rw [h1.comp, h1.can, h2]
    exact (frg_has (h.nodes.tree k hk) frO_15).2 (hq.mono (fun _ _ _ h => h.1))
  · exact fitB_iff.2 ⟨h1.chk, by rw [h2]; exact hq.mono (fun _ _ _ h => h.2)⟩
theorem CanF.node {g : List NV} (h : CanF g) {A B : Nat} (hs : allL (StatL A B) (topT g)) {k : Nat} (hk : k < g.length) : NdFit A B g[k] := by
  refine .of (h.nodes k hk).op (fldOk_of (h.nodes k hk).fld) ?_
  have := h.can
  have hs2 := allL_can.1 hs
  rw [← this] at hs2
  exact hs2 _ (List.getElem_mem hk)
theorem holdE_comp {n : Int} {val : List W64} {rel : List (List W64)} {f : List NV} (h : chkF f = 0) : holdE n val rel (compF f) = holdE n val rel f := by
  have hc := CanF.compF h
  have h1 : fitB (compF f) rel.length val.length = fitB f rel.length val.length := by
    rw [Bool.eq_iff_iff, fitB_iff, fitB_iff, topT_comp h]
    exact ⟨fun e => ⟨h, e.2⟩, fun e => ⟨hc.chk, e.2⟩⟩
  unfold holdE
  rw [hc.comp, hc.chk, h, h1]
theorem sets_top {n : Nat} {val : List W64} {rel : List (List W64)} {g : List NV} (h : CanF g) : (setsL n val rel g g.length).getD (g.length - 1) 0#64 = semT n val rel (topT g) := by
  have := (chkF_zero.1 h.chk).pos
  rw [setsL_get (by omega), topT_treeAt]
end Go.Proofs.Wit
namespace Go.Proofs.Wit
open Go Go.RowKit
/-! formulas that are built of others: too long ones are no list -/
theorem subT_kid {c t : Tr} (h : c ∈ kids t) : subT c ⊆ subT t :=
  visit_sub c (ts := []) (subT_ok t).clo ((subT_ok t).clo.mem (mem_subT t) c h) (List.nil_subset _)
theorem canT_kid {c t : Tr} (h : c ∈ kids t) : (canT c).length ≤ (canT t).length := by
  rw [canT_len, canT_len]
  exact (subT_ok c).nd.length_le_of_subset (subT_kid h)
theorem bT_long {t : Tr} (h : 200 < (canT t).length) : bT t = [] := if_pos h
theorem bT_ok {t : Tr} (h : ¬ 200 < (canT t).length) : bT t = canT t := if_neg h
theorem bT_le (t : Tr) : (bT t).length ≤ 200 := by
  unfold bT; split
  · simp
  · omega
theorem bT_nil {t : Tr} : bT t = [] ↔ 200 < (canT t).length := by
  constructor
  · intro h
    refine Classical.byContradiction (fun hn => ?_)
    rw [bT_ok hn] at h
    have := canT_pos t
    rw [h] at this; exact absurd this (by simp)
  · exact bT_long
theorem bldF_bad {n : NV} {gs : List (List NV)} (h : ∃ g ∈ gs, chkF g ≠ 0) : bldF n gs = [] := if_pos h
theorem bldF_le (n : NV) (gs : List (List NV)) : (bldF n gs).length ≤ 200 := by
  unfold bldF
  repeat' split
  · simp
  · simp
  · simp
  · omega
theorem bld_un {op i e g : Int} {a : Tr} (ha : a.ok) (hop : 1 ≤ op ∧ op ≤ 21) (hX : usX op = true) (hY : usY op = false) (hf : fldE op i e g = 0) : bldF ⟨op, i, e, g, 0, 0⟩ [bT a] = bT (.un op i e g a) := by
  by_cases hl : 200 < (canT a).length
  · rw [bT_long hl, bldF_bad ⟨[], by simp, by decide⟩, bT_long (Nat.lt_of_lt_of_le hl (canT_kid (by simp [kids])))]
  · obtain ⟨h1, h2, h3⟩ := bT_chk ha (by omega)
    rw [h1, bld1 h2 hop hX hY hf rfl, h3]
theorem bld_bin {op i e g : Int} {a b : Tr} (ha : a.ok) (hb : b.ok) (hop : 1 ≤ op ∧ op ≤ 21) (hY : usY op = true) (hf : fldE op i e g = 0) : bldF ⟨op, i, e, g, 0, 0⟩ [bT a, bT b] = bT (.bin op i e g a b) := by
  by_cases hl : 200 < (canT a).length
  · rw [bT_long hl, bldF_bad ⟨[], by simp, by decide⟩, bT_long (Nat.lt_of_lt_of_le hl (canT_kid (by simp [kids])))]
  · by_cases hl2 : 200 < (canT b).length
    · rw [bT_long hl2, bldF_bad ⟨[], by simp, by decide⟩, bT_long (Nat.lt_of_lt_of_le hl2 (canT_kid (by simp [kids])))]
    · obtain ⟨h1, h2, h3⟩ := bT_chk ha (by omega)
      obtain ⟨k1, k2, k3⟩ := bT_chk hb (by omega)
      rw [h1, k1, bld2 h2 k2 hop hY hf, h3, k3]
theorem compF_bT {t : Tr} (h : t.ok) : compF (bT t) = bT t := by
  by_cases hl : 200 < (canT t).length
  · rw [bT_long hl]; exact if_pos (by decide)
  · obtain ⟨h1, h2, h3⟩ := bT_chk h (by omega)
    rw [h1, compF_eq h2, h3]
/-! conjunctions -/
def andB (a b : List NV) : List NV := bldF ⟨5, 0, 0, 0, 0, 0⟩ [a, b]
def bldAll : List (List NV) → List NV
  | [] => bldF ⟨1, 0, 0, 0, 0, 0⟩ []
  | g :: gs => gs.foldl andB (compF g)
def conjT : List Tr → Tr
  | [] => .leaf 1 0 0 0
  | t :: ts => ts.foldl (fun a b => .bin 5 0 0 0 a b) t
theorem and_ok {a b : Tr} (ha : a.ok) (hb : b.ok) : (Tr.bin 5 0 0 0 a b).ok := ⟨by omega, rfl, rfl, ha, hb⟩
theorem foldl_bT : ∀ {ts : List Tr} {t : Tr}, t.ok → (∀ u ∈ ts, u.ok) → (ts.map bT).foldl andB (bT t) = bT (ts.foldl (fun a b => .bin 5 0 0 0 a b) t)
  | [], _, _, _ => rfl
  | u :: us, t, h, hs => by
    rw [List.map_cons, List.foldl_cons, List.foldl_cons, andB, bld_bin h (hs u (by simp)) (by omega) rfl rfl]
    exact foldl_bT (and_ok h (hs u (by simp))) (fun v hv => hs v (by simp [hv]))
theorem bldAll_bT : ∀ {ts : List Tr}, (∀ u ∈ ts, u.ok) → bldAll (ts.map bT) = bT (conjT ts)
  | [], _ => bld0 (n := ⟨1, 0, 0, 0, 0, 0⟩) (by decide) rfl rfl rfl rfl
  | t :: ts, h => by
    rw [List.map_cons, bldAll, compF_bT (h t (by simp))]
    exact foldl_bT (h t (by simp)) (fun u hu => h u (by simp [hu]))
/-! x[lo:] of a slice -/
def aSl (a : Option Addr) (cap lo sz : Nat) : Option Addr := if cap = lo then a else a.map (·.add (lo * sz))
theorem Sl.drop {w : World} {a : Option Addr} {xs : List Value} (h : Sl w a xs) {cap lo : Nat} (hc : xs.length ≤ cap) : Sl w (aSl a cap lo 1) (xs.drop lo) := by
  by_cases hl : xs.length ≤ lo
  · rw [List.drop_eq_nil_of_le hl]; exact Sl.nil _ _
  · obtain ⟨b, o, rfl, hb⟩ := h.isSome (by omega)
    have e0 : aSl (some ⟨b, o, none⟩) cap lo 1 = some ⟨b, o + lo, none⟩ := by
      rw [aSl, if_neg (by omega), Option.map_some, Addr.add, Nat.mul_one]
      split
      · rename_i hz; subst hz; rfl
      · rfl
    rw [e0]
    refine ⟨fun _ => ⟨b, o + lo, rfl, hb⟩, fun i hi => ?_⟩
    rw [List.length_drop] at hi
    have := h.cell (lo + i) (by omega)
    have e1 : adr (some ⟨b, o + lo, none⟩) i = adr (some ⟨b, o, none⟩) (lo + i) := by
      simp only [adr, Option.getD_some, Nat.add_assoc]
    rw [e1, this]
    simp [List.getD_eq_getElem?_getD, List.getElem?_drop]
section
variable {P : Program} {w0 : World} {S : List Nat} {n : Nat} {l : Fl} {h : Hl} {ops : Array Oper} {i d : Nat} {ty : TypeId} {pos : String} {aft : Array Edge} {g : Option (Nat × Bool)}
theorem Vop.slLo {t e : TypeId} {x y : Operand} {a : Option Addr} {m cap lo : Nat} {kd : IntKind} {j : Int} {sz : Nat} (ho : ops[i]? = some ⟨some d, .slice t x (some y) none none, ty, pos, aft, g⟩) (hw : wantL ops l g = true)
    (hx : opd l x = some (.slice a m cap)) (hy : opd l y = some (.int kd j)) (hd : Nat.blt d n = true) (hu : P.underlying t = some (.slice e)) (he : ∀ w, (sizeOf e).run P w = .ok sz w) (hj : j = lo) (hc : lo ≤ m) :
    Vop P w0 S n h ops i l d (.slice (aSl a cap lo sz) (m - lo) (cap - lo)) :=
  .of ho hw rfl rfl hd (fun t w Ds _ hF hS => ⟨.value (.slice (aSl a cap lo sz) (m - lo) (cap - lo)), by
    subst hj
    simp only [execOp, hF.opd hx, hF.opd hy, Option.map_some, Option.map_none, Instr.sliceAt, Sem.run_bind, run_underlying hu, Result.andThen_ok, Instr.slice, Instr.sliceBounds, Instr.sliceBound, asIntOf, Sem.run_pure]
    rw [if_pos ⟨by omega, by omega⟩]
    simp only [Sem.run_pure, Result.andThen_ok, he, Int.toNat_natCast]
    rfl, rfl⟩)
end
end Go.Proofs.Wit
