/- Laws of walks, for any program, under the conditions that each theorem states. -/
import Derived.Test.YtlihcmknfdckdaaDoorS02
import Derived.Test.YtlihcmknfdckdaaDoorS12
import Derived.Test.YtlihcmknfdckdaaDoorS06
namespace Go.Proofs.Wit
open Go Go.RowKit
/-! the examples of the chapter -/
def r0 : List W64 := [2#64, 4#64, 0#64]
end Go.Proofs.Wit
namespace Go.Proofs.Wit
open Go Go.RowKit
/-! the fragments of a formula; defects and their axioms -/
theorem bOrI {P : Program} {t : TypeId} {a b c : Nat} (ha : a < 512) (hb : b < 512) (hc : c = a ||| b) : Bin P .or t (.int .i64 a) (.int .i64 b) (.int .i64 c) := by
 subst hc
 refine bI _ ?_
 have hx : a ||| b < 2 ^ 9 := Nat.or_lt_two_pow (by omega) (by omega)
 have h1 : (BitVec.ofInt 64 (a : Int)).toNat = a := by
  rw [BitVec.ofInt_natCast, BitVec.toNat_ofNat]; exact Nat.mod_eq_of_lt (by omega)
 have h2 : (BitVec.ofInt 64 (b : Int)).toNat = b := by
  rw [BitVec.ofInt_natCast, BitVec.toNat_ofNat]; exact Nat.mod_eq_of_lt (by omega)
 rw [binOp_or]
 show (pure (Value.int .i64 (IntKind.i64.wrap ((BitVec.ofInt 64 (a : Int) ||| BitVec.ofInt 64 (b : Int)).toNat : Int))) : Sem Value) = _
 rw [BitVec.toNat_or, h1, h2, IntWalk.i64_in _ (by omega)]
def frN (n : NV) : Nat := (frO n.op).toNat
theorem frO_lt (op : Int) : 0 ≤ frO op ∧ frO op < 512 := by
 unfold frO
 repeat' split
 all_goals omega
theorem frN_eq (n : NV) : (frN n : Int) = frO n.op := by
 have := frO_lt n.op
 unfold frN; omega
def frgL (c : List NV) : Nat := c.foldl (fun a n => a ||| frN n) 0
theorem frgL_snoc {c : List NV} {n : NV} : frgL (c ++ [n]) = frgL c ||| frN n := by simp [frgL]
theorem frgL_lt (c : List NV) : frgL c < 512 := by
 induction c using snoc_ind with
 | h0 => decide
 | h1 c n ih =>
  rw [frgL_snoc]
  have h2 : frN n < 2 ^ 9 := by have := frO_lt n.op; unfold frN; omega
  exact Nat.or_lt_two_pow (n := 9) ih h2
theorem compF_le (f : List NV) : (compF f).length ≤ 200 := by
 by_cases h : chkF f = 0
 ·exact (compF_ok h).len
 ·rw [compF, if_pos h]; exact Nat.zero_le _
end Go.Proofs.Wit
namespace Go.Proofs.Wit
open Go Go.RowKit
/-! strings; numbers in hexadecimal -/
def digL : List UInt8 := [48, 49, 50, 51, 52, 53, 54, 55, 56, 57, 97, 98, 99, 100, 101, 102, 103, 104, 105, 106, 107, 108, 109, 110, 111, 112, 113, 114, 115, 116, 117, 118, 119, 120, 121, 122]
def dig (i : Nat) : UInt8 := digL.getD i 0
def hexN (n : Nat) : List UInt8 := if n < 16 then [dig n] else hexN (n / 16) ++ [dig (n % 16)]
termination_by n
section
variable {P : Program} {r : Option Nat} {f : FuncId} {R : Value → World → Prop} {w0 : World} {S : List Nat} {Y : List (Nat × Obj)} {n : Nat} {k : List Item} {l : Fl} {h : Hl}
variable {ops : Array Oper} {i d : Nat} {rest : List Nat} {ty : TypeId} {pos : String} {aft : Array Edge} {g : Option (Nat × Bool)} {t : TypeId}
end
structure Nums (ks : Nat → List UInt8) (n : Nat) (L : List (List UInt8 × Nat)) (l : List Int) (k : Nat) : Prop where
  len : l.length = n
  le : k ≤ n
  lt : ∀ x v, mget (fun a b => a == b) L x = some v → v < L.length
  inj : ∀ x y v, mget (fun a b => a == b) L x = some v → mget (fun a b => a == b) L y = some v → x = y
  at_ : ∀ i, i < k → ∃ v : Nat, l.getD i 0 = v ∧ mget (fun a b => a == b) L (ks i) = some v
end Go.Proofs.Wit
namespace Go.Proofs.Wit
open Go Go.RowKit
/-! small whole numbers: or, shifts -/
section
variable {P : Program} {t : TypeId}
theorem ofInt_nat (x : Nat) : BitVec.ofInt 64 (x : Int) = BitVec.ofNat 64 x := by
 apply BitVec.eq_of_toNat_eq; simp
theorem bShlN {x j : Nat} {b : Int} {k : IntKind} (h : b = j) (hx : x * 2 ^ j < 9223372036854775808) (hj : j ≤ 64) : Bin P .shl t (.int .i64 x) (.int k b) (.int .i64 ((x * 2 ^ j : Nat) : Int)) := by
 subst h
 refine bin_pure (fun p q => eqg_int _ _ _ _ _ _ _ _) ?_
 show Op.shift .shl .i64 (x : Int) k (j : Int) = _
 unfold Op.shift
 rw [if_neg (by omega), Int.toNat_natCast]
 show pure (Value.int .i64 (IntKind.i64.wrap ((x : Int) * 2 ^ (min j 64)))) = _
 rw [Nat.min_eq_left hj]
 have e1 : ((x : Int) * 2 ^ j) = ((x * 2 ^ j : Nat) : Int) := by norm_cast
 rw [e1, IntWalk.i64_in _ (by omega)]
end
end Go.Proofs.Wit
namespace Go.Proofs.Wit
/-! bisimulations between two models -/
def forB (r s z : List W64) (v w : Nat) : Bool := (pts (r.getD v 0#64)).all (fun x => z.getD x 0#64 &&& s.getD w 0#64 != 0#64) && (s.getD w 0#64 &&& ~~~ mapR z (r.getD v 0#64) == 0#64)
def matB (va vb : List W64) (ra rb : List (List W64)) (z : List W64) (v w : Nat) : Bool := (fm va v == fm vb w) && (List.range ra.length).all (fun i => forB (ra.getD i []) (rb.getD i []) z v w)
def LeZ (l c : List W64) : Prop := ∀ u v, Rl l u v → Rl c u v
section
variable {va vb : List W64} {ra rb : List (List W64)}
def SimB (va vb : List W64) (ra rb : List (List W64)) (z : List W64) : Prop := ∀ v w, Rl z v w → matB va vb ra rb z v w = true
structure InvZ (va vb : List W64) (ra rb : List (List W64)) (na nb : Nat) (z : List W64) : Prop where
  len : z.length = na
  rng : ∀ v w, Rl z v w → w < nb
  top : ∀ z' : List W64, z'.length = na → (∀ v w, Rl z' v w → w < nb) → SimB va vb ra rb z' → LeZ z' z
end
def sumZ (z : List W64) : Nat := (z.map BitVec.toNat).sum
structure TurnZ (va vb : List W64) (ra rb : List (List W64)) (na nb : Nat) (z0 z : List W64) (ch : Bool) (k : Nat) : Prop where
  inv : InvZ va vb ra rb na nb z
  le : sumZ z ≤ sumZ z0
  chg : ch = true → sumZ z < sumZ z0
  same : ch = false → ∀ v w, v < k → Rl z v w → matB va vb ra rb z v w = true
structure RowZ (va vb : List W64) (ra rb : List (List W64)) (na nb : Nat) (z0 : List W64) (k : Nat) (s : W64) (i : Nat) (z : List W64) (ch : Bool) : Prop where
  turn : TurnZ va vb ra rb na nb z0 z ch k
  row : ∀ w, Rl z k w → s.getLsbD w = true
  left : ∀ w ∈ (pts s).drop i, Rl z k w
  done : ch = false → ∀ w ∈ (pts s).take i, matB va vb ra rb z k w = true
section
variable {va vb : List W64} {ra rb : List (List W64)} {na nb k i : Nat} {z0 z : List W64} {s : W64} {ch : Bool}
end
end Go.Proofs.Wit
namespace Go.Proofs.Wit
open Go Go.RowKit
/-! for the reference of chapter 19 -/
section
variable {P : Program} {t : TypeId}
end
section
variable {κ : Type} [DecidableEq κ]
structure Down (key : Nat → κ) (i : Nat) (j : Int) (low : Nat) : Prop where
  lo : j < low
  hi : low ≤ i
  eq : key low = key i
  min : ∀ m : Nat, j < m → m ≤ i → key m = key i → low ≤ m
omit [DecidableEq κ] in
end
structure RowR (va vb : List W64) (ra rb : List (List W64)) (na nb : Nat) (z0 : List W64) (k j : Nat) (z : List W64) (ch : Bool) : Prop where
  turn : TurnZ va vb ra rb na nb z0 z ch k
  done : ch = false → ∀ w, w < j → Rl z k w → matB va vb ra rb z k w = true
section
variable {va vb : List W64} {ra rb : List (List W64)} {na nb k j : Nat} {z0 z : List W64} {ch : Bool}
end
end Go.Proofs.Wit
namespace Go.Proofs.Wit
open Go Go.RowKit
/-! groups: the meet of the relations of a group -/
section
variable {P : Program} {t : TypeId}
theorem bShrN {x j : Nat} {b : Int} {k : IntKind} (h : b = j) (_hx : x < 9223372036854775808) (hj : j ≤ 64) : Bin P .shr t (.int .i64 x) (.int k b) (.int .i64 ((x / 2 ^ j : Nat) : Int)) := by
 subst h
 refine bin_pure (fun p q => eqg_int _ _ _ _ _ _ _ _) ?_
 show Op.shift .shr .i64 (x : Int) k (j : Int) = _
 unfold Op.shift
 rw [if_neg (by omega), Int.toNat_natCast]
 show pure (Value.int .i64 ((x : Int).fdiv (2 ^ (min j 64)))) = _
 rw [Nat.min_eq_left hj]
 have e1 : ((2 : Int) ^ j) = ((2 ^ j : Nat) : Int) := by norm_cast
 rw [e1, ← Int.ofNat_fdiv]
theorem bAnd1N {x : Nat} (hx : x < 9223372036854775808) : Bin P .and t (.int .i64 x) (.int .i64 1) (.int .i64 ((x % 2 : Nat) : Int)) := bI _ (by
 show Op.intBits .and .i64 (x : Int) 1 = _
 unfold Op.intBits
 have e1 : (BitVec.ofInt 64 (x : Int) &&& BitVec.ofInt 64 1).toNat = x % 2 := by
  rw [ofInt_nat, show BitVec.ofInt 64 1 = BitVec.ofNat 64 1 from rfl, BitVec.toNat_and, BitVec.toNat_ofNat, BitVec.toNat_ofNat, Nat.mod_eq_of_lt (by omega), Nat.mod_eq_of_lt (by omega), Nat.and_one_is_mod]
 show pure (Value.int .i64 (IntKind.i64.wrap ((BitVec.ofInt 64 (x : Int) &&& BitVec.ofInt 64 1).toNat : Int))) = _
 rw [e1, IntWalk.i64_in _ (by omega)])
theorem bRem2N {x : Nat} : Bin P .rem t (.int .i64 x) (.int .i64 2) (.int .i64 ((x % 2 : Nat) : Int)) := bI _ (by
 show Op.intDiv .rem .i64 (x : Int) 2 = _
 unfold Op.intDiv
 rw [if_neg (by decide)]
 rfl)
end
def gb (g k : Nat) : Nat := g / 2 ^ k % 2
def meetW (n : Nat) (rel : List (List W64)) (g w : Nat) (k : Nat) : W64 := upTo (fun a (o : W64) => if gb g a = 1 then o &&& (rel.getD a []).getD w 0#64 else o) (allW n) k
def meetTo (n : Nat) (rel : List (List W64)) (g k : Nat) : List W64 := (List.range n).map (fun w => meetW n rel g w k)
def meetL (n : Nat) (rel : List (List W64)) (g : Nat) : List W64 := meetTo n rel g rel.length
section
variable {n : Nat} {rel : List (List W64)} {g k w : Nat}
end
section
variable {P : Program} {r : Option Nat} {f : FuncId} {R : Value → World → Prop} {w0 : World} {S : List Nat} {Y : List (Nat × Obj)} {n : Nat} {k : List Item} {l : Fl} {h : Hl}
variable {ops : Array Oper} {i d : Nat} {rest : List Nat} {ty : TypeId} {pos : String} {aft : Array Edge} {g : Option (Nat × Bool)}
end
end Go.Proofs.Wit
namespace Go.Proofs.Wit
open Go
def selW (q : Nat → Bool) (n : Nat) : W64 := upTo (fun w (o : W64) => if q w = true then o ||| 1#64 <<< w else o) 0#64 n
def boxW (r : List W64) (n : Nat) (s : W64) : W64 := selW (fun w => r.getD w 0#64 &&& ~~~s == 0#64) n
def pstep (r : List W64) (c : W64) (n : Nat) (s : W64) : W64 := upTo (fun w (o : W64) => if o.getLsbD w = true then o ||| (r.getD w 0#64 &&& c) else o) s n
def pathTo (r : List W64) (n v : Nat) (c : W64) (k : Nat) : W64 := upTo (fun _ (o : W64) => pstep r c n o) (r.getD v 0#64 &&& c) k
def pathW (r : List W64) (n v : Nat) (c : W64) : W64 := pathTo r n v c n
def comW (r : List W64) (n : Nat) (c s : W64) : W64 := selW (fun w => pathW r n w c &&& ~~~s == 0#64) n
inductive RchC (r : List W64) (c : W64) (v : Nat) : Nat → Prop where
  | one {u : Nat} (h : Rl r v u) (hc : c.getLsbD u = true) : RchC r c v u
  | step {u x : Nat} (h : RchC r c v u) (h2 : Rl r u x) (hc : c.getLsbD x = true) : RchC r c v x
def joinW (rel : List (List W64)) (g w : Nat) (k : Nat) : W64 := upTo (fun a (o : W64) => if gb g a = 1 then o ||| (rel.getD a []).getD w 0#64 else o) 0#64 k
def joinTo (n : Nat) (rel : List (List W64)) (g k : Nat) : List W64 := (List.range n).map (fun w => joinW rel g w k)
def joinL (n : Nat) (rel : List (List W64)) (g : Nat) : List W64 := joinTo n rel g rel.length
def boolW (op : Int) (x y all : W64) : W64 := if op = 1 then all else if op = 4 then all &&& ~~~x else if op = 5 then x &&& y else if op = 6 then x ||| y else if op = 7 then (all &&& ~~~x) ||| y else if op = 8 then all &&& ~~~(x ^^^ y) else 0#64
def oneW (n : Nat) (val : List W64) (rel : List (List W64)) (op i g : Int) (x y : W64) : W64 :=
 if op = 3 then val.getD i.toNat 0#64 else if op ≤ 8 then boolW op x y (allW n)
 else if op = 9 then boxW (rel.getD i.toNat []) n x else if op = 10 then allW n &&& ~~~boxW (rel.getD i.toNat []) n (allW n &&& ~~~x)
 else if op = 11 then boxW (joinL n rel g.toNat) n x else if op = 12 then boxW (meetL n rel g.toNat) n x else comW (joinL n rel g.toNat) n x y
def semT (n : Nat) (val : List W64) (rel : List (List W64)) : Tr → W64
 | .leaf op i _ g => oneW n val rel op i g 0#64 0#64
 | .un op i _ g a => oneW n val rel op i g (semT n val rel a) 0#64
 | .bin op i _ g a b => oneW n val rel op i g (semT n val rel a) (semT n val rel b)
end Go.Proofs.Wit
namespace Go.Proofs.Wit
open Go
/-! worlds that are together agree -/
abbrev PEq (p : List Int) (v w : Nat) : Prop := p.getD v 0 = p.getD w 0
structure IvS (n : Nat) (p' p : List Int) (R : List W64) : Prop where
  fb : ∀ v w, v < n → w < n → PEq p' v w → ∀ u, Rl R v u → ∃ u', Rl R w u' ∧ PEq p u u'
def IvX (n : Nat) (p : List Int) (s : W64) : Prop := ∀ v w, v < n → w < n → PEq p v w → s.getLsbD v = true → s.getLsbD w = true
section
variable {n : Nat} {p p' : List Int} {s t c : W64} {R : List W64}
end
section
variable {n : Nat} {val : List W64} {rels : List (List W64)}
end
def allL (q : Int → Int → Int → Prop) : Tr → Prop
 | .leaf op i _ g => q op i g
 | .un op i _ g a => q op i g ∧ allL q a
 | .bin op i _ g a b => q op i g ∧ allL q a ∧ allL q b
def mdO (op : Int) : Nat := if 9 ≤ op ∧ op ≤ 15 ∨ 18 ≤ op then 1 else 0
def depT : Tr → Nat
 | .leaf op _ _ _ => mdO op
 | .un op _ _ _ a => depT a + mdO op
 | .bin op _ _ _ a b => max (depT a) (depT b) + mdO op
end Go.Proofs.Wit
namespace Go.Proofs.Wit
open Go
/-! labels, masks, and which formulas fit a model -/
def lab (q : Int → Int → Int → Prop) : Tr → Prop
 | .leaf op i _ g => q op i g
 | .un op i _ g _ => q op i g
 | .bin op i _ g _ _ => q op i g
theorem allL.lab {q : Int → Int → Int → Prop} : ∀ {t : Tr}, allL q t → Wit.lab q t
 | .leaf .., h => h
 | .un .., h => h.1
 | .bin .., h => h.1
theorem allL.kid {q : Int → Int → Int → Prop} : ∀ {t c : Tr}, allL q t → c ∈ kids t → allL q c
 | .leaf .., _, _, hc => by cases hc
 | .un .., _, h, hc => by rw [List.mem_singleton.1 hc]; exact h.2
 | .bin .., _, h, hc => by
  simp only [kids, List.mem_cons, List.not_mem_nil, or_false] at hc
  rcases hc with rfl | rfl
  ·exact h.2.1
  ·exact h.2.2
theorem Clo.allL {q : Int → Int → Int → Prop} {ts : List Tr} (hc : Clo ts) (h : ∀ u ∈ ts, Wit.lab q u) : ∀ t : Tr, t ∈ ts → Wit.allL q t
 | .leaf .., ht => h _ ht
 | .un _ _ _ _ a, ht => ⟨h _ ht, hc.allL h a (hc.mem ht a (by simp [kids]))⟩
 | .bin _ _ _ _ a b, ht => ⟨h _ ht, hc.allL h a (hc.mem ht a (by simp [kids])), hc.allL h b (hc.mem ht b (by simp [kids]))⟩
theorem mem_subT (t : Tr) : t ∈ subT t := (subT_ok t).mem
theorem allL_subT {q : Int → Int → Int → Prop} {t : Tr} : allL q t ↔ ∀ u ∈ subT t, lab q u :=
 ⟨fun h u hu => (visit_all (fun _ ht _ hc => ht.kid hc) t h (fun u hu => by cases hu) u hu).lab, fun h => (subT_ok t).clo.allL h t (mem_subT t)⟩
theorem lab_nodeOf {q : Int → Int → Int → Prop} {ts : List Tr} : ∀ {u : Tr}, lab q u ↔ q (nodeOf ts u).op (nodeOf ts u).i (nodeOf ts u).g
 | .leaf .. => Iff.rfl
 | .un .. => Iff.rfl
 | .bin .. => Iff.rfl
theorem allL_can {q : Int → Int → Int → Prop} {t : Tr} : allL q t ↔ ∀ n ∈ canT t, q n.op n.i n.g := by
 rw [allL_subT]
 show _ ↔ ∀ n ∈ nodesOf (subT t), _
 unfold nodesOf
 constructor
 ·intro h n hn
  obtain ⟨u, hu, rfl⟩ := List.mem_map.1 hn
  exact lab_nodeOf.1 (h u hu)
 ·intro h u hu
  exact lab_nodeOf.2 (h _ (List.mem_map_of_mem hu))
def orL (h : NV → Nat) (c : List NV) : Nat := c.foldl (fun a n => a ||| h n) 0
theorem orL_snoc {h : NV → Nat} {c : List NV} {n : NV} : orL h (c ++ [n]) = orL h c ||| h n := by simp [orL]
theorem orL_bit {h : NV → Nat} {j : Nat} {c : List NV} : (orL h c).testBit j = true ↔ ∃ n ∈ c, (h n).testBit j = true := by
 induction c using snoc_ind with
 | h0 => simp [orL]
 | h1 c n ih =>
  rw [orL_snoc, Nat.testBit_or, Bool.or_eq_true, ih]
  simp only [List.mem_append, List.mem_singleton]
  constructor
  ·rintro (⟨m, h1, h2⟩ | h1)
   ·exact ⟨m, .inl h1, h2⟩
   ·exact ⟨n, .inr rfl, h1⟩
  ·rintro ⟨m, h1 | rfl, h2⟩
   ·exact .inl ⟨m, h1, h2⟩
   ·exact .inr h2
def ftN (n : NV) : Nat := if n.op = 3 then 2 ^ n.i.toNat else 0
def agN (n : NV) : Nat := (if agO n.op = true then 2 ^ n.i.toNat else 0) ||| n.g.toNat
structure FldOk (op i e g : Int) : Prop where
  i0 : iO op = false → i = 0
  e0 : op ≠ 17 → e = 0
  g0 : grO op = false → g = 0
  fact : op = 3 → 0 ≤ i ∧ i < 8
  ag : agO op = true → 0 ≤ i ∧ i < 4
  act : op = 17 → (0 ≤ i ∧ i < 8) ∧ 0 ≤ e ∧ e < 8
  gr : grO op = true → 1 ≤ g ∧ g < 16
theorem fldOk_of {op i e g : Int} (h : fldE op i e g = 0) : FldOk op i e g := by
 unfold fldE at h
 split at h
 ·cases h
 ·rename_i h1
  split at h
  ·cases h
  ·rename_i h2
   simp only [Bool.or_eq_true, Bool.and_eq_true, Bool.not_eq_true', bne_iff_ne, ne_eq, beq_iff_eq, not_or, not_and, Bool.and_eq_false_iff, decide_eq_false_iff_not, Classical.not_not] at h1 h2
   obtain ⟨⟨a1, a2⟩, a3⟩ := h1
   obtain ⟨⟨⟨b1, b2⟩, b3⟩, b4⟩ := h2
   refine ⟨a1, a2, a3, fun e => ?_, fun e => ?_, fun e => ?_, fun e => ?_⟩
   ·have := b1 e; omega
   ·have := b2 e; omega
   ·have := b3 e; omega
   ·have := b4 e; omega
def okM (m k A : Nat) : Bool := (List.range k).all (fun i => gb m i != 1 || decide (i < A))
def fitB (f : List NV) (A B : Nat) : Bool := chkF f == 0 && (okM (orL agN (compF f)) 4 A && okM (orL ftN (compF f)) 8 B)
def FitL (A B : Nat) (op i g : Int) : Prop := (agO op = true → i.toNat < A) ∧ (op = 3 → i.toNat < B) ∧ g.toNat < 2 ^ A
theorem NodesOk.opm {f : List NV} (h : NodesOk f) : ∀ n ∈ f, 1 ≤ n.op ∧ n.op ≤ 21 := fun n hn => by
 obtain ⟨i, hi, rfl⟩ := List.mem_iff_getElem.1 hn
 exact (h i hi).op
/-! fragments -/
def andN (a b : Nat) : Nat := a &&& (511 ^^^ b)
theorem andN_zero {a b : Nat} (ha : a < 512) : andN a b = 0 ↔ ∀ i, a.testBit i = true → b.testBit i = true := by
 have h511 : ∀ i, (511 : Nat).testBit i = decide (i < 9) := fun i => by
  rw [show (511 : Nat) = 2 ^ 9 - 1 from rfl, Nat.testBit_two_pow_sub_one]
 constructor
 ·intro h i hi
  have h9 : i < 9 := by
   refine Classical.byContradiction (fun hc => ?_)
   rw [Nat.testBit_lt_two_pow (Nat.lt_of_lt_of_le ha (by show 2 ^ 9 ≤ 2 ^ i; exact Nat.pow_le_pow_right (by decide) (by omega)))] at hi
   cases hi
  have := congrArg (fun x => x.testBit i) h
  simp only [andN, Nat.testBit_and, Nat.testBit_xor, hi, h511, h9, decide_true, Nat.zero_testBit, Bool.true_and, Bool.true_bne] at this
  simpa using this
 ·intro h
  refine Nat.eq_of_testBit_eq (fun i => ?_)
  rw [andN, Nat.testBit_and, Nat.testBit_xor, h511, Nat.zero_testBit]
  cases e : a.testBit i with
  | false => rfl
  | true =>
   rw [h i e]
   have h9 : i < 9 := by
    refine Classical.byContradiction (fun hc => ?_)
    rw [Nat.testBit_lt_two_pow (Nat.lt_of_lt_of_le ha (by show 2 ^ 9 ≤ 2 ^ i; exact Nat.pow_le_pow_right (by decide) (by omega)))] at e
    cases e
   simp [h9]
theorem frN_lt (n : NV) : frN n < 512 := by
 have := frO_lt n.op
 have := frN_eq n
 omega
theorem frg_zero {c : List NV} {b : Nat} : andN (frgL c) b = 0 ↔ ∀ n ∈ c, andN (frN n) b = 0 := by
 rw [andN_zero (frgL_lt c)]
 constructor
 ·intro h n hn
  rw [andN_zero (frN_lt n)]
  exact fun i hi => h i (orL_bit.2 ⟨n, hn, hi⟩)
 ·intro h i hi
  obtain ⟨n, hn, hb⟩ := orL_bit.1 (show (orL frN c).testBit i = true from hi)
  exact (andN_zero (frN_lt n)).1 (h n hn) i hb
theorem op_cases {p : Int → Prop} (h : ∀ k : Nat, k < 21 → p ((k : Int) + 1)) {op : Int} (ho : 1 ≤ op ∧ op ≤ 21) : p op := by
 have := h (op.toNat - 1) (by omega)
 rw [show (((op.toNat - 1 : Nat) : Int) + 1) = op by omega] at this
 exact this
theorem frg_has {t : Tr} {b : Nat} {r : Int → Prop} (ht : t.ok) (hr : ∀ {op : Int}, (1 ≤ op ∧ op ≤ 21) → (andN (frO op).toNat b = 0 ↔ r op)) : andN (frgL (canT t)) b = 0 ↔ allL (fun op _ _ => r op) t := by
 rw [frg_zero, allL_can]
 have ho := (canT_nodes ht).opm
 exact ⟨fun h n hn => (hr (ho n hn)).1 (h n hn), fun h n hn => (hr (ho n hn)).2 (h n hn)⟩
theorem bAndNotI {P : Program} {t : TypeId} {a b : Nat} (ha : a < 512) (hb : b < 512) : Bin P .andNot t (.int .i64 a) (.int .i64 b) (.int .i64 (andN a b)) := by
 refine bI _ ?_
 have h1 : (BitVec.ofInt 64 (a : Int)).toNat = a := by
  rw [BitVec.ofInt_natCast, BitVec.toNat_ofNat]; exact Nat.mod_eq_of_lt (by omega)
 have h2 : BitVec.ofInt 64 (b : Int) = BitVec.ofNat 64 b := BitVec.ofInt_natCast ..
 have h0 : BitVec.ofInt 64 (a : Int) = BitVec.ofNat 64 a := BitVec.ofInt_natCast ..
 have hx : andN a b < 2 ^ 9 := Nat.and_lt_two_pow _ (by show 511 ^^^ b < 2 ^ 9; exact Nat.xor_lt_two_pow (by decide) (by omega))
 have key : (BitVec.ofInt 64 (a : Int) &&& ~~~ BitVec.ofInt 64 (b : Int)) = BitVec.ofNat 64 (andN a b) := by
  rw [h0, h2]
  apply BitVec.eq_of_getLsbD_eq
  intro i hi
  rw [BitVec.getLsbD_and, BitVec.getLsbD_not, BitVec.getLsbD_ofNat, BitVec.getLsbD_ofNat, BitVec.getLsbD_ofNat, andN, Nat.testBit_and, Nat.testBit_xor, show (511 : Nat) = 2 ^ 9 - 1 from rfl, Nat.testBit_two_pow_sub_one]
  have e9 : ¬ i < 9 → a.testBit i = false := fun hc => Nat.testBit_lt_two_pow (Nat.lt_of_lt_of_le ha (by show 2 ^ 9 ≤ 2 ^ i; exact Nat.pow_le_pow_right (by decide) (by omega)))
  by_cases h9 : i < 9
  ·simp [hi, h9]
  ·simp [hi, e9 h9]
 show (binOp .andNot t (.int .i64 a) (.int .i64 b)) = _
 show (pure (Value.int .i64 (IntKind.i64.wrap ((BitVec.ofInt 64 (a : Int) &&& ~~~ BitVec.ofInt 64 (b : Int)).toNat : Int))) : Sem Value) = _
 rw [key, BitVec.toNat_ofNat, Nat.mod_eq_of_lt (by omega), IntWalk.i64_in _ (by omega)]
theorem bAndI {P : Program} {t : TypeId} {a b : Nat} (ha : a < 512) (hb : b < 512) : Bin P .and t (.int .i64 a) (.int .i64 b) (.int .i64 (a &&& b : Nat)) := by
 refine bI _ ?_
 have hx : a &&& b < 2 ^ 9 := Nat.and_lt_two_pow _ (by omega)
 have h1 : (BitVec.ofInt 64 (a : Int)).toNat = a := by
  rw [BitVec.ofInt_natCast, BitVec.toNat_ofNat]; exact Nat.mod_eq_of_lt (by omega)
 have h2 : (BitVec.ofInt 64 (b : Int)).toNat = b := by
  rw [BitVec.ofInt_natCast, BitVec.toNat_ofNat]; exact Nat.mod_eq_of_lt (by omega)
 show (pure (Value.int .i64 (IntKind.i64.wrap ((BitVec.ofInt 64 (a : Int) &&& BitVec.ofInt 64 (b : Int)).toNat : Int))) : Sem Value) = _
 rw [BitVec.toNat_and, h1, h2, IntWalk.i64_in _ (by omega)]
/-! what Holds says of a model and a formula -/
def holdE (n : Int) (val : List W64) (rel : List (List W64)) (f : List NV) : Int :=
 if checkM n val rel ≠ 0 then checkM n val rel else if chkF f ≠ 0 then chkF f else if andN (frgL (compF f)) 15 ≠ 0 then 10 else if fitB f rel.length val.length = false then 2 else 0
def StatL (A B : Nat) (op i g : Int) : Prop := op ≤ 13 ∧ FitL A B op i g
end Go.Proofs.Wit
namespace Go.Proofs.Wit
/-! a canonical list's sets -/
structure NdFit (A B : Nat) (nd : NV) : Prop where
  op1 : 1 ≤ nd.op
  op13 : nd.op ≤ 13
  fact : nd.op = 3 → 0 ≤ nd.i ∧ nd.i.toNat < B
  ag : nd.op = 9 ∨ nd.op = 10 → 0 ≤ nd.i ∧ nd.i.toNat < A
  gr : 11 ≤ nd.op → 1 ≤ nd.g ∧ nd.g.toNat < 2 ^ A
structure CanF (g : List NV) : Prop where
  chk : chkF g = 0
  can : g = canT (topT g)
theorem CanF.comp {g : List NV} (h : CanF g) : compF g = g := by rw [compF_eq h.chk]; exact h.can.symm
theorem CanF.ok {g : List NV} (h : CanF g) : (topT g).ok := (chkF_zero.1 h.chk).top
theorem CanF.of {t : Tr} (h : t.ok) (hl : (canT t).length ≤ 200) : CanF (canT t) := ⟨(bT_chk h hl).2.1, by rw [(bT_chk h hl).2.2]⟩
theorem CanF.compF {f : List NV} (h : chkF f = 0) : CanF (compF f) := by
 have hl := compF_len h
 have hl2 := (chkF_zero.1 h).len
 rw [compF_eq h] at hl ⊢
 exact .of (chkF_zero.1 h).top (by omega)
theorem topT_comp {f : List NV} (h : chkF f = 0) : topT (compF f) = topT f := by
 rw [compF_eq h]; exact topT_canT (chkF_zero.1 h).top.wf
theorem CanF.len {g : List NV} (h : CanF g) : g.length ≤ 200 := (chkF_zero.1 h.chk).len
theorem CanF.nodes {g : List NV} (h : CanF g) : NodesOk g := (chkF_zero.1 h.chk).nodes
theorem CanF.trees {g : List NV} (h : CanF g) : Wit.trees g = subT (topT g) := by
 have := h.can
 rw [this]
 conv => rhs; rw [← this]
 exact trees_canT h.ok.wf
theorem CanF.sub {g : List NV} (h : CanF g) {k : Nat} (hk : k < g.length) : CanF (subF g k) ∧ topT (subF g k) = treeAt g k := by
 have hok : (treeAt g k).ok := h.nodes.tree k hk
 have hl := canon_len h.nodes.ord hk
 have hl2 := h.len
 have e : subF g k = canT (treeAt g k) := by
  rw [subF, if_neg (by simp only [h.chk, ne_eq, not_true_eq_false, false_or]; omega), Int.toNat_natCast]
 rw [e]
 exact ⟨.of hok (by omega), topT_canT hok.wf⟩
end Go.Proofs.Wit
namespace Go.Proofs.Wit
open Go Go.RowKit
/-! formulas that are built of others: too long ones are no list -/
theorem subT_kid {c t : Tr} (h : c ∈ kids t) : subT c ⊆ subT t :=
 visit_sub c (ts := []) (subT_ok t).clo ((subT_ok t).clo.mem (mem_subT t) c h) (List.nil_subset _)
theorem canT_kid {c t : Tr} (h : c ∈ kids t) : (canT c).length ≤ (canT t).length := by
 rw [canT_len, canT_len]
 exact (subT_ok c).nd.length_le_of_subset (subT_kid h)
theorem bT_long {t : Tr} (h : 200 < (canT t).length) : bT t = [] := if_pos h
theorem bT_ok {t : Tr} (h : ¬ 200 < (canT t).length) : bT t = canT t := if_neg h
theorem bT_le (t : Tr) : (bT t).length ≤ 200 := by
 unfold bT; split
 ·simp
 ·omega
theorem bT_nil {t : Tr} : bT t = [] ↔ 200 < (canT t).length := by
 constructor
 ·intro h
  refine Classical.byContradiction (fun hn => ?_)
  rw [bT_ok hn] at h
  have := canT_pos t
  rw [h] at this; exact absurd this (by simp)
 ·exact bT_long
theorem bldF_bad {n : NV} {gs : List (List NV)} (h : ∃ g ∈ gs, chkF g ≠ 0) : bldF n gs = [] := if_pos h
theorem bldF_le (n : NV) (gs : List (List NV)) : (bldF n gs).length ≤ 200 := by
 unfold bldF
 repeat' split
 ·simp
 ·simp
 ·simp
 ·omega
theorem bld_un {op i e g : Int} {a : Tr} (ha : a.ok) (hop : 1 ≤ op ∧ op ≤ 21) (hX : usX op = true) (hY : usY op = false) (hf : fldE op i e g = 0) : bldF ⟨op, i, e, g, 0, 0⟩ [bT a] = bT (.un op i e g a) := by
 by_cases hl : 200 < (canT a).length
 ·rw [bT_long hl, bldF_bad ⟨[], by simp, by decide⟩, bT_long (Nat.lt_of_lt_of_le hl (canT_kid (by simp [kids])))]
 ·obtain ⟨h1, h2, h3⟩ := bT_chk ha (by omega)
  rw [h1, bld1 h2 hop hX hY hf rfl, h3]
theorem bld_bin {op i e g : Int} {a b : Tr} (ha : a.ok) (hb : b.ok) (hop : 1 ≤ op ∧ op ≤ 21) (hY : usY op = true) (hf : fldE op i e g = 0) : bldF ⟨op, i, e, g, 0, 0⟩ [bT a, bT b] = bT (.bin op i e g a b) := by
 by_cases hl : 200 < (canT a).length
 ·rw [bT_long hl, bldF_bad ⟨[], by simp, by decide⟩, bT_long (Nat.lt_of_lt_of_le hl (canT_kid (by simp [kids])))]
 ·by_cases hl2 : 200 < (canT b).length
  ·rw [bT_long hl2, bldF_bad ⟨[], by simp, by decide⟩, bT_long (Nat.lt_of_lt_of_le hl2 (canT_kid (by simp [kids])))]
  ·obtain ⟨h1, h2, h3⟩ := bT_chk ha (by omega)
   obtain ⟨k1, k2, k3⟩ := bT_chk hb (by omega)
   rw [h1, k1, bld2 h2 k2 hop hY hf, h3, k3]
theorem compF_bT {t : Tr} (h : t.ok) : compF (bT t) = bT t := by
 by_cases hl : 200 < (canT t).length
 ·rw [bT_long hl]; exact if_pos (by decide)
 ·obtain ⟨h1, h2, h3⟩ := bT_chk h (by omega)
  rw [h1, compF_eq h2, h3]
/-! conjunctions -/
def andB (a b : List NV) : List NV := bldF ⟨5, 0, 0, 0, 0, 0⟩ [a, b]
def bldAll : List (List NV) → List NV
 | [] => bldF ⟨1, 0, 0, 0, 0, 0⟩ []
 | g :: gs => gs.foldl andB (compF g)
def conjT : List Tr → Tr
 | [] => .leaf 1 0 0 0
 | t :: ts => ts.foldl (fun a b => .bin 5 0 0 0 a b) t
theorem and_ok {a b : Tr} (ha : a.ok) (hb : b.ok) : (Tr.bin 5 0 0 0 a b).ok := ⟨by omega, rfl, rfl, ha, hb⟩
theorem foldl_bT : ∀ {ts : List Tr} {t : Tr}, t.ok → (∀ u ∈ ts, u.ok) → (ts.map bT).foldl andB (bT t) = bT (ts.foldl (fun a b => .bin 5 0 0 0 a b) t)
 | [], _, _, _ => rfl
 | u :: us, t, h, hs => by
  rw [List.map_cons, List.foldl_cons, List.foldl_cons, andB, bld_bin h (hs u (by simp)) (by omega) rfl rfl]
  exact foldl_bT (and_ok h (hs u (by simp))) (fun v hv => hs v (by simp [hv]))
theorem bldAll_bT : ∀ {ts : List Tr}, (∀ u ∈ ts, u.ok) → bldAll (ts.map bT) = bT (conjT ts)
 | [], _ => bld0 (n := ⟨1, 0, 0, 0, 0, 0⟩) (by decide) rfl rfl rfl rfl
 | t :: ts, h => by
  rw [List.map_cons, bldAll, compF_bT (h t (by simp))]
  exact foldl_bT (h t (by simp)) (fun u hu => h u (by simp [hu]))
/-! x[lo:] of a slice -/
def aSl (a : Option Addr) (cap lo sz : Nat) : Option Addr := if cap = lo then a else a.map (·.add (lo * sz))
theorem Sl.drop {w : World} {a : Option Addr} {xs : List Value} (h : Sl w a xs) {cap lo : Nat} (hc : xs.length ≤ cap) : Sl w (aSl a cap lo 1) (xs.drop lo) := by
 by_cases hl : xs.length ≤ lo
 ·rw [List.drop_eq_nil_of_le hl]; exact Sl.nil _ _
 ·obtain ⟨b, o, rfl, hb⟩ := h.isSome (by omega)
  have e0 : aSl (some ⟨b, o, none⟩) cap lo 1 = some ⟨b, o + lo, none⟩ := by
   rw [aSl, if_neg (by omega), Option.map_some, Addr.add, Nat.mul_one]
   split
   ·rename_i hz; subst hz; rfl
   ·rfl
  rw [e0]
  refine ⟨fun _ => ⟨b, o + lo, rfl, hb⟩, fun i hi => ?_⟩
  rw [List.length_drop] at hi
  have := h.cell (lo + i) (by omega)
  have e1 : adr (some ⟨b, o + lo, none⟩) i = adr (some ⟨b, o, none⟩) (lo + i) := by
   simp only [adr, Option.getD_some, Nat.add_assoc]
  rw [e1, this]
  simp [List.getD_eq_getElem?_getD, List.getElem?_drop]
section
variable {P : Program} {w0 : World} {S : List Nat} {n : Nat} {l : Fl} {h : Hl} {ops : Array Oper} {i d : Nat} {ty : TypeId} {pos : String} {aft : Array Edge} {g : Option (Nat × Bool)}
theorem Vop.slLo {t e : TypeId} {x y : Operand} {a : Option Addr} {m cap lo : Nat} {kd : IntKind} {j : Int} {sz : Nat} (ho : ops[i]? = some ⟨some d, .slice t x (some y) none none, ty, pos, aft, g⟩) (hw : wantL ops l g = true)
  (hx : opd l x = some (.slice a m cap)) (hy : opd l y = some (.int kd j)) (hd : Nat.blt d n = true) (hu : P.underlying t = some (.slice e)) (he : ∀ w, (sizeOf e).run P w = .ok sz w) (hj : j = lo) (hc : lo ≤ m) :
  Vop P w0 S n h ops i l d (.slice (aSl a cap lo sz) (m - lo) (cap - lo)) :=
 .of ho hw rfl rfl hd (fun t w Ds _ hF hS => ⟨.value (.slice (aSl a cap lo sz) (m - lo) (cap - lo)), by
  subst hj
  simp only [execOp, hF.opd hx, hF.opd hy, Option.map_some, Option.map_none, Instr.sliceAt, Sem.run_bind, run_underlying hu, Result.andThen_ok, Instr.slice, Instr.sliceBounds, Instr.sliceBound, asIntOf, Sem.run_pure]
  rw [if_pos ⟨by omega, by omega⟩]
  simp only [Sem.run_pure, Result.andThen_ok, he, Int.toNat_natCast]
  rfl, rfl⟩)
end
end Go.Proofs.Wit
