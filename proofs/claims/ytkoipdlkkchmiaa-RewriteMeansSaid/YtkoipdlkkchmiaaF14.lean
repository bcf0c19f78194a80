/- Laws of walks, for any program, under the conditions that each theorem states. -/
import Derived.Test.YtkoipdlkkchmiaaF12
import Derived.Test.YtkoipdlkkchmiaaF02
import Derived.Test.YtkoipdlkkchmiaaF05
namespace Go.Proofs.Wit
open Go Go.RowKit
/-! the fragments of a formula; defects and their axioms -/
theorem bOrI {P : Program} {t : TypeId} {a b c : Nat} (ha : a < 512) (hb : b < 512) (hc : c = a ||| b) : Bin P .or t (.int .i64 a) (.int .i64 b) (.int .i64 c) := by
  subst hc
  refine bI _ ?_
  have hx : a ||| b < 2 ^ 9 := Nat.or_lt_two_pow (by omega) (by omega)
  have h1 : (BitVec.ofInt 64 (a : Int)).toNat = a := by
    rw [BitVec.ofInt_natCast, BitVec.toNat_ofNat]; exact Nat.mod_eq_of_lt (by omega)
  have h2 : (BitVec.ofInt 64 (b : Int)).toNat = b := by
    rw [BitVec.ofInt_natCast, BitVec.toNat_ofNat]; exact Nat.mod_eq_of_lt (by omega)
  rw [binOp_or]
  show (pure (Value.int .i64 (IntKind.i64.wrap ((BitVec.ofInt 64 (a : Int) ||| BitVec.ofInt 64 (b : Int)).toNat : Int))) : Sem Value) = _
  rw [BitVec.toNat_or, h1, h2, IntWalk.i64_in _ (by omega)]
def frN (n : NV) : Nat := (frO n.op).toNat
theorem frO_lt (op : Int) : 0 ≤ frO op ∧ frO op < 512 := by
  unfold frO
  repeat' split
  all_goals omega
theorem frN_eq (n : NV) : (frN n : Int) = frO n.op := by
  have := frO_lt n.op
  unfold frN; omega
def frgL (c : List NV) : Nat := c.foldl (fun a n => a ||| frN n) 0
theorem frgL_snoc {c : List NV} {n : NV} : frgL (c ++ [n]) = frgL c ||| frN n := by simp [frgL]
theorem frgL_lt (c : List NV) : frgL c < 512 := by
  induction c using snoc_ind with
  | h0 => decide
  | h1 c n ih =>
    rw [frgL_snoc]
    have h2 : frN n < 2 ^ 9 := by have := frO_lt n.op; unfold frN; omega
    exact Nat.or_lt_two_pow (n := 9) ih h2
theorem compF_le (f : List NV) : (compF f).length ≤ 200 := by
  by_cases h : chkF f = 0
  · exact (compF_ok h).len
  · rw [compF, if_pos h]; exact Nat.zero_le _
end Go.Proofs.Wit
namespace Go.Proofs.Wit
open Go Go.RowKit
section
variable {P : Program} {r : Option Nat} {f : FuncId} {R : Value → World → Prop} {w0 : World} {S : List Nat} {Y : List (Nat × Obj)} {n : Nat} {k : List Item} {l : Fl} {h : Hl}
variable {ops : Array Oper} {i d : Nat} {rest : List Nat} {ty : TypeId} {pos : String} {aft : Array Edge} {g : Option (Nat × Bool)} {t : TypeId}
end
structure Nums (ks : Nat → List UInt8) (n : Nat) (L : List (List UInt8 × Nat)) (l : List Int) (k : Nat) : Prop where
  len : l.length = n
  le : k ≤ n
  lt : ∀ x v, mget (fun a b => a == b) L x = some v → v < L.length
  inj : ∀ x y v, mget (fun a b => a == b) L x = some v → mget (fun a b => a == b) L y = some v → x = y
  at_ : ∀ i, i < k → ∃ v : Nat, l.getD i 0 = v ∧ mget (fun a b => a == b) L (ks i) = some v
end Go.Proofs.Wit
namespace Go.Proofs.Wit
open Go Go.RowKit
/-! small whole numbers: or, shifts -/
section
variable {P : Program} {t : TypeId}
theorem ofInt_nat (x : Nat) : BitVec.ofInt 64 (x : Int) = BitVec.ofNat 64 x := by
  apply BitVec.eq_of_toNat_eq; simp
theorem bShlN {x j : Nat} {b : Int} {k : IntKind} (h : b = j) (hx : x * 2 ^ j < 9223372036854775808) (hj : j ≤ 64) : Bin P .shl t (.int .i64 x) (.int k b) (.int .i64 ((x * 2 ^ j : Nat) : Int)) := by
  subst h
  refine bin_pure (fun p q => eqg_int _ _ _ _ _ _ _ _) ?_
  show Op.shift .shl .i64 (x : Int) k (j : Int) = _
  unfold Op.shift
  rw [if_neg (by omega), Int.toNat_natCast]
  show pure (Value.int .i64 (IntKind.i64.wrap ((x : Int) * 2 ^ (min j 64)))) = _
  rw [Nat.min_eq_left hj]
  have e1 : ((x : Int) * 2 ^ j) = ((x * 2 ^ j : Nat) : Int) := by norm_cast
  rw [e1, IntWalk.i64_in _ (by omega)]
end
end Go.Proofs.Wit
namespace Go.Proofs.Wit
/-! bisimulations between two models -/
def forB (r s z : List W64) (v w : Nat) : Bool := (pts (r.getD v 0#64)).all (fun x => z.getD x 0#64 &&& s.getD w 0#64 != 0#64) && (s.getD w 0#64 &&& ~~~ mapR z (r.getD v 0#64) == 0#64)
def matB (va vb : List W64) (ra rb : List (List W64)) (z : List W64) (v w : Nat) : Bool := (fm va v == fm vb w) && (List.range ra.length).all (fun i => forB (ra.getD i []) (rb.getD i []) z v w)
def LeZ (l c : List W64) : Prop := ∀ u v, Rl l u v → Rl c u v
section
variable {va vb : List W64} {ra rb : List (List W64)}
def SimB (va vb : List W64) (ra rb : List (List W64)) (z : List W64) : Prop := ∀ v w, Rl z v w → matB va vb ra rb z v w = true
structure InvZ (va vb : List W64) (ra rb : List (List W64)) (na nb : Nat) (z : List W64) : Prop where
  len : z.length = na
  rng : ∀ v w, Rl z v w → w < nb
  top : ∀ z' : List W64, z'.length = na → (∀ v w, Rl z' v w → w < nb) → SimB va vb ra rb z' → LeZ z' z
end
/-- a measure -/
def sumZ (z : List W64) : Nat := (z.map BitVec.toNat).sum
/-- one turn of the outer loop: rows before k are done -/
structure TurnZ (va vb : List W64) (ra rb : List (List W64)) (na nb : Nat) (z0 z : List W64) (ch : Bool) (k : Nat) : Prop where
  inv : InvZ va vb ra rb na nb z
  le : sumZ z ≤ sumZ z0
  chg : ch = true → sumZ z < sumZ z0
  same : ch = false → ∀ v w, v < k → Rl z v w → matB va vb ra rb z v w = true
/-- in row k, with the members s of the row at its start, the first i of which are done -/
structure RowZ (va vb : List W64) (ra rb : List (List W64)) (na nb : Nat) (z0 : List W64) (k : Nat) (s : W64) (i : Nat) (z : List W64) (ch : Bool) : Prop where
  turn : TurnZ va vb ra rb na nb z0 z ch k
  row : ∀ w, Rl z k w → s.getLsbD w = true
  left : ∀ w ∈ (pts s).drop i, Rl z k w
  done : ch = false → ∀ w ∈ (pts s).take i, matB va vb ra rb z k w = true
section
variable {va vb : List W64} {ra rb : List (List W64)} {na nb k i : Nat} {z0 z : List W64} {s : W64} {ch : Bool}
end
end Go.Proofs.Wit
namespace Go.Proofs.Wit
open Go Go.RowKit
/-! for the reference of chapter 19 -/
section
variable {P : Program} {t : TypeId}
end
section
variable {κ : Type} [DecidableEq κ]
/-- going down from i: low is the lowest point above j with the key of i -/
structure Down (key : Nat → κ) (i : Nat) (j : Int) (low : Nat) : Prop where
  lo : j < low
  hi : low ≤ i
  eq : key low = key i
  min : ∀ m : Nat, j < m → m ≤ i → key m = key i → low ≤ m
omit [DecidableEq κ] in
end
/-- row k, worlds before j are done -/
structure RowR (va vb : List W64) (ra rb : List (List W64)) (na nb : Nat) (z0 : List W64) (k j : Nat) (z : List W64) (ch : Bool) : Prop where
  turn : TurnZ va vb ra rb na nb z0 z ch k
  done : ch = false → ∀ w, w < j → Rl z k w → matB va vb ra rb z k w = true
section
variable {va vb : List W64} {ra rb : List (List W64)} {na nb k j : Nat} {z0 z : List W64} {ch : Bool}
end
end Go.Proofs.Wit
namespace Go.Proofs.Wit
open Go Go.RowKit
/-! groups: the meet of the relations of a group -/
section
variable {P : Program} {t : TypeId}
theorem bShrN {x j : Nat} {b : Int} {k : IntKind} (h : b = j) (_hx : x < 9223372036854775808) (hj : j ≤ 64) : Bin P .shr t (.int .i64 x) (.int k b) (.int .i64 ((x / 2 ^ j : Nat) : Int)) := by
  subst h
  refine bin_pure (fun p q => eqg_int _ _ _ _ _ _ _ _) ?_
  show Op.shift .shr .i64 (x : Int) k (j : Int) = _
  unfold Op.shift
  rw [if_neg (by omega), Int.toNat_natCast]
  show pure (Value.int .i64 ((x : Int).fdiv (2 ^ (min j 64)))) = _
  rw [Nat.min_eq_left hj]
  have e1 : ((2 : Int) ^ j) = ((2 ^ j : Nat) : Int) := by norm_cast
  rw [e1, ← Int.ofNat_fdiv]
theorem bAnd1N {x : Nat} (hx : x < 9223372036854775808) : Bin P .and t (.int .i64 x) (.int .i64 1) (.int .i64 ((x % 2 : Nat) : Int)) := bI _ (by
  show Op.intBits .and .i64 (x : Int) 1 = _
  unfold Op.intBits
  have e1 : (BitVec.ofInt 64 (x : Int) &&& BitVec.ofInt 64 1).toNat = x % 2 := by
    rw [ofInt_nat, show BitVec.ofInt 64 1 = BitVec.ofNat 64 1 from rfl, BitVec.toNat_and, BitVec.toNat_ofNat, BitVec.toNat_ofNat, Nat.mod_eq_of_lt (by omega), Nat.mod_eq_of_lt (by omega), Nat.and_one_is_mod]
  show pure (Value.int .i64 (IntKind.i64.wrap ((BitVec.ofInt 64 (x : Int) &&& BitVec.ofInt 64 1).toNat : Int))) = _
  rw [e1, IntWalk.i64_in _ (by omega)])
theorem bRem2N {x : Nat} : Bin P .rem t (.int .i64 x) (.int .i64 2) (.int .i64 ((x % 2 : Nat) : Int)) := bI _ (by
  show Op.intDiv .rem .i64 (x : Int) 2 = _
  unfold Op.intDiv
  rw [if_neg (by decide)]
  rfl)
end
def gb (g k : Nat) : Nat := g / 2 ^ k % 2
def meetW (n : Nat) (rel : List (List W64)) (g w : Nat) (k : Nat) : W64 := upTo (fun a (o : W64) => if gb g a = 1 then o &&& (rel.getD a []).getD w 0#64 else o) (allW n) k
def meetTo (n : Nat) (rel : List (List W64)) (g k : Nat) : List W64 := (List.range n).map (fun w => meetW n rel g w k)
def meetL (n : Nat) (rel : List (List W64)) (g : Nat) : List W64 := meetTo n rel g rel.length
section
variable {n : Nat} {rel : List (List W64)} {g k w : Nat}
end
section
variable {P : Program} {r : Option Nat} {f : FuncId} {R : Value → World → Prop} {w0 : World} {S : List Nat} {Y : List (Nat × Obj)} {n : Nat} {k : List Item} {l : Fl} {h : Hl}
variable {ops : Array Oper} {i d : Nat} {rest : List Nat} {ty : TypeId} {pos : String} {aft : Array Edge} {g : Option (Nat × Bool)}
end
end Go.Proofs.Wit
namespace Go.Proofs.Wit
open Go
/-- the worlds w below n with q -/
def selW (q : Nat → Bool) (n : Nat) : W64 := upTo (fun w (o : W64) => if q w = true then o ||| 1#64 <<< w else o) 0#64 n
def boxW (r : List W64) (n : Nat) (s : W64) : W64 := selW (fun w => r.getD w 0#64 &&& ~~~s == 0#64) n
/-- one turn of a search along r within c -/
def pstep (r : List W64) (c : W64) (n : Nat) (s : W64) : W64 := upTo (fun w (o : W64) => if o.getLsbD w = true then o ||| (r.getD w 0#64 &&& c) else o) s n
def pathTo (r : List W64) (n v : Nat) (c : W64) (k : Nat) : W64 := upTo (fun _ (o : W64) => pstep r c n o) (r.getD v 0#64 &&& c) k
def pathW (r : List W64) (n v : Nat) (c : W64) : W64 := pathTo r n v c n
def comW (r : List W64) (n : Nat) (c s : W64) : W64 := selW (fun w => pathW r n w c &&& ~~~s == 0#64) n
/-- there is a path -/
inductive RchC (r : List W64) (c : W64) (v : Nat) : Nat → Prop where
  | one {u : Nat} (h : Rl r v u) (hc : c.getLsbD u = true) : RchC r c v u
  | step {u x : Nat} (h : RchC r c v u) (h2 : Rl r u x) (hc : c.getLsbD x = true) : RchC r c v x
/-- the union of the relations of a group -/
def joinW (rel : List (List W64)) (g w : Nat) (k : Nat) : W64 := upTo (fun a (o : W64) => if gb g a = 1 then o ||| (rel.getD a []).getD w 0#64 else o) 0#64 k
def joinTo (n : Nat) (rel : List (List W64)) (g k : Nat) : List W64 := (List.range n).map (fun w => joinW rel g w k)
def joinL (n : Nat) (rel : List (List W64)) (g : Nat) : List W64 := joinTo n rel g rel.length
/-- truth by trees -/
def boolW (op : Int) (x y all : W64) : W64 := if op = 1 then all else if op = 4 then all &&& ~~~x else if op = 5 then x &&& y else if op = 6 then x ||| y else if op = 7 then (all &&& ~~~x) ||| y else if op = 8 then all &&& ~~~(x ^^^ y) else 0#64
def oneW (n : Nat) (val : List W64) (rel : List (List W64)) (op i g : Int) (x y : W64) : W64 :=
  if op = 3 then val.getD i.toNat 0#64 else if op ≤ 8 then boolW op x y (allW n)
  else if op = 9 then boxW (rel.getD i.toNat []) n x else if op = 10 then allW n &&& ~~~boxW (rel.getD i.toNat []) n (allW n &&& ~~~x)
  else if op = 11 then boxW (joinL n rel g.toNat) n x else if op = 12 then boxW (meetL n rel g.toNat) n x else comW (joinL n rel g.toNat) n x y
def semT (n : Nat) (val : List W64) (rel : List (List W64)) : Tr → W64
  | .leaf op i _ g => oneW n val rel op i g 0#64 0#64
  | .un op i _ g a => oneW n val rel op i g (semT n val rel a) 0#64
  | .bin op i _ g a b => oneW n val rel op i g (semT n val rel a) (semT n val rel b)
end Go.Proofs.Wit
namespace Go.Proofs.Wit
open Go
/-! worlds that are together agree -/
abbrev PEq (p : List Int) (v w : Nat) : Prop := p.getD v 0 = p.getD w 0
def IvX (n : Nat) (p : List Int) (s : W64) : Prop := ∀ v w, v < n → w < n → PEq p v w → s.getLsbD v = true → s.getLsbD w = true
section
variable {n : Nat} {p p' : List Int} {s t c : W64} {R : List W64}
end
section
variable {n : Nat} {val : List W64} {rels : List (List W64)}
end
/-- a property of all labels -/
def allL (q : Int → Int → Int → Prop) : Tr → Prop
  | .leaf op i _ g => q op i g
  | .un op i _ g a => q op i g ∧ allL q a
  | .bin op i _ g a b => q op i g ∧ allL q a ∧ allL q b
/-- the modal depth -/
def mdO (op : Int) : Nat := if 9 ≤ op ∧ op ≤ 15 ∨ 18 ≤ op then 1 else 0
def depT : Tr → Nat
  | .leaf op _ _ _ => mdO op
  | .un op _ _ _ a => depT a + mdO op
  | .bin op _ _ _ a b => max (depT a) (depT b) + mdO op
end Go.Proofs.Wit
namespace Go.Proofs.Wit
open Go
/-! labels, masks, and which formulas fit a model -/
def lab (q : Int → Int → Int → Prop) : Tr → Prop
  | .leaf op i _ g => q op i g
  | .un op i _ g _ => q op i g
  | .bin op i _ g _ _ => q op i g
theorem allL.lab {q : Int → Int → Int → Prop} : ∀ {t : Tr}, allL q t → Wit.lab q t
  | .leaf .., h => h
  | .un .., h => h.1
  | .bin .., h => h.1
theorem allL.kid {q : Int → Int → Int → Prop} : ∀ {t c : Tr}, allL q t → c ∈ kids t → allL q c
  | .leaf .., _, _, hc => by cases hc
  | .un .., _, h, hc => by rw [List.mem_singleton.1 hc]; exact h.2
  | .bin .., _, h, hc => by
    simp only [kids, List.mem_cons, List.not_mem_nil, or_false] at hc
    rcases hc with rfl | rfl
    · exact h.2.1
    · exact h.2.2
theorem Clo.allL {q : Int → Int → Int → Prop} {ts : List Tr} (hc : Clo ts) (h : ∀ u ∈ ts, Wit.lab q u) : ∀ t : Tr, t ∈ ts → Wit.allL q t
  | .leaf .., ht => h _ ht
  | .un _ _ _ _ a, ht => ⟨h _ ht, hc.allL h a (hc.mem ht a (by simp [kids]))⟩
  | .bin _ _ _ _ a b, ht => ⟨h _ ht, hc.allL h a (hc.mem ht a (by simp [kids])), hc.allL h b (hc.mem ht b (by simp [kids]))⟩
theorem mem_subT (t : Tr) : t ∈ subT t := (subT_ok t).mem
theorem allL_subT {q : Int → Int → Int → Prop} {t : Tr} : allL q t ↔ ∀ u ∈ subT t, lab q u :=
  ⟨fun h u hu => (visit_all (fun _ ht _ hc => ht.kid hc) t h (fun u hu => by cases hu) u hu).lab, fun h => (subT_ok t).clo.allL h t (mem_subT t)⟩
theorem lab_nodeOf {q : Int → Int → Int → Prop} {ts : List Tr} : ∀ {u : Tr}, lab q u ↔ q (nodeOf ts u).op (nodeOf ts u).i (nodeOf ts u).g
  | .leaf .. => Iff.rfl
  | .un .. => Iff.rfl
  | .bin .. => Iff.rfl
theorem allL_can {q : Int → Int → Int → Prop} {t : Tr} : allL q t ↔ ∀ n ∈ canT t, q n.op n.i n.g := by
  rw [allL_subT]
  show _ ↔ ∀ n ∈ nodesOf (subT t), _
  unfold nodesOf
  constructor
  · intro h n hn
    obtain ⟨u, hu, rfl⟩ := List.mem_map.1 hn
    exact lab_nodeOf.1 (h u hu)
  · intro h u hu
    exact lab_nodeOf.2 (h _ (List.mem_map_of_mem hu))
def orL (h : NV → Nat) (c : List NV) : Nat := c.foldl (fun a n => a ||| h n) 0
theorem orL_snoc {h : NV → Nat} {c : List NV} {n : NV} : orL h (c ++ [n]) = orL h c ||| h n := by simp [orL]
theorem orL_take {h : NV → Nat} {c : List NV} {k : Nat} (hk : k < c.length) : orL h (c.take (k + 1)) = orL h (c.take k) ||| h c[k] := by rw [List.take_succ_eq_append_getElem hk, orL_snoc]
theorem orL_lt {h : NV → Nat} {k : Nat} {c : List NV} : (∀ n ∈ c, h n < 2 ^ k) → orL h c < 2 ^ k := by
  induction c using snoc_ind with
  | h0 => intro _; exact Nat.two_pow_pos k
  | h1 c n ih => intro hb; rw [orL_snoc]; exact Nat.or_lt_two_pow (ih (fun m hm => hb m (by simp [hm]))) (hb n (by simp))
theorem orL_bit {h : NV → Nat} {j : Nat} {c : List NV} : (orL h c).testBit j = true ↔ ∃ n ∈ c, (h n).testBit j = true := by
  induction c using snoc_ind with
  | h0 => simp [orL]
  | h1 c n ih =>
    rw [orL_snoc, Nat.testBit_or, Bool.or_eq_true, ih]
    simp only [List.mem_append, List.mem_singleton]
    constructor
    · rintro (⟨m, h1, h2⟩ | h1)
      · exact ⟨m, .inl h1, h2⟩
      · exact ⟨n, .inr rfl, h1⟩
    · rintro ⟨m, h1 | rfl, h2⟩
      · exact .inl ⟨m, h1, h2⟩
      · exact .inr h2
def ftN (n : NV) : Nat := if n.op = 3 then 2 ^ n.i.toNat else 0
def agN (n : NV) : Nat := (if agO n.op = true then 2 ^ n.i.toNat else 0) ||| n.g.toNat
structure FldOk (op i e g : Int) : Prop where
  i0 : iO op = false → i = 0
  e0 : op ≠ 17 → e = 0
  g0 : grO op = false → g = 0
  fact : op = 3 → 0 ≤ i ∧ i < 8
  ag : agO op = true → 0 ≤ i ∧ i < 4
  act : op = 17 → (0 ≤ i ∧ i < 8) ∧ 0 ≤ e ∧ e < 8
  gr : grO op = true → 1 ≤ g ∧ g < 16
theorem fldOk_of {op i e g : Int} (h : fldE op i e g = 0) : FldOk op i e g := by
  unfold fldE at h
  split at h
  · cases h
  · rename_i h1
    split at h
    · cases h
    · rename_i h2
      simp only [Bool.or_eq_true, Bool.and_eq_true, Bool.not_eq_true', bne_iff_ne, ne_eq, beq_iff_eq, not_or, not_and, Bool.and_eq_false_iff, decide_eq_false_iff_not, Classical.not_not] at h1 h2
      obtain ⟨⟨a1, a2⟩, a3⟩ := h1
      obtain ⟨⟨⟨b1, b2⟩, b3⟩, b4⟩ := h2
      refine ⟨a1, a2, a3, fun e => ?_, fun e => ?_, fun e => ?_, fun e => ?_⟩
      · have := b1 e; omega
      · have := b2 e; omega
      · have := b3 e; omega
      · have := b4 e; omega
def okM (m k A : Nat) : Bool := (List.range k).all (fun i => gb m i != 1 || decide (i < A))
theorem gb_testBit {m i : Nat} : gb m i = 1 ↔ m.testBit i = true := by
  unfold gb
  rw [Nat.testBit_eq_decide_div_mod_eq]; simp
theorem okM_iff {m k A : Nat} : okM m k A = true ↔ ∀ i, i < k → m.testBit i = true → i < A := by
  unfold okM
  simp only [List.all_eq_true, List.mem_range, Bool.or_eq_true, bne_iff_ne, ne_eq, decide_eq_true_eq, gb_testBit]
  constructor
  · intro h i hi hb
    rcases h i hi with h1 | h1
    · exact absurd hb h1
    · exact h1
  · intro h i hi
    by_cases hb : m.testBit i = true
    · exact .inr (h i hi hb)
    · exact .inl hb
theorem okM_false {m k A i : Nat} (hi : i < k) (h1 : gb m i = 1) (h2 : ¬ i < A) : okM m k A = false := by
  rw [Bool.eq_false_iff]
  intro h
  exact h2 (okM_iff.1 h i hi (gb_testBit.1 h1))
theorem okM_all {m k A : Nat} (h : ∀ i, i < k → gb m i = 1 → i < A) : okM m k A = true := okM_iff.2 (fun i hi hb => h i hi (gb_testBit.2 hb))
def fitB (f : List NV) (A B : Nat) : Bool := chkF f == 0 && (okM (orL agN (compF f)) 4 A && okM (orL ftN (compF f)) 8 B)
def FitL (A B : Nat) (op i g : Int) : Prop := (agO op = true → i.toNat < A) ∧ (op = 3 → i.toNat < B) ∧ g.toNat < 2 ^ A
theorem bits_lt {g A : Nat} (hg : g < 16) : (∀ i, i < 4 → g.testBit i = true → i < A) ↔ g < 2 ^ A := by
  constructor
  · intro h
    refine Nat.lt_pow_two_of_testBit g (fun i hi => ?_)
    by_cases h4 : i < 4
    · cases e : g.testBit i with
      | false => rfl
      | true => have := h i h4 e; omega
    · exact Nat.testBit_lt_two_pow (Nat.lt_of_lt_of_le hg (by show 2 ^ 4 ≤ 2 ^ i; exact Nat.pow_le_pow_right (by decide) (by omega)))
  · intro h i _ hb
    refine Classical.byContradiction (fun hA => ?_)
    rw [Nat.testBit_lt_two_pow (Nat.lt_of_lt_of_le h (Nat.pow_le_pow_right (by decide) (by omega)))] at hb
    cases hb
theorem g_lt {op i e g : Int} (h : FldOk op i e g) : g.toNat < 16 := by
  cases hg : grO op with
  | false => rw [h.g0 hg]; decide
  | true => have := h.gr hg; omega
theorem agN_lt {n : NV} (h : FldOk n.op n.i n.e n.g) : agN n < 2 ^ 4 := by
  refine Nat.or_lt_two_pow ?_ (g_lt h)
  split
  · rename_i ha; have := h.ag ha; exact Nat.pow_lt_pow_right (by decide) (by omega)
  · decide
theorem ftN_lt {n : NV} (h : FldOk n.op n.i n.e n.g) : ftN n < 2 ^ 8 := by
  unfold ftN
  split
  · rename_i ha; have := h.fact ha; exact Nat.pow_lt_pow_right (by decide) (by omega)
  · decide
theorem fit_ag {n : NV} (h : FldOk n.op n.i n.e n.g) {A : Nat} : (∀ i, i < 4 → (agN n).testBit i = true → i < A) ↔ (agO n.op = true → n.i.toNat < A) ∧ n.g.toNat < 2 ^ A := by
  rw [← bits_lt (g_lt h)]
  unfold agN
  constructor
  · intro h1
    refine ⟨fun ha => ?_, fun i hi hb => h1 i hi (by rw [Nat.testBit_or, hb, Bool.or_true])⟩
    have := h.ag ha
    exact h1 n.i.toNat (by omega) (by rw [Nat.testBit_or, if_pos ha, Nat.testBit_two_pow_self, Bool.true_or])
  · rintro ⟨h1, h2⟩ i hi hb
    rw [Nat.testBit_or, Bool.or_eq_true] at hb
    rcases hb with hb | hb
    · split at hb
      · rename_i ha
        rw [Nat.testBit_two_pow, decide_eq_true_eq] at hb
        rw [← hb]; exact h1 ha
      · rw [Nat.zero_testBit] at hb; cases hb
    · exact h2 i hi hb
theorem fit_ft {n : NV} (h : FldOk n.op n.i n.e n.g) {B : Nat} : (∀ i, i < 8 → (ftN n).testBit i = true → i < B) ↔ (n.op = 3 → n.i.toNat < B) := by
  unfold ftN
  constructor
  · intro h1 h3
    have := h.fact h3
    exact h1 n.i.toNat (by omega) (by rw [if_pos h3, Nat.testBit_two_pow_self])
  · intro h1 i _ hb
    split at hb
    · rename_i h3
      rw [Nat.testBit_two_pow, decide_eq_true_eq] at hb
      rw [← hb]; exact h1 h3
    · rw [Nat.zero_testBit] at hb; cases hb
theorem NodesOk.fld {f : List NV} (h : NodesOk f) : ∀ n ∈ f, FldOk n.op n.i n.e n.g := fun n hn => by
  obtain ⟨i, hi, rfl⟩ := List.mem_iff_getElem.1 hn
  exact fldOk_of (h i hi).fld
theorem NodesOk.opm {f : List NV} (h : NodesOk f) : ∀ n ∈ f, 1 ≤ n.op ∧ n.op ≤ 21 := fun n hn => by
  obtain ⟨i, hi, rfl⟩ := List.mem_iff_getElem.1 hn
  exact (h i hi).op
theorem fitB_iff {f : List NV} {A B : Nat} : fitB f A B = true ↔ chkF f = 0 ∧ allL (FitL A B) (topT f) := by
  unfold fitB
  rw [Bool.and_eq_true, beq_iff_eq]
  refine and_congr_right (fun h0 => ?_)
  have hok := (chkF_zero.1 h0).top
  rw [compF_eq h0, allL_can, Bool.and_eq_true, okM_iff, okM_iff]
  have hfl := (canT_nodes hok).fld
  constructor
  · rintro ⟨h1, h2⟩ n hn
    have k1 := (fit_ag (hfl n hn) (A := A)).1 (fun i hi hb => h1 i hi (orL_bit.2 ⟨n, hn, hb⟩))
    have k2 := (fit_ft (hfl n hn) (B := B)).1 (fun i hi hb => h2 i hi (orL_bit.2 ⟨n, hn, hb⟩))
    exact ⟨k1.1, k2, k1.2⟩
  · intro h
    constructor
    · intro i hi hb
      obtain ⟨n, hn, hb⟩ := orL_bit.1 hb
      exact (fit_ag (hfl n hn)).2 ⟨(h n hn).1, (h n hn).2.2⟩ i hi hb
    · intro i hi hb
      obtain ⟨n, hn, hb⟩ := orL_bit.1 hb
      exact (fit_ft (hfl n hn)).2 (h n hn).2.1 i hi hb
/-! fragments -/
def andN (a b : Nat) : Nat := a &&& (511 ^^^ b)
theorem andN_zero {a b : Nat} (ha : a < 512) : andN a b = 0 ↔ ∀ i, a.testBit i = true → b.testBit i = true := by
  have h511 : ∀ i, (511 : Nat).testBit i = decide (i < 9) := fun i => by
    rw [show (511 : Nat) = 2 ^ 9 - 1 from rfl, Nat.testBit_two_pow_sub_one]
  constructor
  · intro h i hi
    have h9 : i < 9 := by
      refine Classical.byContradiction (fun hc => ?_)
      rw [Nat.testBit_lt_two_pow (Nat.lt_of_lt_of_le ha (by show 2 ^ 9 ≤ 2 ^ i; exact Nat.pow_le_pow_right (by decide) (by omega)))] at hi
      cases hi
    have := congrArg (fun x => x.testBit i) h
    simp only [andN, Nat.testBit_and, Nat.testBit_xor, hi, h511, h9, decide_true, Nat.zero_testBit, Bool.true_and, Bool.true_bne] at this
    simpa using this
  · intro h
    refine Nat.eq_of_testBit_eq (fun i => ?_)
    rw [andN, Nat.testBit_and, Nat.testBit_xor, h511, Nat.zero_testBit]
    cases e : a.testBit i with
    | false => rfl
    | true =>
      rw [h i e]
      have h9 : i < 9 := by
        refine Classical.byContradiction (fun hc => ?_)
        rw [Nat.testBit_lt_two_pow (Nat.lt_of_lt_of_le ha (by show 2 ^ 9 ≤ 2 ^ i; exact Nat.pow_le_pow_right (by decide) (by omega)))] at e
        cases e
      simp [h9]
theorem frN_lt (n : NV) : frN n < 512 := by
  have := frO_lt n.op
  have := frN_eq n
  omega
theorem frg_zero {c : List NV} {b : Nat} : andN (frgL c) b = 0 ↔ ∀ n ∈ c, andN (frN n) b = 0 := by
  rw [andN_zero (frgL_lt c)]
  constructor
  · intro h n hn
    rw [andN_zero (frN_lt n)]
    exact fun i hi => h i (orL_bit.2 ⟨n, hn, hi⟩)
  · intro h i hi
    obtain ⟨n, hn, hb⟩ := orL_bit.1 (show (orL frN c).testBit i = true from hi)
    exact (andN_zero (frN_lt n)).1 (h n hn) i hb
theorem op_cases {p : Int → Prop} (h : ∀ k : Nat, k < 21 → p ((k : Int) + 1)) {op : Int} (ho : 1 ≤ op ∧ op ≤ 21) : p op := by
  have := h (op.toNat - 1) (by omega)
  rw [show (((op.toNat - 1 : Nat) : Int) + 1) = op by omega] at this
  exact this
theorem frO_15 {op : Int} (ho : 1 ≤ op ∧ op ≤ 21) : andN (frO op).toNat 15 = 0 ↔ op ≤ 13 :=
  op_cases (p := fun op => andN (frO op).toNat 15 = 0 ↔ op ≤ 13) (by decide) ho
theorem frg_has {t : Tr} {b : Nat} {r : Int → Prop} (ht : t.ok) (hr : ∀ {op : Int}, (1 ≤ op ∧ op ≤ 21) → (andN (frO op).toNat b = 0 ↔ r op)) : andN (frgL (canT t)) b = 0 ↔ allL (fun op _ _ => r op) t := by
  rw [frg_zero, allL_can]
  have ho := (canT_nodes ht).opm
  exact ⟨fun h n hn => (hr (ho n hn)).1 (h n hn), fun h n hn => (hr (ho n hn)).2 (h n hn)⟩
theorem bAndNotI {P : Program} {t : TypeId} {a b : Nat} (ha : a < 512) (hb : b < 512) : Bin P .andNot t (.int .i64 a) (.int .i64 b) (.int .i64 (andN a b)) := by
  refine bI _ ?_
  have h1 : (BitVec.ofInt 64 (a : Int)).toNat = a := by
    rw [BitVec.ofInt_natCast, BitVec.toNat_ofNat]; exact Nat.mod_eq_of_lt (by omega)
  have h2 : BitVec.ofInt 64 (b : Int) = BitVec.ofNat 64 b := BitVec.ofInt_natCast ..
  have h0 : BitVec.ofInt 64 (a : Int) = BitVec.ofNat 64 a := BitVec.ofInt_natCast ..
  have hx : andN a b < 2 ^ 9 := Nat.and_lt_two_pow _ (by show 511 ^^^ b < 2 ^ 9; exact Nat.xor_lt_two_pow (by decide) (by omega))
  have key : (BitVec.ofInt 64 (a : Int) &&& ~~~ BitVec.ofInt 64 (b : Int)) = BitVec.ofNat 64 (andN a b) := by
    rw [h0, h2]
    apply BitVec.eq_of_getLsbD_eq
    intro i hi
    rw [BitVec.getLsbD_and, BitVec.getLsbD_not, BitVec.getLsbD_ofNat, BitVec.getLsbD_ofNat, BitVec.getLsbD_ofNat, andN, Nat.testBit_and, Nat.testBit_xor, show (511 : Nat) = 2 ^ 9 - 1 from rfl, Nat.testBit_two_pow_sub_one]
    have e9 : ¬ i < 9 → a.testBit i = false := fun hc => Nat.testBit_lt_two_pow (Nat.lt_of_lt_of_le ha (by show 2 ^ 9 ≤ 2 ^ i; exact Nat.pow_le_pow_right (by decide) (by omega)))
    by_cases h9 : i < 9
    · simp [hi, h9]
    · simp [hi, e9 h9]
  show (binOp .andNot t (.int .i64 a) (.int .i64 b)) = _
  show (pure (Value.int .i64 (IntKind.i64.wrap ((BitVec.ofInt 64 (a : Int) &&& ~~~ BitVec.ofInt 64 (b : Int)).toNat : Int))) : Sem Value) = _
  rw [key, BitVec.toNat_ofNat, Nat.mod_eq_of_lt (by omega), IntWalk.i64_in _ (by omega)]
def StatL (A B : Nat) (op i g : Int) : Prop := op ≤ 13 ∧ FitL A B op i g
end Go.Proofs.Wit
namespace Go.Proofs.Wit
/-! a canonical list's sets -/
structure NdFit (A B : Nat) (nd : NV) : Prop where
  op1 : 1 ≤ nd.op
  op13 : nd.op ≤ 13
  fact : nd.op = 3 → 0 ≤ nd.i ∧ nd.i.toNat < B
  ag : nd.op = 9 ∨ nd.op = 10 → 0 ≤ nd.i ∧ nd.i.toNat < A
  gr : 11 ≤ nd.op → 1 ≤ nd.g ∧ nd.g.toNat < 2 ^ A
/-- what is known of a list that is its own canonical list -/
structure CanF (g : List NV) : Prop where
  chk : chkF g = 0
  can : g = canT (topT g)
end Go.Proofs.Wit
namespace Go.Proofs.Wit
open Go Go.RowKit
/-! formulas that are built of others: too long ones are no list -/
theorem subT_kid {c t : Tr} (h : c ∈ kids t) : subT c ⊆ subT t :=
  visit_sub c (ts := []) (subT_ok t).clo ((subT_ok t).clo.mem (mem_subT t) c h) (List.nil_subset _)
theorem canT_kid {c t : Tr} (h : c ∈ kids t) : (canT c).length ≤ (canT t).length := by
  rw [canT_len, canT_len]
  exact (subT_ok c).nd.length_le_of_subset (subT_kid h)
theorem bT_long {t : Tr} (h : 200 < (canT t).length) : bT t = [] := if_pos h
theorem bT_ok {t : Tr} (h : ¬ 200 < (canT t).length) : bT t = canT t := if_neg h
theorem bT_le (t : Tr) : (bT t).length ≤ 200 := by
  unfold bT; split
  · simp
  · omega
theorem bT_nil {t : Tr} : bT t = [] ↔ 200 < (canT t).length := by
  constructor
  · intro h
    refine Classical.byContradiction (fun hn => ?_)
    rw [bT_ok hn] at h
    have := canT_pos t
    rw [h] at this; exact absurd this (by simp)
  · exact bT_long
theorem bldF_bad {n : NV} {gs : List (List NV)} (h : ∃ g ∈ gs, chkF g ≠ 0) : bldF n gs = [] := if_pos h
theorem bld_un {op i e g : Int} {a : Tr} (ha : a.ok) (hop : 1 ≤ op ∧ op ≤ 21) (hX : usX op = true) (hY : usY op = false) (hf : fldE op i e g = 0) : bldF ⟨op, i, e, g, 0, 0⟩ [bT a] = bT (.un op i e g a) := by
  by_cases hl : 200 < (canT a).length
  · rw [bT_long hl, bldF_bad ⟨[], by simp, by decide⟩, bT_long (Nat.lt_of_lt_of_le hl (canT_kid (by simp [kids])))]
  · obtain ⟨h1, h2, h3⟩ := bT_chk ha (by omega)
    rw [h1, bld1 h2 hop hX hY hf rfl, h3]
theorem bld_bin {op i e g : Int} {a b : Tr} (ha : a.ok) (hb : b.ok) (hop : 1 ≤ op ∧ op ≤ 21) (hY : usY op = true) (hf : fldE op i e g = 0) : bldF ⟨op, i, e, g, 0, 0⟩ [bT a, bT b] = bT (.bin op i e g a b) := by
  by_cases hl : 200 < (canT a).length
  · rw [bT_long hl, bldF_bad ⟨[], by simp, by decide⟩, bT_long (Nat.lt_of_lt_of_le hl (canT_kid (by simp [kids])))]
  · by_cases hl2 : 200 < (canT b).length
    · rw [bT_long hl2, bldF_bad ⟨[], by simp, by decide⟩, bT_long (Nat.lt_of_lt_of_le hl2 (canT_kid (by simp [kids])))]
    · obtain ⟨h1, h2, h3⟩ := bT_chk ha (by omega)
      obtain ⟨k1, k2, k3⟩ := bT_chk hb (by omega)
      rw [h1, k1, bld2 h2 k2 hop hY hf, h3, k3]
theorem and_ok {a b : Tr} (ha : a.ok) (hb : b.ok) : (Tr.bin 5 0 0 0 a b).ok := ⟨by omega, rfl, rfl, ha, hb⟩
section
variable {P : Program} {w0 : World} {S : List Nat} {n : Nat} {l : Fl} {h : Hl} {ops : Array Oper} {i d : Nat} {ty : TypeId} {pos : String} {aft : Array Edge} {g : Option (Nat × Bool)}
end
end Go.Proofs.Wit
