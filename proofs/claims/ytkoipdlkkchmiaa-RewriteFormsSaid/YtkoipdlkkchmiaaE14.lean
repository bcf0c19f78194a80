/- Laws of walks, for any program, under the conditions that each theorem states. -/
import Derived.Test.YtkoipdlkkchmiaaE05
import Derived.Test.YtkoipdlkkchmiaaE12
import Derived.Test.YtkoipdlkkchmiaaE02
namespace Go.Proofs.Wit
open Go Go.RowKit
section
variable {P : Program} {r : Option Nat} {f : FuncId} {R : Value → World → Prop} {w0 : World} {S : List Nat} {Y : List (Nat × Obj)} {n : Nat} {k : List Item} {l : Fl} {h : Hl}
variable {ops : Array Oper} {i d : Nat} {rest : List Nat} {ty : TypeId} {pos : String} {aft : Array Edge} {g : Option (Nat × Bool)} {t : TypeId}
end
structure Nums (ks : Nat → List UInt8) (n : Nat) (L : List (List UInt8 × Nat)) (l : List Int) (k : Nat) : Prop where
  len : l.length = n
  le : k ≤ n
  lt : ∀ x v, mget (fun a b => a == b) L x = some v → v < L.length
  inj : ∀ x y v, mget (fun a b => a == b) L x = some v → mget (fun a b => a == b) L y = some v → x = y
  at_ : ∀ i, i < k → ∃ v : Nat, l.getD i 0 = v ∧ mget (fun a b => a == b) L (ks i) = some v
end Go.Proofs.Wit
namespace Go.Proofs.Wit
/-! bisimulations between two models -/
def forB (r s z : List W64) (v w : Nat) : Bool := (pts (r.getD v 0#64)).all (fun x => z.getD x 0#64 &&& s.getD w 0#64 != 0#64) && (s.getD w 0#64 &&& ~~~ mapR z (r.getD v 0#64) == 0#64)
def matB (va vb : List W64) (ra rb : List (List W64)) (z : List W64) (v w : Nat) : Bool := (fm va v == fm vb w) && (List.range ra.length).all (fun i => forB (ra.getD i []) (rb.getD i []) z v w)
def LeZ (l c : List W64) : Prop := ∀ u v, Rl l u v → Rl c u v
section
variable {va vb : List W64} {ra rb : List (List W64)}
def SimB (va vb : List W64) (ra rb : List (List W64)) (z : List W64) : Prop := ∀ v w, Rl z v w → matB va vb ra rb z v w = true
structure InvZ (va vb : List W64) (ra rb : List (List W64)) (na nb : Nat) (z : List W64) : Prop where
  len : z.length = na
  rng : ∀ v w, Rl z v w → w < nb
  top : ∀ z' : List W64, z'.length = na → (∀ v w, Rl z' v w → w < nb) → SimB va vb ra rb z' → LeZ z' z
end
/-- a measure -/
def sumZ (z : List W64) : Nat := (z.map BitVec.toNat).sum
/-- one turn of the outer loop: rows before k are done -/
structure TurnZ (va vb : List W64) (ra rb : List (List W64)) (na nb : Nat) (z0 z : List W64) (ch : Bool) (k : Nat) : Prop where
  inv : InvZ va vb ra rb na nb z
  le : sumZ z ≤ sumZ z0
  chg : ch = true → sumZ z < sumZ z0
  same : ch = false → ∀ v w, v < k → Rl z v w → matB va vb ra rb z v w = true
/-- in row k, with the members s of the row at its start, the first i of which are done -/
structure RowZ (va vb : List W64) (ra rb : List (List W64)) (na nb : Nat) (z0 : List W64) (k : Nat) (s : W64) (i : Nat) (z : List W64) (ch : Bool) : Prop where
  turn : TurnZ va vb ra rb na nb z0 z ch k
  row : ∀ w, Rl z k w → s.getLsbD w = true
  left : ∀ w ∈ (pts s).drop i, Rl z k w
  done : ch = false → ∀ w ∈ (pts s).take i, matB va vb ra rb z k w = true
section
variable {va vb : List W64} {ra rb : List (List W64)} {na nb k i : Nat} {z0 z : List W64} {s : W64} {ch : Bool}
end
end Go.Proofs.Wit
namespace Go.Proofs.Wit
open Go Go.RowKit
/-! for the reference of chapter 19 -/
section
variable {P : Program} {t : TypeId}
end
section
variable {κ : Type} [DecidableEq κ]
/-- going down from i: low is the lowest point above j with the key of i -/
structure Down (key : Nat → κ) (i : Nat) (j : Int) (low : Nat) : Prop where
  lo : j < low
  hi : low ≤ i
  eq : key low = key i
  min : ∀ m : Nat, j < m → m ≤ i → key m = key i → low ≤ m
omit [DecidableEq κ] in
end
/-- row k, worlds before j are done -/
structure RowR (va vb : List W64) (ra rb : List (List W64)) (na nb : Nat) (z0 : List W64) (k j : Nat) (z : List W64) (ch : Bool) : Prop where
  turn : TurnZ va vb ra rb na nb z0 z ch k
  done : ch = false → ∀ w, w < j → Rl z k w → matB va vb ra rb z k w = true
section
variable {va vb : List W64} {ra rb : List (List W64)} {na nb k j : Nat} {z0 z : List W64} {ch : Bool}
end
end Go.Proofs.Wit
namespace Go.Proofs.Wit
open Go Go.RowKit
/-! groups: the meet of the relations of a group -/
section
variable {P : Program} {t : TypeId}
end
def gb (g k : Nat) : Nat := g / 2 ^ k % 2
def meetW (n : Nat) (rel : List (List W64)) (g w : Nat) (k : Nat) : W64 := upTo (fun a (o : W64) => if gb g a = 1 then o &&& (rel.getD a []).getD w 0#64 else o) (allW n) k
def meetTo (n : Nat) (rel : List (List W64)) (g k : Nat) : List W64 := (List.range n).map (fun w => meetW n rel g w k)
def meetL (n : Nat) (rel : List (List W64)) (g : Nat) : List W64 := meetTo n rel g rel.length
section
variable {n : Nat} {rel : List (List W64)} {g k w : Nat}
end
section
variable {P : Program} {r : Option Nat} {f : FuncId} {R : Value → World → Prop} {w0 : World} {S : List Nat} {Y : List (Nat × Obj)} {n : Nat} {k : List Item} {l : Fl} {h : Hl}
variable {ops : Array Oper} {i d : Nat} {rest : List Nat} {ty : TypeId} {pos : String} {aft : Array Edge} {g : Option (Nat × Bool)}
end
end Go.Proofs.Wit
namespace Go.Proofs.Wit
open Go
/-- the worlds w below n with q -/
def selW (q : Nat → Bool) (n : Nat) : W64 := upTo (fun w (o : W64) => if q w = true then o ||| 1#64 <<< w else o) 0#64 n
def boxW (r : List W64) (n : Nat) (s : W64) : W64 := selW (fun w => r.getD w 0#64 &&& ~~~s == 0#64) n
/-- one turn of a search along r within c -/
def pstep (r : List W64) (c : W64) (n : Nat) (s : W64) : W64 := upTo (fun w (o : W64) => if o.getLsbD w = true then o ||| (r.getD w 0#64 &&& c) else o) s n
def pathTo (r : List W64) (n v : Nat) (c : W64) (k : Nat) : W64 := upTo (fun _ (o : W64) => pstep r c n o) (r.getD v 0#64 &&& c) k
def pathW (r : List W64) (n v : Nat) (c : W64) : W64 := pathTo r n v c n
def comW (r : List W64) (n : Nat) (c s : W64) : W64 := selW (fun w => pathW r n w c &&& ~~~s == 0#64) n
/-- there is a path -/
inductive RchC (r : List W64) (c : W64) (v : Nat) : Nat → Prop where
  | one {u : Nat} (h : Rl r v u) (hc : c.getLsbD u = true) : RchC r c v u
  | step {u x : Nat} (h : RchC r c v u) (h2 : Rl r u x) (hc : c.getLsbD x = true) : RchC r c v x
/-- the union of the relations of a group -/
def joinW (rel : List (List W64)) (g w : Nat) (k : Nat) : W64 := upTo (fun a (o : W64) => if gb g a = 1 then o ||| (rel.getD a []).getD w 0#64 else o) 0#64 k
def joinTo (n : Nat) (rel : List (List W64)) (g k : Nat) : List W64 := (List.range n).map (fun w => joinW rel g w k)
def joinL (n : Nat) (rel : List (List W64)) (g : Nat) : List W64 := joinTo n rel g rel.length
/-- truth by trees -/
def boolW (op : Int) (x y all : W64) : W64 := if op = 1 then all else if op = 4 then all &&& ~~~x else if op = 5 then x &&& y else if op = 6 then x ||| y else if op = 7 then (all &&& ~~~x) ||| y else if op = 8 then all &&& ~~~(x ^^^ y) else 0#64
def oneW (n : Nat) (val : List W64) (rel : List (List W64)) (op i g : Int) (x y : W64) : W64 :=
  if op = 3 then val.getD i.toNat 0#64 else if op ≤ 8 then boolW op x y (allW n)
  else if op = 9 then boxW (rel.getD i.toNat []) n x else if op = 10 then allW n &&& ~~~boxW (rel.getD i.toNat []) n (allW n &&& ~~~x)
  else if op = 11 then boxW (joinL n rel g.toNat) n x else if op = 12 then boxW (meetL n rel g.toNat) n x else comW (joinL n rel g.toNat) n x y
def semT (n : Nat) (val : List W64) (rel : List (List W64)) : Tr → W64
  | .leaf op i _ g => oneW n val rel op i g 0#64 0#64
  | .un op i _ g a => oneW n val rel op i g (semT n val rel a) 0#64
  | .bin op i _ g a b => oneW n val rel op i g (semT n val rel a) (semT n val rel b)
end Go.Proofs.Wit
namespace Go.Proofs.Wit
open Go
/-! worlds that are together agree -/
abbrev PEq (p : List Int) (v w : Nat) : Prop := p.getD v 0 = p.getD w 0
def IvX (n : Nat) (p : List Int) (s : W64) : Prop := ∀ v w, v < n → w < n → PEq p v w → s.getLsbD v = true → s.getLsbD w = true
section
variable {n : Nat} {p p' : List Int} {s t c : W64} {R : List W64}
end
section
variable {n : Nat} {val : List W64} {rels : List (List W64)}
end
/-- a property of all labels -/
def allL (q : Int → Int → Int → Prop) : Tr → Prop
  | .leaf op i _ g => q op i g
  | .un op i _ g a => q op i g ∧ allL q a
  | .bin op i _ g a b => q op i g ∧ allL q a ∧ allL q b
/-- the modal depth -/
def mdO (op : Int) : Nat := if 9 ≤ op ∧ op ≤ 15 ∨ 18 ≤ op then 1 else 0
def depT : Tr → Nat
  | .leaf op _ _ _ => mdO op
  | .un op _ _ _ a => depT a + mdO op
  | .bin op _ _ _ a b => max (depT a) (depT b) + mdO op
end Go.Proofs.Wit
namespace Go.Proofs.Wit
open Go
theorem mem_subT (t : Tr) : t ∈ subT t := (subT_ok t).mem
structure FldOk (op i e g : Int) : Prop where
  i0 : iO op = false → i = 0
  e0 : op ≠ 17 → e = 0
  g0 : grO op = false → g = 0
  fact : op = 3 → 0 ≤ i ∧ i < 8
  ag : agO op = true → 0 ≤ i ∧ i < 4
  act : op = 17 → (0 ≤ i ∧ i < 8) ∧ 0 ≤ e ∧ e < 8
  gr : grO op = true → 1 ≤ g ∧ g < 16
theorem fldOk_of {op i e g : Int} (h : fldE op i e g = 0) : FldOk op i e g := by
  unfold fldE at h
  split at h
  · cases h
  · rename_i h1
    split at h
    · cases h
    · rename_i h2
      simp only [Bool.or_eq_true, Bool.and_eq_true, Bool.not_eq_true', bne_iff_ne, ne_eq, beq_iff_eq, not_or, not_and, Bool.and_eq_false_iff, decide_eq_false_iff_not, Classical.not_not] at h1 h2
      obtain ⟨⟨a1, a2⟩, a3⟩ := h1
      obtain ⟨⟨⟨b1, b2⟩, b3⟩, b4⟩ := h2
      refine ⟨a1, a2, a3, fun e => ?_, fun e => ?_, fun e => ?_, fun e => ?_⟩
      · have := b1 e; omega
      · have := b2 e; omega
      · have := b3 e; omega
      · have := b4 e; omega
def FitL (A B : Nat) (op i g : Int) : Prop := (agO op = true → i.toNat < A) ∧ (op = 3 → i.toNat < B) ∧ g.toNat < 2 ^ A
def StatL (A B : Nat) (op i g : Int) : Prop := op ≤ 13 ∧ FitL A B op i g
end Go.Proofs.Wit
namespace Go.Proofs.Wit
/-! a canonical list's sets -/
structure NdFit (A B : Nat) (nd : NV) : Prop where
  op1 : 1 ≤ nd.op
  op13 : nd.op ≤ 13
  fact : nd.op = 3 → 0 ≤ nd.i ∧ nd.i.toNat < B
  ag : nd.op = 9 ∨ nd.op = 10 → 0 ≤ nd.i ∧ nd.i.toNat < A
  gr : 11 ≤ nd.op → 1 ≤ nd.g ∧ nd.g.toNat < 2 ^ A
/-- what is known of a list that is its own canonical list -/
structure CanF (g : List NV) : Prop where
  chk : chkF g = 0
  can : g = canT (topT g)
end Go.Proofs.Wit
namespace Go.Proofs.Wit
open Go Go.RowKit
/-! formulas that are built of others: too long ones are no list -/
theorem subT_kid {c t : Tr} (h : c ∈ kids t) : subT c ⊆ subT t :=
  visit_sub c (ts := []) (subT_ok t).clo ((subT_ok t).clo.mem (mem_subT t) c h) (List.nil_subset _)
theorem canT_kid {c t : Tr} (h : c ∈ kids t) : (canT c).length ≤ (canT t).length := by
  rw [canT_len, canT_len]
  exact (subT_ok c).nd.length_le_of_subset (subT_kid h)
theorem bT_long {t : Tr} (h : 200 < (canT t).length) : bT t = [] := if_pos h
theorem bT_ok {t : Tr} (h : ¬ 200 < (canT t).length) : bT t = canT t := if_neg h
theorem bT_le (t : Tr) : (bT t).length ≤ 200 := by
  unfold bT; split
  · simp
  · omega
theorem bT_nil {t : Tr} : bT t = [] ↔ 200 < (canT t).length := by
  constructor
  · intro h
    refine Classical.byContradiction (fun hn => ?_)
    rw [bT_ok hn] at h
    have := canT_pos t
    rw [h] at this; exact absurd this (by simp)
  · exact bT_long
theorem bldF_bad {n : NV} {gs : List (List NV)} (h : ∃ g ∈ gs, chkF g ≠ 0) : bldF n gs = [] := if_pos h
theorem bld_un {op i e g : Int} {a : Tr} (ha : a.ok) (hop : 1 ≤ op ∧ op ≤ 21) (hX : usX op = true) (hY : usY op = false) (hf : fldE op i e g = 0) : bldF ⟨op, i, e, g, 0, 0⟩ [bT a] = bT (.un op i e g a) := by
  by_cases hl : 200 < (canT a).length
  · rw [bT_long hl, bldF_bad ⟨[], by simp, by decide⟩, bT_long (Nat.lt_of_lt_of_le hl (canT_kid (by simp [kids])))]
  · obtain ⟨h1, h2, h3⟩ := bT_chk ha (by omega)
    rw [h1, bld1 h2 hop hX hY hf rfl, h3]
theorem bld_bin {op i e g : Int} {a b : Tr} (ha : a.ok) (hb : b.ok) (hop : 1 ≤ op ∧ op ≤ 21) (hY : usY op = true) (hf : fldE op i e g = 0) : bldF ⟨op, i, e, g, 0, 0⟩ [bT a, bT b] = bT (.bin op i e g a b) := by
  by_cases hl : 200 < (canT a).length
  · rw [bT_long hl, bldF_bad ⟨[], by simp, by decide⟩, bT_long (Nat.lt_of_lt_of_le hl (canT_kid (by simp [kids])))]
  · by_cases hl2 : 200 < (canT b).length
    · rw [bT_long hl2, bldF_bad ⟨[], by simp, by decide⟩, bT_long (Nat.lt_of_lt_of_le hl2 (canT_kid (by simp [kids])))]
    · obtain ⟨h1, h2, h3⟩ := bT_chk ha (by omega)
      obtain ⟨k1, k2, k3⟩ := bT_chk hb (by omega)
      rw [h1, k1, bld2 h2 k2 hop hY hf, h3, k3]
theorem and_ok {a b : Tr} (ha : a.ok) (hb : b.ok) : (Tr.bin 5 0 0 0 a b).ok := ⟨by omega, rfl, rfl, ha, hb⟩
section
variable {P : Program} {w0 : World} {S : List Nat} {n : Nat} {l : Fl} {h : Hl} {ops : Array Oper} {i d : Nat} {ty : TypeId} {pos : String} {aft : Array Edge} {g : Option (Nat × Bool)}
end
end Go.Proofs.Wit
