/- Laws of walks, for any program, under the conditions that each theorem states. -/
import Derived.Test.YthojdcaojjmoaaaDoorA08
namespace Go.Proofs.Wit
/-! bisimulations between two models -/
def forB (r s z : List W64) (v w : Nat) : Bool := (pts (r.getD v 0#64)).all (fun x => z.getD x 0#64 &&& s.getD w 0#64 != 0#64) && (s.getD w 0#64 &&& ~~~ mapR z (r.getD v 0#64) == 0#64)
def matB (va vb : List W64) (ra rb : List (List W64)) (z : List W64) (v w : Nat) : Bool := (fm va v == fm vb w) && (List.range ra.length).all (fun i => forB (ra.getD i []) (rb.getD i []) z v w)
def LeZ (l c : List W64) : Prop := ∀ u v, Rl l u v → Rl c u v
section
variable {va vb : List W64} {ra rb : List (List W64)}
def SimB (va vb : List W64) (ra rb : List (List W64)) (z : List W64) : Prop := ∀ v w, Rl z v w → matB va vb ra rb z v w = true
structure InvZ (va vb : List W64) (ra rb : List (List W64)) (na nb : Nat) (z : List W64) : Prop where
  len : z.length = na
  rng : ∀ v w, Rl z v w → w < nb
  top : ∀ z' : List W64, z'.length = na → (∀ v w, Rl z' v w → w < nb) → SimB va vb ra rb z' → LeZ z' z
theorem one_bit {w i : Nat} (hw : w < 64) : (1#64 <<< w).getLsbD i = decide (i = w) := by
  rw [BitVec.getLsbD_shiftLeft]
  by_cases e : i = w
  · subst e; simp [hw]
  · rw [decide_eq_false e]
    by_cases h1 : i < 64
    · by_cases h2 : i < w
      · simp [h1, h2]
      · have h3 : i - w ≠ 0 := by omega
        simp [h1, h2, h3]
    · simp [h1]
end
/-- a measure -/
def sumZ (z : List W64) : Nat := (z.map BitVec.toNat).sum
/-- one turn of the outer loop: rows before k are done -/
structure TurnZ (va vb : List W64) (ra rb : List (List W64)) (na nb : Nat) (z0 z : List W64) (ch : Bool) (k : Nat) : Prop where
  inv : InvZ va vb ra rb na nb z
  le : sumZ z ≤ sumZ z0
  chg : ch = true → sumZ z < sumZ z0
  same : ch = false → ∀ v w, v < k → Rl z v w → matB va vb ra rb z v w = true
/-- in row k, with the members s of the row at its start, the first i of which are done -/
structure RowZ (va vb : List W64) (ra rb : List (List W64)) (na nb : Nat) (z0 : List W64) (k : Nat) (s : W64) (i : Nat) (z : List W64) (ch : Bool) : Prop where
  turn : TurnZ va vb ra rb na nb z0 z ch k
  row : ∀ w, Rl z k w → s.getLsbD w = true
  left : ∀ w ∈ (pts s).drop i, Rl z k w
  done : ch = false → ∀ w ∈ (pts s).take i, matB va vb ra rb z k w = true
section
variable {va vb : List W64} {ra rb : List (List W64)} {na nb k i : Nat} {z0 z : List W64} {s : W64} {ch : Bool}
end
end Go.Proofs.Wit
