/- Laws of walks, for any program, under the conditions that each theorem states. -/
import Derived.Test.YthojdcaojjmoaaaDoorA03
namespace Go.Proofs.Wit
open Go Go.RowKit
/-! a region that draws its order: the reads are those of a list rs, c turns memory, those of ls come behind both -/
def reachD (ops : Array Oper) : Nat → Nat → Nat → Bool
  | 0, _, _ => false
  | f + 1, i, j => (dirs ops i).any (fun e => Nat.beq e j || reachD ops f e j)
structure DrawXFacts (ops : Array Oper) (rs : List Nat) (c : Nat) (ls : List Nat) : Prop where
  size : c < ops.size
  rsz : ∀ i ∈ rs, i < ops.size ∧ i ≠ c
  inc : ∀ q p, q < p → p < rs.length → rs.getD q 0 < rs.getD p 0
  lt : ∀ i, i < ops.size → ∀ j ∈ dirs ops i, j < i
  rdir : ∀ i ∈ rs, ∀ j ∈ dirs ops i, j ∈ rs
  cdir : ∀ j ∈ dirs ops c, j ∈ rs
  sel : ∀ i, (i = c ∨ i ∈ rs) → ∀ o, ops[i]? = some o → notSel o.op = true
  inj : ∀ i j d, (i = c ∨ i ∈ rs) → (j = c ∨ j ∈ rs) → dstOf ops i = some d → dstOf ops j = some d → i = j
  eye : ∀ i, (i = c ∨ i ∈ rs) → ∀ o, ops[i]? = some o → ∀ s ∈ eyes ops o, ∀ j, (j = c ∨ j ∈ rs) → dstOf ops j = some s → j ∈ dirs ops i
  late : ∀ i, i < ops.size → ¬ (i = c ∨ i ∈ rs) → (∃ j ∈ dirs ops i, ¬ (j = c ∨ j ∈ rs)) ∨ ∀ j, (j = c ∨ j ∈ rs) → reachD ops ops.size i j = true
  forc : forced ops (c :: rs) ls = true
section
variable {P : Program} {r : Option Nat} {f : FuncId} {R : Value → World → Prop} {w0 : World} {S : List Nat} {Y : List (Nat × Obj)} {n : Nat} {k : List Item} {l : Fl} {h : Hl} {ops : Array Oper}
end
end Go.Proofs.Wit
