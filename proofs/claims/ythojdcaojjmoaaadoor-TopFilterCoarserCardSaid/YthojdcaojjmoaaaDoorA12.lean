/- Laws of walks, for any program, under the conditions that each theorem states. -/
import Derived.Test.YthojdcaojjmoaaaDoorA10
namespace Go.Proofs.Wit
open Go Go.RowKit
/-! for the reference of chapter 19 -/
section
variable {P : Program} {t : TypeId}
end
section
variable {κ : Type} [DecidableEq κ]
/-- going down from i: low is the lowest point above j with the key of i -/
structure Down (key : Nat → κ) (i : Nat) (j : Int) (low : Nat) : Prop where
  lo : j < low
  hi : low ≤ i
  eq : key low = key i
  min : ∀ m : Nat, j < m → m ≤ i → key m = key i → low ≤ m
omit [DecidableEq κ] in
end
/-- row k, worlds before j are done -/
structure RowR (va vb : List W64) (ra rb : List (List W64)) (na nb : Nat) (z0 : List W64) (k j : Nat) (z : List W64) (ch : Bool) : Prop where
  turn : TurnZ va vb ra rb na nb z0 z ch k
  done : ch = false → ∀ w, w < j → Rl z k w → matB va vb ra rb z k w = true
section
variable {va vb : List W64} {ra rb : List (List W64)} {na nb k j : Nat} {z0 z : List W64} {ch : Bool}
end
end Go.Proofs.Wit
