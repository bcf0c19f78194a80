/- What calls of the program return, under the conditions that each theorem states. -/
import Derived.Test.YthojdcaojjmoaaaGreatDoorB11
import Derived.Test.YthojdcaojjmoaaaGreatDoorB12
import Derived.Test.YthojdcaojjmoaaaGreatDoorB04
namespace Go.Proofs.YthojdcaojjmoaaaGreatDoor
open Go.RowKit Go.Proofs.Wit
/-! the examples of the chapter on bisimulations -/
abbrev mvE (b17 b16 b15 : Nat) (rel : List W64) : MV := ⟨3, some ⟨b17, 0, none⟩, 1, [⟨some ⟨b16, 0, none⟩, 3, rel⟩], some ⟨b15, 0, none⟩, 1, exV⟩
theorem le_mx {n : Nat} (h : n ≤ 1000) : n ≤ maxLen := by unfold maxLen; omega
theorem mvE_in {H : Hl} {b17 b16 b15 : Nat} {rel : List W64} (hr : rel.length = 3) (h17 : (some b17, ob Row.v 22 [⟨some ⟨b16, 0, none⟩, 3, rel⟩] []) ∈ H) (h16 : (some b16, ob U 33 rel []) ∈ H) (h15 : (some b15, ob U 33 exV []) ∈ H) : (mvE b17 b16 b15 rel).In H :=
  ⟨.inr ⟨b17, _, [], rfl, h17⟩, fun r h => by
    obtain rfl := List.mem_singleton.1 h
    exact ⟨.inr ⟨b16, _, [], rfl, h16⟩, le_mx (by rw [hr]; decide), Nat.le_of_eq hr⟩, .inr ⟨b15, _, [], rfl, h15⟩, le_mx (Nat.le_of_ble_eq_true rfl), le_mx (Nat.le_of_ble_eq_true rfl), Nat.le_refl _, Nat.le_refl _⟩
end Go.Proofs.YthojdcaojjmoaaaGreatDoor
