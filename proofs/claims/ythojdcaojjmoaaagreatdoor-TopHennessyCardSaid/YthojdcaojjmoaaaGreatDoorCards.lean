/-
  DERIVED. GIVEN WITH THE SEED: THE CARDS: each row of YthojdcaojjmoaaaGreatDoorRows.lean that lists a variable, with what it lists TIED to the program's text (the seventh form; the later family's looks); each row that meets fmt, with fmt's text TOLD by the authors' own Lean function (tested against real Go, not proved from fmt's source: count such statements apart). THE CARD IS WHAT COUNTS. Prove the row's statement (the work); the ties are given (YthojdcaojjmoaaaGreatDoorTie.lean); close each card by the builder's one call (the guide's Derived/Test/ToyasCard.lean, 'card_holds'). Laid BY PROGRAM, IN A SANDBOX (cutbox-door.mjs). By AI agents, Wed Nov 11 2026. No macro, syntax, notation, axiom, sorry.
-/
import Derived.Test.YthojdcaojjmoaaaGreatDoorRows
import GoSem.ClaimSeven
namespace Go.Proofs.YthojdcaojjmoaaaGreatDoor
namespace Rows

/-- THE TIED CARD OF 'wittingtop.TopDepthLeast'. -/
def topDepthLeastCard : Claim7 := { stood := { row := topDepthLeastRow, standIns := [], harness := (true, "327cc27280d5625b556cb909a67dfd798ee5ed5d5ff7c8d5ad13e729b80c070b"), looks := false }, kinds := [], alts := [], laidByText := true, laidKinds := [.data, .data, .data], laidTests := true, laidLooks := .later }
def TopDepthLeastCardSaid : Prop := Claim7.holds Tryz.pinned (.plain (OpenSpec.ofChange topDepthLeastSpec)) topDepthLeastCard

/-- THE TIED CARD OF 'wittingtop.TopHennessy'. -/
def topHennessyCard : Claim7 := { stood := { row := topHennessyRow, standIns := [], harness := (true, "327cc27280d5625b556cb909a67dfd798ee5ed5d5ff7c8d5ad13e729b80c070b"), looks := false }, kinds := [], alts := [], laidByText := true, laidKinds := [.data, .data, .data], laidTests := true, laidLooks := .later }
def TopHennessyCardSaid : Prop := Claim7.holds Tryz.pinned (.plain (OpenSpec.ofChange topHennessySpec)) topHennessyCard

/-- THE SECOND FORM's CARD OF 'wittingtop.TopDepthLeast'. -/
def topDepthLeastUptoCard : Claim7 := { stood := { row := topDepthLeastUptoRow, standIns := [], harness := (true, "327cc27280d5625b556cb909a67dfd798ee5ed5d5ff7c8d5ad13e729b80c070b"), looks := false }, kinds := [], alts := [], laidByText := true, laidKinds := [.data, .data, .data], laidTests := true, laidLooks := .later }
def TopDepthLeastUptoCardSaid : Prop := Claim7.holds Tryz.pinned (.plain (OpenSpec.upto topDepthLeastSpec)) topDepthLeastUptoCard

/-- THE SECOND FORM's CARD OF 'wittingtop.TopHennessy'. -/
def topHennessyUptoCard : Claim7 := { stood := { row := topHennessyUptoRow, standIns := [], harness := (true, "327cc27280d5625b556cb909a67dfd798ee5ed5d5ff7c8d5ad13e729b80c070b"), looks := false }, kinds := [], alts := [], laidByText := true, laidKinds := [.data, .data, .data], laidTests := true, laidLooks := .later }
def TopHennessyUptoCardSaid : Prop := Claim7.holds Tryz.pinned (.plain (OpenSpec.upto topHennessySpec)) topHennessyUptoCard
end Rows
end Go.Proofs.YthojdcaojjmoaaaGreatDoor
