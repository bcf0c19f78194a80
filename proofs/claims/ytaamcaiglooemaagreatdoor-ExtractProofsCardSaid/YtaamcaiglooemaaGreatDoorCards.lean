/-
  DERIVED. GIVEN WITH THE SEED: THE CARDS: each row of YtaamcaiglooemaaGreatDoorRows.lean that lists a variable, with what it lists TIED to the program's text (the seventh form; the later family's looks); each row that meets fmt, with fmt's text TOLD by the authors' own Lean function (tested against real Go, not proved from fmt's source: count such statements apart). THE CARD IS WHAT COUNTS. Prove the row's statement (the work); the ties are given (YtaamcaiglooemaaGreatDoorTie.lean); close each card by the builder's one call (the guide's Derived/Test/ToyasCard.lean, 'card_holds'). Laid BY PROGRAM, IN A SANDBOX (cutbox-door.mjs). By AI agents, Wed Nov 11 2026. No macro, syntax, notation, axiom, sorry.
-/
import Derived.Test.YtaamcaiglooemaaGreatDoorRows
import GoSem.ClaimSeven
namespace Go.Proofs.YtaamcaiglooemaaGreatDoor
namespace Rows

/-- THE TIED CARD OF 'wittinglaw51.ExtractLemmas'. -/
def extractLemmasCard : Claim7 := { stood := { row := extractLemmasRow, standIns := [], harness := (true, "9fa89a74c0ff8c80da3064be698dc73bd81e054504ded8ca1a25b2a2bf2f75f8"), looks := false }, kinds := [], alts := [], laidByText := true, laidKinds := [.funcs], laidTests := true, laidLooks := .later }
def ExtractLemmasCardSaid : Prop := Claim7.holds Tryz.pinned (.plain (OpenSpec.ofChange extractLemmasSpec)) extractLemmasCard

/-- THE TIED CARD OF 'wittinglaw51.ExtractProofs'. -/
def extractProofsCard : Claim7 := { stood := { row := extractProofsRow, standIns := [], harness := (true, "9fa89a74c0ff8c80da3064be698dc73bd81e054504ded8ca1a25b2a2bf2f75f8"), looks := false }, kinds := [], alts := [], laidByText := true, laidKinds := [.funcs], laidTests := true, laidLooks := .later }
def ExtractProofsCardSaid : Prop := Claim7.holds Tryz.pinned (.plain (OpenSpec.ofChange extractProofsSpec)) extractProofsCard

/-- THE SECOND FORM's CARD OF 'wittinglaw51.ExtractLemmas'. -/
def extractLemmasUptoCard : Claim7 := { stood := { row := extractLemmasUptoRow, standIns := [], harness := (true, "9fa89a74c0ff8c80da3064be698dc73bd81e054504ded8ca1a25b2a2bf2f75f8"), looks := false }, kinds := [], alts := [], laidByText := true, laidKinds := [.funcs], laidTests := true, laidLooks := .later }
def ExtractLemmasUptoCardSaid : Prop := Claim7.holds Tryz.pinned (.plain (OpenSpec.upto extractLemmasSpec)) extractLemmasUptoCard

/-- THE SECOND FORM's CARD OF 'wittinglaw51.ExtractProofs'. -/
def extractProofsUptoCard : Claim7 := { stood := { row := extractProofsUptoRow, standIns := [], harness := (true, "9fa89a74c0ff8c80da3064be698dc73bd81e054504ded8ca1a25b2a2bf2f75f8"), looks := false }, kinds := [], alts := [], laidByText := true, laidKinds := [.funcs], laidTests := true, laidLooks := .later }
def ExtractProofsUptoCardSaid : Prop := Claim7.holds Tryz.pinned (.plain (OpenSpec.upto extractProofsSpec)) extractProofsUptoCard
end Rows
end Go.Proofs.YtaamcaiglooemaaGreatDoor
