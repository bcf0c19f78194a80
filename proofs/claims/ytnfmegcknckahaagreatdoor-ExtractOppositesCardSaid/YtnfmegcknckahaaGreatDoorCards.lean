/-
  DERIVED. GIVEN WITH THE SEED: THE CARDS: each row of YtnfmegcknckahaaGreatDoorRows.lean that lists a variable, with what it lists TIED to the program's text (the seventh form; the later family's looks); each row that meets fmt, with fmt's text TOLD by the authors' own Lean function (tested against real Go, not proved from fmt's source: count such statements apart). THE CARD IS WHAT COUNTS. Prove the row's statement (the work); the ties are given (YtnfmegcknckahaaGreatDoorTie.lean); close each card by the builder's one call (the guide's Derived/Test/ToyasCard.lean, 'card_holds'). Laid BY PROGRAM, IN A SANDBOX (cutbox-door.mjs). By AI agents, Wed Nov 11 2026. No macro, syntax, notation, axiom, sorry.
-/
import Derived.Test.YtnfmegcknckahaaGreatDoorRows
import GoSem.ClaimSeven
namespace Go.Proofs.YtnfmegcknckahaaGreatDoor
namespace Rows

/-- THE TIED CARD OF 'wittinglaw51.ExtractTrims'. -/
def extractTrimsCard : Claim7 := { stood := { row := extractTrimsRow, standIns := [], harness := (true, "7c6d6e8b62eec391a7cfa7bf7f9e543e722f40b9e9782902cea4bcb38d923ccf"), looks := false }, kinds := [], alts := [], laidByText := true, laidKinds := [.funcs], laidTests := true, laidLooks := .later }
def ExtractTrimsCardSaid : Prop := Claim7.holds Tryz.pinned (.plain (OpenSpec.ofChange extractTrimsSpec)) extractTrimsCard

/-- THE TIED CARD OF 'wittinglaw51.ExtractLemmas'. -/
def extractLemmasCard : Claim7 := { stood := { row := extractLemmasRow, standIns := [], harness := (true, "7c6d6e8b62eec391a7cfa7bf7f9e543e722f40b9e9782902cea4bcb38d923ccf"), looks := false }, kinds := [], alts := [], laidByText := true, laidKinds := [.funcs], laidTests := true, laidLooks := .later }
def ExtractLemmasCardSaid : Prop := Claim7.holds Tryz.pinned (.plain (OpenSpec.ofChange extractLemmasSpec)) extractLemmasCard

/-- THE TIED CARD OF 'wittinglaw51.ExtractProofs'. -/
def extractProofsCard : Claim7 := { stood := { row := extractProofsRow, standIns := [], harness := (true, "7c6d6e8b62eec391a7cfa7bf7f9e543e722f40b9e9782902cea4bcb38d923ccf"), looks := false }, kinds := [], alts := [], laidByText := true, laidKinds := [.funcs], laidTests := true, laidLooks := .later }
def ExtractProofsCardSaid : Prop := Claim7.holds Tryz.pinned (.plain (OpenSpec.ofChange extractProofsSpec)) extractProofsCard

/-- THE TIED CARD OF 'wittinglaw51.ExtractLess'. -/
def extractLessCard : Claim7 := { stood := { row := extractLessRow, standIns := [], harness := (true, "7c6d6e8b62eec391a7cfa7bf7f9e543e722f40b9e9782902cea4bcb38d923ccf"), looks := false }, kinds := [], alts := [], laidByText := true, laidKinds := [.funcs], laidTests := true, laidLooks := .later }
def ExtractLessCardSaid : Prop := Claim7.holds Tryz.pinned (.plain (OpenSpec.ofChange extractLessSpec)) extractLessCard

/-- THE TIED CARD OF 'wittinglaw51.ExtractOpposites'. -/
def extractOppositesCard : Claim7 := { stood := { row := extractOppositesRow, standIns := [], harness := (true, "7c6d6e8b62eec391a7cfa7bf7f9e543e722f40b9e9782902cea4bcb38d923ccf"), looks := false }, kinds := [], alts := [], laidByText := true, laidKinds := [.funcs], laidTests := true, laidLooks := .later }
def ExtractOppositesCardSaid : Prop := Claim7.holds Tryz.pinned (.plain (OpenSpec.ofChange extractOppositesSpec)) extractOppositesCard

/-- THE TIED CARD OF 'wittinglaw51.ExtractNeeds'. -/
def extractNeedsCard : Claim7 := { stood := { row := extractNeedsRow, standIns := [], harness := (true, "7c6d6e8b62eec391a7cfa7bf7f9e543e722f40b9e9782902cea4bcb38d923ccf"), looks := false }, kinds := [], alts := [], laidByText := true, laidKinds := [.funcs], laidTests := true, laidLooks := .later }
def ExtractNeedsCardSaid : Prop := Claim7.holds Tryz.pinned (.plain (OpenSpec.ofChange extractNeedsSpec)) extractNeedsCard

/-- THE TIED CARD OF 'wittinglaw51.ExtractAccepted'. -/
def extractAcceptedCard : Claim7 := { stood := { row := extractAcceptedRow, standIns := [], harness := (true, "7c6d6e8b62eec391a7cfa7bf7f9e543e722f40b9e9782902cea4bcb38d923ccf"), looks := false }, kinds := [], alts := [], laidByText := true, laidKinds := [.funcs], laidTests := true, laidLooks := .later }
def ExtractAcceptedCardSaid : Prop := Claim7.holds Tryz.pinned (.plain (OpenSpec.ofChange extractAcceptedSpec)) extractAcceptedCard

/-- THE SECOND FORM's CARD OF 'wittinglaw51.ExtractTrims'. -/
def extractTrimsUptoCard : Claim7 := { stood := { row := extractTrimsUptoRow, standIns := [], harness := (true, "7c6d6e8b62eec391a7cfa7bf7f9e543e722f40b9e9782902cea4bcb38d923ccf"), looks := false }, kinds := [], alts := [], laidByText := true, laidKinds := [.funcs], laidTests := true, laidLooks := .later }
def ExtractTrimsUptoCardSaid : Prop := Claim7.holds Tryz.pinned (.plain (OpenSpec.upto extractTrimsSpec)) extractTrimsUptoCard

/-- THE SECOND FORM's CARD OF 'wittinglaw51.ExtractLemmas'. -/
def extractLemmasUptoCard : Claim7 := { stood := { row := extractLemmasUptoRow, standIns := [], harness := (true, "7c6d6e8b62eec391a7cfa7bf7f9e543e722f40b9e9782902cea4bcb38d923ccf"), looks := false }, kinds := [], alts := [], laidByText := true, laidKinds := [.funcs], laidTests := true, laidLooks := .later }
def ExtractLemmasUptoCardSaid : Prop := Claim7.holds Tryz.pinned (.plain (OpenSpec.upto extractLemmasSpec)) extractLemmasUptoCard

/-- THE SECOND FORM's CARD OF 'wittinglaw51.ExtractProofs'. -/
def extractProofsUptoCard : Claim7 := { stood := { row := extractProofsUptoRow, standIns := [], harness := (true, "7c6d6e8b62eec391a7cfa7bf7f9e543e722f40b9e9782902cea4bcb38d923ccf"), looks := false }, kinds := [], alts := [], laidByText := true, laidKinds := [.funcs], laidTests := true, laidLooks := .later }
def ExtractProofsUptoCardSaid : Prop := Claim7.holds Tryz.pinned (.plain (OpenSpec.upto extractProofsSpec)) extractProofsUptoCard

/-- THE SECOND FORM's CARD OF 'wittinglaw51.ExtractLess'. -/
def extractLessUptoCard : Claim7 := { stood := { row := extractLessUptoRow, standIns := [], harness := (true, "7c6d6e8b62eec391a7cfa7bf7f9e543e722f40b9e9782902cea4bcb38d923ccf"), looks := false }, kinds := [], alts := [], laidByText := true, laidKinds := [.funcs], laidTests := true, laidLooks := .later }
def ExtractLessUptoCardSaid : Prop := Claim7.holds Tryz.pinned (.plain (OpenSpec.upto extractLessSpec)) extractLessUptoCard

/-- THE SECOND FORM's CARD OF 'wittinglaw51.ExtractOpposites'. -/
def extractOppositesUptoCard : Claim7 := { stood := { row := extractOppositesUptoRow, standIns := [], harness := (true, "7c6d6e8b62eec391a7cfa7bf7f9e543e722f40b9e9782902cea4bcb38d923ccf"), looks := false }, kinds := [], alts := [], laidByText := true, laidKinds := [.funcs], laidTests := true, laidLooks := .later }
def ExtractOppositesUptoCardSaid : Prop := Claim7.holds Tryz.pinned (.plain (OpenSpec.upto extractOppositesSpec)) extractOppositesUptoCard

/-- THE SECOND FORM's CARD OF 'wittinglaw51.ExtractNeeds'. -/
def extractNeedsUptoCard : Claim7 := { stood := { row := extractNeedsUptoRow, standIns := [], harness := (true, "7c6d6e8b62eec391a7cfa7bf7f9e543e722f40b9e9782902cea4bcb38d923ccf"), looks := false }, kinds := [], alts := [], laidByText := true, laidKinds := [.funcs], laidTests := true, laidLooks := .later }
def ExtractNeedsUptoCardSaid : Prop := Claim7.holds Tryz.pinned (.plain (OpenSpec.upto extractNeedsSpec)) extractNeedsUptoCard

/-- THE SECOND FORM's CARD OF 'wittinglaw51.ExtractAccepted'. -/
def extractAcceptedUptoCard : Claim7 := { stood := { row := extractAcceptedUptoRow, standIns := [], harness := (true, "7c6d6e8b62eec391a7cfa7bf7f9e543e722f40b9e9782902cea4bcb38d923ccf"), looks := false }, kinds := [], alts := [], laidByText := true, laidKinds := [.funcs], laidTests := true, laidLooks := .later }
def ExtractAcceptedUptoCardSaid : Prop := Claim7.holds Tryz.pinned (.plain (OpenSpec.upto extractAcceptedSpec)) extractAcceptedUptoCard
end Rows
end Go.Proofs.YtnfmegcknckahaaGreatDoor
