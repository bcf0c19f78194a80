/-
  DERIVED. GIVEN WITH THE SEED: THE CARDS: each row of YtpbhoidjmpjfpaaGreatDoorRows.lean that lists a variable, with what it lists TIED to the program's text (the seventh form; the later family's looks); each row that meets fmt, with fmt's text TOLD by the authors' own Lean function (tested against real Go, not proved from fmt's source: count such statements apart). THE CARD IS WHAT COUNTS. Prove the row's statement (the work); the ties are given (YtpbhoidjmpjfpaaGreatDoorTie.lean); close each card by the builder's one call (the guide's Derived/Test/ToyasCard.lean, 'card_holds'). Laid BY PROGRAM, IN A SANDBOX (cutbox-door.mjs). By AI agents, Wed Nov 11 2026. No macro, syntax, notation, axiom, sorry.
-/
import Derived.Test.YtpbhoidjmpjfpaaGreatDoorRows
import GoSem.ClaimSeven
namespace Go.Proofs.YtpbhoidjmpjfpaaGreatDoor
namespace Rows

/-- THE TIED CARD OF 'wittingtop.TopExtracted'. -/
def topExtractedCard : Claim7 := { stood := { row := topExtractedRow, standIns := [], harness := (true, "9fccb4db1411cebe5681f02f29b7379d371fa8a03eee3f29298c99c040bbe7e1"), looks := false }, kinds := [], alts := [], laidByText := true, laidKinds := [.funcs], laidTests := true, laidLooks := .later }
def TopExtractedCardSaid : Prop := Claim7.holds Tryz.pinned (.plain (OpenSpec.ofChange topExtractedSpec)) topExtractedCard

/-- THE TIED CARD OF 'wittingtop.TopTrimmed'. -/
def topTrimmedCard : Claim7 := { stood := { row := topTrimmedRow, standIns := [], harness := (true, "9fccb4db1411cebe5681f02f29b7379d371fa8a03eee3f29298c99c040bbe7e1"), looks := false }, kinds := [], alts := [], laidByText := true, laidKinds := [.funcs], laidTests := true, laidLooks := .later }
def TopTrimmedCardSaid : Prop := Claim7.holds Tryz.pinned (.plain (OpenSpec.ofChange topTrimmedSpec)) topTrimmedCard

/-- THE TIED CARD OF 'wittingtop.TopProvedHolds'. -/
def topProvedHoldsCard : Claim7 := { stood := { row := topProvedHoldsRow, standIns := [], harness := (true, "9fccb4db1411cebe5681f02f29b7379d371fa8a03eee3f29298c99c040bbe7e1"), looks := false }, kinds := [], alts := [], laidByText := true, laidKinds := [.data, .funcs], laidTests := true, laidLooks := .later }
def TopProvedHoldsCardSaid : Prop := Claim7.holds Tryz.pinned (.plain (OpenSpec.ofChange topProvedHoldsSpec)) topProvedHoldsCard

/-- THE SECOND FORM's CARD OF 'wittingtop.TopExtracted'. -/
def topExtractedUptoCard : Claim7 := { stood := { row := topExtractedUptoRow, standIns := [], harness := (true, "9fccb4db1411cebe5681f02f29b7379d371fa8a03eee3f29298c99c040bbe7e1"), looks := false }, kinds := [], alts := [], laidByText := true, laidKinds := [.funcs], laidTests := true, laidLooks := .later }
def TopExtractedUptoCardSaid : Prop := Claim7.holds Tryz.pinned (.plain (OpenSpec.upto topExtractedSpec)) topExtractedUptoCard

/-- THE SECOND FORM's CARD OF 'wittingtop.TopTrimmed'. -/
def topTrimmedUptoCard : Claim7 := { stood := { row := topTrimmedUptoRow, standIns := [], harness := (true, "9fccb4db1411cebe5681f02f29b7379d371fa8a03eee3f29298c99c040bbe7e1"), looks := false }, kinds := [], alts := [], laidByText := true, laidKinds := [.funcs], laidTests := true, laidLooks := .later }
def TopTrimmedUptoCardSaid : Prop := Claim7.holds Tryz.pinned (.plain (OpenSpec.upto topTrimmedSpec)) topTrimmedUptoCard

/-- THE SECOND FORM's CARD OF 'wittingtop.TopProvedHolds'. -/
def topProvedHoldsUptoCard : Claim7 := { stood := { row := topProvedHoldsUptoRow, standIns := [], harness := (true, "9fccb4db1411cebe5681f02f29b7379d371fa8a03eee3f29298c99c040bbe7e1"), looks := false }, kinds := [], alts := [], laidByText := true, laidKinds := [.data, .funcs], laidTests := true, laidLooks := .later }
def TopProvedHoldsUptoCardSaid : Prop := Claim7.holds Tryz.pinned (.plain (OpenSpec.upto topProvedHoldsSpec)) topProvedHoldsUptoCard
end Rows
end Go.Proofs.YtpbhoidjmpjfpaaGreatDoor
