/-
  DERIVED. GIVEN WITH THE SEED: THE CARDS: each row of YthojdcaojjmoaaaDoorRows.lean that lists a variable, with what it lists TIED to the program's text (the seventh form; the later family's looks); each row that meets fmt, with fmt's text TOLD by the authors' own Lean function (tested against real Go, not proved from fmt's source: count such statements apart). THE CARD IS WHAT COUNTS. Prove the row's statement (the work); the ties are given (YthojdcaojjmoaaaDoorTie.lean); close each card by the builder's one call (the guide's Derived/Test/ToyasCard.lean, 'card_holds'). Laid BY PROGRAM, IN A SANDBOX (cutbox-door.mjs). By AI agents, Wed Nov 11 2026. No macro, syntax, notation, axiom, sorry.
-/
import Derived.Test.YthojdcaojjmoaaaDoorRows
import GoSem.ClaimSeven
namespace Go.Proofs.YthojdcaojjmoaaaDoor
namespace Rows

/-- THE TIED CARD OF 'wittingtop.TopFilterCoarser'. -/
def topFilterCoarserCard : Claim7 := { stood := { row := topFilterCoarserRow, standIns := [], harness := (true, "9cd2ac4a713ed65488f1d6f267cdbbb5f23af46170561876f798f3e2f51869c8"), looks := false }, kinds := [], alts := [], laidByText := true, laidKinds := [.data, .data, .data], laidTests := true, laidLooks := .later }
def TopFilterCoarserCardSaid : Prop := Claim7.holds Tryd.pinned (.plain (OpenSpec.ofChange topFilterCoarserSpec)) topFilterCoarserCard

/-- THE SECOND FORM's CARD OF 'wittingtop.TopFilterCoarser'. -/
def topFilterCoarserUptoCard : Claim7 := { stood := { row := topFilterCoarserUptoRow, standIns := [], harness := (true, "9cd2ac4a713ed65488f1d6f267cdbbb5f23af46170561876f798f3e2f51869c8"), looks := false }, kinds := [], alts := [], laidByText := true, laidKinds := [.data, .data, .data], laidTests := true, laidLooks := .later }
def TopFilterCoarserUptoCardSaid : Prop := Claim7.holds Tryd.pinned (.plain (OpenSpec.upto topFilterCoarserSpec)) topFilterCoarserUptoCard
end Rows
end Go.Proofs.YthojdcaojjmoaaaDoor
