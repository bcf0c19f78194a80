/-
  DERIVED. GIVEN WITH THE SEED: THE CARDS: each row of YtchhieaagchhhaaGreatDoorRows.lean that lists a variable, with what it lists TIED to the program's text (the seventh form; the later family's looks); each row that meets fmt, with fmt's text TOLD by the authors' own Lean function (tested against real Go, not proved from fmt's source: count such statements apart). THE CARD IS WHAT COUNTS. Prove the row's statement (the work); the ties are given (YtchhieaagchhhaaGreatDoorTie.lean); close each card by the builder's one call (the guide's Derived/Test/ToyasCard.lean, 'card_holds'). Laid BY PROGRAM, IN A SANDBOX (cutbox-door.mjs). By AI agents, Wed Nov 11 2026. No macro, syntax, notation, axiom, sorry.
-/
import Derived.Test.YtchhieaagchhhaaGreatDoorRows
import GoSem.ClaimSeven
namespace Go.Proofs.YtchhieaagchhhaaGreatDoor
namespace Rows

/-- THE TIED CARD OF 'wittinglaw51.ExtractTrims'. -/
def extractTrimsCard : Claim7 := { stood := { row := extractTrimsRow, standIns := [], harness := (true, "587f2dc753f5b36989a2650f9ced785b55161dea2df4f75b3343ed83a77b02eb"), looks := false }, kinds := [], alts := [], laidByText := true, laidKinds := [.funcs], laidTests := true, laidLooks := .later }
def ExtractTrimsCardSaid : Prop := Claim7.holds Tryz.pinned (.plain (OpenSpec.ofChange extractTrimsSpec)) extractTrimsCard

/-- THE SECOND FORM's CARD OF 'wittinglaw51.ExtractTrims'. -/
def extractTrimsUptoCard : Claim7 := { stood := { row := extractTrimsUptoRow, standIns := [], harness := (true, "587f2dc753f5b36989a2650f9ced785b55161dea2df4f75b3343ed83a77b02eb"), looks := false }, kinds := [], alts := [], laidByText := true, laidKinds := [.funcs], laidTests := true, laidLooks := .later }
def ExtractTrimsUptoCardSaid : Prop := Claim7.holds Tryz.pinned (.plain (OpenSpec.upto extractTrimsSpec)) extractTrimsUptoCard
end Rows
end Go.Proofs.YtchhieaagchhhaaGreatDoor
