/-
  DERIVED. GIVEN WITH THE SEED: THE CARDS: each row of YtbjopkllkoomkaaDoorRows.lean that lists a variable, with what it lists TIED to the program's text (the seventh form; the later family's looks); each row that meets fmt, with fmt's text TOLD by the authors' own Lean function (tested against real Go, not proved from fmt's source: count such statements apart). THE CARD IS WHAT COUNTS. Prove the row's statement (the work); the ties are given (YtbjopkllkoomkaaDoorTie.lean); close each card by the builder's one call (the guide's Derived/Test/ToyasCard.lean, 'card_holds'). Laid BY PROGRAM, IN A SANDBOX (cutbox-door.mjs). By AI agents, Wed Nov 11 2026. No macro, syntax, notation, axiom, sorry.
-/
import Derived.Test.YtbjopkllkoomkaaDoorRows
import GoSem.ClaimSeven
namespace Go.Proofs.YtbjopkllkoomkaaDoor
namespace Rows

/-- THE TIED CARD OF 'wittinglaw15.FramesAxioms'. -/
def framesAxiomsCard : Claim7 := { stood := { row := framesAxiomsRow, standIns := [], harness := (true, "9d2eb9e5964be22eb8453f3e1b84ff737c535231b31cfbf8298bcae419f79b45"), looks := false }, kinds := [], alts := [], laidByText := true, laidKinds := [.data], laidTests := true, laidLooks := .later }
def FramesAxiomsCardSaid : Prop := Claim7.holds Tryd.pinned (.plain (OpenSpec.ofChange framesAxiomsSpec)) framesAxiomsCard

/-- THE TIED CARD OF 'wittinglaw15.FramesShows'. -/
def framesShowsCard : Claim7 := { stood := { row := framesShowsRow, standIns := [], harness := (true, "9d2eb9e5964be22eb8453f3e1b84ff737c535231b31cfbf8298bcae419f79b45"), looks := false }, kinds := [], alts := [], laidByText := true, laidKinds := [.data], laidTests := true, laidLooks := .later }
def FramesShowsCardSaid : Prop := Claim7.holds Tryd.pinned (.plain (OpenSpec.ofChange framesShowsSpec)) framesShowsCard

/-- THE SECOND FORM's CARD OF 'wittinglaw15.FramesAxioms'. -/
def framesAxiomsUptoCard : Claim7 := { stood := { row := framesAxiomsUptoRow, standIns := [], harness := (true, "9d2eb9e5964be22eb8453f3e1b84ff737c535231b31cfbf8298bcae419f79b45"), looks := false }, kinds := [], alts := [], laidByText := true, laidKinds := [.data], laidTests := true, laidLooks := .later }
def FramesAxiomsUptoCardSaid : Prop := Claim7.holds Tryd.pinned (.plain (OpenSpec.upto framesAxiomsSpec)) framesAxiomsUptoCard

/-- THE SECOND FORM's CARD OF 'wittinglaw15.FramesShows'. -/
def framesShowsUptoCard : Claim7 := { stood := { row := framesShowsUptoRow, standIns := [], harness := (true, "9d2eb9e5964be22eb8453f3e1b84ff737c535231b31cfbf8298bcae419f79b45"), looks := false }, kinds := [], alts := [], laidByText := true, laidKinds := [.data], laidTests := true, laidLooks := .later }
def FramesShowsUptoCardSaid : Prop := Claim7.holds Tryd.pinned (.plain (OpenSpec.upto framesShowsSpec)) framesShowsUptoCard
end Rows
end Go.Proofs.YtbjopkllkoomkaaDoor
