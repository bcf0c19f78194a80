/-
  DERIVED. GIVEN WITH THE SEED: THE CARDS: each row of YtcljmlnnfdaljaaGreatDoorRows.lean that lists a variable, with what it lists TIED to the program's text (the seventh form; the later family's looks); each row that meets fmt, with fmt's text TOLD by the authors' own Lean function (tested against real Go, not proved from fmt's source: count such statements apart). THE CARD IS WHAT COUNTS. Prove the row's statement (the work); the ties are given (YtcljmlnnfdaljaaGreatDoorTie.lean); close each card by the builder's one call (the guide's Derived/Test/ToyasCard.lean, 'card_holds'). Laid BY PROGRAM, IN A SANDBOX (cutbox-door.mjs). By AI agents, Wed Nov 11 2026. No macro, syntax, notation, axiom, sorry.
-/
import Derived.Test.YtcljmlnnfdaljaaGreatDoorRows
import GoSem.ClaimSeven
namespace Go.Proofs.YtcljmlnnfdaljaaGreatDoor
namespace Rows

/-- THE TIED CARD OF 'wittinglaw21.DistinguishDepths'. -/
def distinguishDepthsCard : Claim7 := { stood := { row := distinguishDepthsRow, standIns := [], harness := (true, "875831b21c400277f0ad386ef69f60b7b120de02a5845869381509319d0f60ea"), looks := false }, kinds := [], alts := [], laidByText := true, laidKinds := [.data, .data, .data], laidTests := true, laidLooks := .later }
def DistinguishDepthsCardSaid : Prop := Claim7.holds Tryz.pinned (.plain (OpenSpec.ofChange distinguishDepthsSpec)) distinguishDepthsCard

/-- THE TIED CARD OF 'wittinglaw21.DistinguishFormulas'. -/
def distinguishFormulasCard : Claim7 := { stood := { row := distinguishFormulasRow, standIns := [], harness := (true, "875831b21c400277f0ad386ef69f60b7b120de02a5845869381509319d0f60ea"), looks := false }, kinds := [], alts := [], laidByText := true, laidKinds := [.data, .data, .data], laidTests := true, laidLooks := .later }
def DistinguishFormulasCardSaid : Prop := Claim7.holds Tryz.pinned (.plain (OpenSpec.ofChange distinguishFormulasSpec)) distinguishFormulasCard

/-- THE TIED CARD OF 'wittinglaw21.DistinguishClasses'. -/
def distinguishClassesCard : Claim7 := { stood := { row := distinguishClassesRow, standIns := [], harness := (true, "875831b21c400277f0ad386ef69f60b7b120de02a5845869381509319d0f60ea"), looks := false }, kinds := [], alts := [], laidByText := true, laidKinds := [.data, .data, .data], laidTests := true, laidLooks := .later }
def DistinguishClassesCardSaid : Prop := Claim7.holds Tryz.pinned (.plain (OpenSpec.ofChange distinguishClassesSpec)) distinguishClassesCard

/-- THE TIED CARD OF 'wittinglaw21.DistinguishLeast'. -/
def distinguishLeastCard : Claim7 := { stood := { row := distinguishLeastRow, standIns := [], harness := (true, "875831b21c400277f0ad386ef69f60b7b120de02a5845869381509319d0f60ea"), looks := false }, kinds := [], alts := [], laidByText := true, laidKinds := [.data, .data, .data], laidTests := true, laidLooks := .later }
def DistinguishLeastCardSaid : Prop := Claim7.holds Tryz.pinned (.plain (OpenSpec.ofChange distinguishLeastSpec)) distinguishLeastCard

/-- THE TIED CARD OF 'wittinglaw21.DistinguishBoth'. -/
def distinguishBothCard : Claim7 := { stood := { row := distinguishBothRow, standIns := [], harness := (true, "875831b21c400277f0ad386ef69f60b7b120de02a5845869381509319d0f60ea"), looks := false }, kinds := [], alts := [], laidByText := true, laidKinds := [.data, .data, .data], laidTests := true, laidLooks := .later }
def DistinguishBothCardSaid : Prop := Claim7.holds Tryz.pinned (.plain (OpenSpec.ofChange distinguishBothSpec)) distinguishBothCard

/-- THE SECOND FORM's CARD OF 'wittinglaw21.DistinguishDepths'. -/
def distinguishDepthsUptoCard : Claim7 := { stood := { row := distinguishDepthsUptoRow, standIns := [], harness := (true, "875831b21c400277f0ad386ef69f60b7b120de02a5845869381509319d0f60ea"), looks := false }, kinds := [], alts := [], laidByText := true, laidKinds := [.data, .data, .data], laidTests := true, laidLooks := .later }
def DistinguishDepthsUptoCardSaid : Prop := Claim7.holds Tryz.pinned (.plain (OpenSpec.upto distinguishDepthsSpec)) distinguishDepthsUptoCard

/-- THE SECOND FORM's CARD OF 'wittinglaw21.DistinguishFormulas'. -/
def distinguishFormulasUptoCard : Claim7 := { stood := { row := distinguishFormulasUptoRow, standIns := [], harness := (true, "875831b21c400277f0ad386ef69f60b7b120de02a5845869381509319d0f60ea"), looks := false }, kinds := [], alts := [], laidByText := true, laidKinds := [.data, .data, .data], laidTests := true, laidLooks := .later }
def DistinguishFormulasUptoCardSaid : Prop := Claim7.holds Tryz.pinned (.plain (OpenSpec.upto distinguishFormulasSpec)) distinguishFormulasUptoCard

/-- THE SECOND FORM's CARD OF 'wittinglaw21.DistinguishClasses'. -/
def distinguishClassesUptoCard : Claim7 := { stood := { row := distinguishClassesUptoRow, standIns := [], harness := (true, "875831b21c400277f0ad386ef69f60b7b120de02a5845869381509319d0f60ea"), looks := false }, kinds := [], alts := [], laidByText := true, laidKinds := [.data, .data, .data], laidTests := true, laidLooks := .later }
def DistinguishClassesUptoCardSaid : Prop := Claim7.holds Tryz.pinned (.plain (OpenSpec.upto distinguishClassesSpec)) distinguishClassesUptoCard

/-- THE SECOND FORM's CARD OF 'wittinglaw21.DistinguishLeast'. -/
def distinguishLeastUptoCard : Claim7 := { stood := { row := distinguishLeastUptoRow, standIns := [], harness := (true, "875831b21c400277f0ad386ef69f60b7b120de02a5845869381509319d0f60ea"), looks := false }, kinds := [], alts := [], laidByText := true, laidKinds := [.data, .data, .data], laidTests := true, laidLooks := .later }
def DistinguishLeastUptoCardSaid : Prop := Claim7.holds Tryz.pinned (.plain (OpenSpec.upto distinguishLeastSpec)) distinguishLeastUptoCard

/-- THE SECOND FORM's CARD OF 'wittinglaw21.DistinguishBoth'. -/
def distinguishBothUptoCard : Claim7 := { stood := { row := distinguishBothUptoRow, standIns := [], harness := (true, "875831b21c400277f0ad386ef69f60b7b120de02a5845869381509319d0f60ea"), looks := false }, kinds := [], alts := [], laidByText := true, laidKinds := [.data, .data, .data], laidTests := true, laidLooks := .later }
def DistinguishBothUptoCardSaid : Prop := Claim7.holds Tryz.pinned (.plain (OpenSpec.upto distinguishBothSpec)) distinguishBothUptoCard
end Rows
end Go.Proofs.YtcljmlnnfdaljaaGreatDoor
