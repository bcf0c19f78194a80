/-
  DERIVED. GIVEN WITH THE SEED: THE CARDS: each row of YtcljmlnnfdaljaaDoorRows.lean that lists a variable, with what it lists TIED to the program's text (the seventh form; the later family's looks); each row that meets fmt, with fmt's text TOLD by the authors' own Lean function (tested against real Go, not proved from fmt's source: count such statements apart). THE CARD IS WHAT COUNTS. Prove the row's statement (the work); the ties are given (YtcljmlnnfdaljaaDoorTie.lean); close each card by the builder's one call (the guide's Derived/Test/ToyasCard.lean, 'card_holds'). Laid BY PROGRAM, IN A SANDBOX (cutbox-door.mjs). By AI agents, Wed Nov 11 2026. No macro, syntax, notation, axiom, sorry.
-/
import Derived.Test.YtcljmlnnfdaljaaDoorRows
import GoSem.ClaimSeven
namespace Go.Proofs.YtcljmlnnfdaljaaDoor
namespace Rows

/-- THE TIED CARD OF 'wittinglaw19.BisimSatisfies'. -/
def bisimSatisfiesCard : Claim7 := { stood := { row := bisimSatisfiesRow, standIns := [], harness := (true, "09517de67b3eb7a162bfd23cb3f78226d2bdea8f89d2b172f9af6e5be6f5efda"), looks := false }, kinds := [], alts := [], laidByText := true, laidKinds := [.data, .data, .data], laidTests := true, laidLooks := .later }
def BisimSatisfiesCardSaid : Prop := Claim7.holds Tryd.pinned (.plain (OpenSpec.ofChange bisimSatisfiesSpec)) bisimSatisfiesCard

/-- THE TIED CARD OF 'wittinglaw19.BisimDist'. -/
def bisimDistCard : Claim7 := { stood := { row := bisimDistRow, standIns := [], harness := (true, "09517de67b3eb7a162bfd23cb3f78226d2bdea8f89d2b172f9af6e5be6f5efda"), looks := false }, kinds := [], alts := [], laidByText := true, laidKinds := [.data, .data, .data], laidTests := true, laidLooks := .later }
def BisimDistCardSaid : Prop := Claim7.holds Tryd.pinned (.plain (OpenSpec.ofChange bisimDistSpec)) bisimDistCard

/-- THE TIED CARD OF 'wittinglaw21.DistinguishDivides'. -/
def distinguishDividesCard : Claim7 := { stood := { row := distinguishDividesRow, standIns := [], harness := (true, "09517de67b3eb7a162bfd23cb3f78226d2bdea8f89d2b172f9af6e5be6f5efda"), looks := false }, kinds := [], alts := [], laidByText := true, laidKinds := [.data, .data, .data], laidTests := true, laidLooks := .later }
def DistinguishDividesCardSaid : Prop := Claim7.holds Tryd.pinned (.plain (OpenSpec.ofChange distinguishDividesSpec)) distinguishDividesCard

/-- THE TIED CARD OF 'wittinglaw21.DistinguishFacts'. -/
def distinguishFactsCard : Claim7 := { stood := { row := distinguishFactsRow, standIns := [], harness := (true, "09517de67b3eb7a162bfd23cb3f78226d2bdea8f89d2b172f9af6e5be6f5efda"), looks := false }, kinds := [], alts := [], laidByText := true, laidKinds := [.data, .data, .data], laidTests := true, laidLooks := .later }
def DistinguishFactsCardSaid : Prop := Claim7.holds Tryd.pinned (.plain (OpenSpec.ofChange distinguishFactsSpec)) distinguishFactsCard

/-- THE SECOND FORM's CARD OF 'wittinglaw19.BisimSatisfies'. -/
def bisimSatisfiesUptoCard : Claim7 := { stood := { row := bisimSatisfiesUptoRow, standIns := [], harness := (true, "09517de67b3eb7a162bfd23cb3f78226d2bdea8f89d2b172f9af6e5be6f5efda"), looks := false }, kinds := [], alts := [], laidByText := true, laidKinds := [.data, .data, .data], laidTests := true, laidLooks := .later }
def BisimSatisfiesUptoCardSaid : Prop := Claim7.holds Tryd.pinned (.plain (OpenSpec.upto bisimSatisfiesSpec)) bisimSatisfiesUptoCard

/-- THE SECOND FORM's CARD OF 'wittinglaw19.BisimDist'. -/
def bisimDistUptoCard : Claim7 := { stood := { row := bisimDistUptoRow, standIns := [], harness := (true, "09517de67b3eb7a162bfd23cb3f78226d2bdea8f89d2b172f9af6e5be6f5efda"), looks := false }, kinds := [], alts := [], laidByText := true, laidKinds := [.data, .data, .data], laidTests := true, laidLooks := .later }
def BisimDistUptoCardSaid : Prop := Claim7.holds Tryd.pinned (.plain (OpenSpec.upto bisimDistSpec)) bisimDistUptoCard

/-- THE SECOND FORM's CARD OF 'wittinglaw21.DistinguishDivides'. -/
def distinguishDividesUptoCard : Claim7 := { stood := { row := distinguishDividesUptoRow, standIns := [], harness := (true, "09517de67b3eb7a162bfd23cb3f78226d2bdea8f89d2b172f9af6e5be6f5efda"), looks := false }, kinds := [], alts := [], laidByText := true, laidKinds := [.data, .data, .data], laidTests := true, laidLooks := .later }
def DistinguishDividesUptoCardSaid : Prop := Claim7.holds Tryd.pinned (.plain (OpenSpec.upto distinguishDividesSpec)) distinguishDividesUptoCard

/-- THE SECOND FORM's CARD OF 'wittinglaw21.DistinguishFacts'. -/
def distinguishFactsUptoCard : Claim7 := { stood := { row := distinguishFactsUptoRow, standIns := [], harness := (true, "09517de67b3eb7a162bfd23cb3f78226d2bdea8f89d2b172f9af6e5be6f5efda"), looks := false }, kinds := [], alts := [], laidByText := true, laidKinds := [.data, .data, .data], laidTests := true, laidLooks := .later }
def DistinguishFactsUptoCardSaid : Prop := Claim7.holds Tryd.pinned (.plain (OpenSpec.upto distinguishFactsSpec)) distinguishFactsUptoCard
end Rows
end Go.Proofs.YtcljmlnnfdaljaaDoor
