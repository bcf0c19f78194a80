/-
  DERIVED. GIVEN WITH THE SEED: THE CARDS: each row of YtpifbcbdbkbbjaaDoorRows.lean that lists a variable, with what it lists TIED to the program's text (the seventh form; the later family's looks); each row that meets fmt, with fmt's text TOLD by the authors' own Lean function (tested against real Go, not proved from fmt's source: count such statements apart). THE CARD IS WHAT COUNTS. Prove the row's statement (the work); the ties are given (YtpifbcbdbkbbjaaDoorTie.lean); close each card by the builder's one call (the guide's Derived/Test/ToyasCard.lean, 'card_holds'). Laid BY PROGRAM, IN A SANDBOX (cutbox-door.mjs). By AI agents, Wed Nov 11 2026. No macro, syntax, notation, axiom, sorry.
-/
import Derived.Test.YtpifbcbdbkbbjaaDoorRows
import GoSem.ClaimSeven
namespace Go.Proofs.YtpifbcbdbkbbjaaDoor
namespace Rows

/-- THE TIED CARD OF 'wittinglaw19.BisimRounds'. -/
def bisimRoundsCard : Claim7 := { stood := { row := bisimRoundsRow, standIns := [], harness := (true, "4a636a12733bb545daef8063f2e6c4ee5847aa4b4b33815eee0892be65b495ea"), looks := false }, kinds := [], alts := [], laidByText := true, laidKinds := [.data, .data, .data], laidTests := true, laidLooks := .later }
def BisimRoundsCardSaid : Prop := Claim7.holds Tryd.pinned (.plain (OpenSpec.ofChange bisimRoundsSpec)) bisimRoundsCard

/-- THE TIED CARD OF 'wittinglaw19.BisimChecks'. -/
def bisimChecksCard : Claim7 := { stood := { row := bisimChecksRow, standIns := [], harness := (true, "4a636a12733bb545daef8063f2e6c4ee5847aa4b4b33815eee0892be65b495ea"), looks := false }, kinds := [], alts := [], laidByText := true, laidKinds := [.data, .data, .data], laidTests := true, laidLooks := .later }
def BisimChecksCardSaid : Prop := Claim7.holds Tryd.pinned (.plain (OpenSpec.ofChange bisimChecksSpec)) bisimChecksCard

/-- THE TIED CARD OF 'wittinglaw19.BisimBetween'. -/
def bisimBetweenCard : Claim7 := { stood := { row := bisimBetweenRow, standIns := [], harness := (true, "4a636a12733bb545daef8063f2e6c4ee5847aa4b4b33815eee0892be65b495ea"), looks := false }, kinds := [], alts := [], laidByText := true, laidKinds := [.data, .data, .data], laidTests := true, laidLooks := .later }
def BisimBetweenCardSaid : Prop := Claim7.holds Tryd.pinned (.plain (OpenSpec.ofChange bisimBetweenSpec)) bisimBetweenCard

/-- THE TIED CARD OF 'wittinglaw19.BisimGreatest'. -/
def bisimGreatestCard : Claim7 := { stood := { row := bisimGreatestRow, standIns := [], harness := (true, "4a636a12733bb545daef8063f2e6c4ee5847aa4b4b33815eee0892be65b495ea"), looks := false }, kinds := [], alts := [], laidByText := true, laidKinds := [.data, .data, .data], laidTests := true, laidLooks := .later }
def BisimGreatestCardSaid : Prop := Claim7.holds Tryd.pinned (.plain (OpenSpec.ofChange bisimGreatestSpec)) bisimGreatestCard

/-- THE TIED CARD OF 'wittinglaw19.BisimSelf'. -/
def bisimSelfCard : Claim7 := { stood := { row := bisimSelfRow, standIns := [], harness := (true, "4a636a12733bb545daef8063f2e6c4ee5847aa4b4b33815eee0892be65b495ea"), looks := false }, kinds := [], alts := [], laidByText := true, laidKinds := [.data, .data, .data], laidTests := true, laidLooks := .later }
def BisimSelfCardSaid : Prop := Claim7.holds Tryd.pinned (.plain (OpenSpec.ofChange bisimSelfSpec)) bisimSelfCard

/-- THE TIED CARD OF 'wittinglaw19.BisimEnds'. -/
def bisimEndsCard : Claim7 := { stood := { row := bisimEndsRow, standIns := [], harness := (true, "4a636a12733bb545daef8063f2e6c4ee5847aa4b4b33815eee0892be65b495ea"), looks := false }, kinds := [], alts := [], laidByText := true, laidKinds := [.data, .data, .data], laidTests := true, laidLooks := .later }
def BisimEndsCardSaid : Prop := Claim7.holds Tryd.pinned (.plain (OpenSpec.ofChange bisimEndsSpec)) bisimEndsCard

/-- THE TIED CARD OF 'wittinglaw19.BisimGroups'. -/
def bisimGroupsCard : Claim7 := { stood := { row := bisimGroupsRow, standIns := [], harness := (true, "4a636a12733bb545daef8063f2e6c4ee5847aa4b4b33815eee0892be65b495ea"), looks := false }, kinds := [], alts := [], laidByText := true, laidKinds := [.data, .data, .data], laidTests := true, laidLooks := .later }
def BisimGroupsCardSaid : Prop := Claim7.holds Tryd.pinned (.plain (OpenSpec.ofChange bisimGroupsSpec)) bisimGroupsCard

/-- THE SECOND FORM's CARD OF 'wittinglaw19.BisimRounds'. -/
def bisimRoundsUptoCard : Claim7 := { stood := { row := bisimRoundsUptoRow, standIns := [], harness := (true, "4a636a12733bb545daef8063f2e6c4ee5847aa4b4b33815eee0892be65b495ea"), looks := false }, kinds := [], alts := [], laidByText := true, laidKinds := [.data, .data, .data], laidTests := true, laidLooks := .later }
def BisimRoundsUptoCardSaid : Prop := Claim7.holds Tryd.pinned (.plain (OpenSpec.upto bisimRoundsSpec)) bisimRoundsUptoCard

/-- THE SECOND FORM's CARD OF 'wittinglaw19.BisimChecks'. -/
def bisimChecksUptoCard : Claim7 := { stood := { row := bisimChecksUptoRow, standIns := [], harness := (true, "4a636a12733bb545daef8063f2e6c4ee5847aa4b4b33815eee0892be65b495ea"), looks := false }, kinds := [], alts := [], laidByText := true, laidKinds := [.data, .data, .data], laidTests := true, laidLooks := .later }
def BisimChecksUptoCardSaid : Prop := Claim7.holds Tryd.pinned (.plain (OpenSpec.upto bisimChecksSpec)) bisimChecksUptoCard

/-- THE SECOND FORM's CARD OF 'wittinglaw19.BisimBetween'. -/
def bisimBetweenUptoCard : Claim7 := { stood := { row := bisimBetweenUptoRow, standIns := [], harness := (true, "4a636a12733bb545daef8063f2e6c4ee5847aa4b4b33815eee0892be65b495ea"), looks := false }, kinds := [], alts := [], laidByText := true, laidKinds := [.data, .data, .data], laidTests := true, laidLooks := .later }
def BisimBetweenUptoCardSaid : Prop := Claim7.holds Tryd.pinned (.plain (OpenSpec.upto bisimBetweenSpec)) bisimBetweenUptoCard

/-- THE SECOND FORM's CARD OF 'wittinglaw19.BisimGreatest'. -/
def bisimGreatestUptoCard : Claim7 := { stood := { row := bisimGreatestUptoRow, standIns := [], harness := (true, "4a636a12733bb545daef8063f2e6c4ee5847aa4b4b33815eee0892be65b495ea"), looks := false }, kinds := [], alts := [], laidByText := true, laidKinds := [.data, .data, .data], laidTests := true, laidLooks := .later }
def BisimGreatestUptoCardSaid : Prop := Claim7.holds Tryd.pinned (.plain (OpenSpec.upto bisimGreatestSpec)) bisimGreatestUptoCard

/-- THE SECOND FORM's CARD OF 'wittinglaw19.BisimSelf'. -/
def bisimSelfUptoCard : Claim7 := { stood := { row := bisimSelfUptoRow, standIns := [], harness := (true, "4a636a12733bb545daef8063f2e6c4ee5847aa4b4b33815eee0892be65b495ea"), looks := false }, kinds := [], alts := [], laidByText := true, laidKinds := [.data, .data, .data], laidTests := true, laidLooks := .later }
def BisimSelfUptoCardSaid : Prop := Claim7.holds Tryd.pinned (.plain (OpenSpec.upto bisimSelfSpec)) bisimSelfUptoCard

/-- THE SECOND FORM's CARD OF 'wittinglaw19.BisimEnds'. -/
def bisimEndsUptoCard : Claim7 := { stood := { row := bisimEndsUptoRow, standIns := [], harness := (true, "4a636a12733bb545daef8063f2e6c4ee5847aa4b4b33815eee0892be65b495ea"), looks := false }, kinds := [], alts := [], laidByText := true, laidKinds := [.data, .data, .data], laidTests := true, laidLooks := .later }
def BisimEndsUptoCardSaid : Prop := Claim7.holds Tryd.pinned (.plain (OpenSpec.upto bisimEndsSpec)) bisimEndsUptoCard

/-- THE SECOND FORM's CARD OF 'wittinglaw19.BisimGroups'. -/
def bisimGroupsUptoCard : Claim7 := { stood := { row := bisimGroupsUptoRow, standIns := [], harness := (true, "4a636a12733bb545daef8063f2e6c4ee5847aa4b4b33815eee0892be65b495ea"), looks := false }, kinds := [], alts := [], laidByText := true, laidKinds := [.data, .data, .data], laidTests := true, laidLooks := .later }
def BisimGroupsUptoCardSaid : Prop := Claim7.holds Tryd.pinned (.plain (OpenSpec.upto bisimGroupsSpec)) bisimGroupsUptoCard
end Rows
end Go.Proofs.YtpifbcbdbkbbjaaDoor
