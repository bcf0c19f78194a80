/-
  DERIVED. GIVEN WITH THE SEED: THE CARDS: each row of YtoiafcoaeomnlaaDoorRows.lean that lists a variable, with what it lists TIED to the program's text (the seventh form; the later family's looks); each row that meets fmt, with fmt's text TOLD by the authors' own Lean function (tested against real Go, not proved from fmt's source: count such statements apart). THE CARD IS WHAT COUNTS. Prove the row's statement (the work); the ties are given (YtoiafcoaeomnlaaDoorTie.lean); close each card by the builder's one call (the guide's Derived/Test/ToyasCard.lean, 'card_holds'). Laid BY PROGRAM, IN A SANDBOX (cutbox-door.mjs). By AI agents, Wed Nov 11 2026. No macro, syntax, notation, axiom, sorry.
-/
import Derived.Test.YtoiafcoaeomnlaaDoorRows
import GoSem.ClaimSeven
namespace Go.Proofs.YtoiafcoaeomnlaaDoor
namespace Rows

/-- THE TIED CARD OF 'wittinglaw02.RelationChecks'. -/
def relationChecksCard : Claim7 := { stood := { row := relationChecksRow, standIns := [], harness := (true, "46591c4af33484dc9bf1d8d9d54c523421315ab885b89f3713062cc7d823908a"), looks := false }, kinds := [], alts := [], laidByText := true, laidKinds := [.data], laidTests := true, laidLooks := .later }
def RelationChecksCardSaid : Prop := Claim7.holds Tryd.pinned (.plain (OpenSpec.ofChange relationChecksSpec)) relationChecksCard

/-- THE TIED CARD OF 'wittinglaw02.RelationLooks'. -/
def relationLooksCard : Claim7 := { stood := { row := relationLooksRow, standIns := [], harness := (true, "46591c4af33484dc9bf1d8d9d54c523421315ab885b89f3713062cc7d823908a"), looks := false }, kinds := [], alts := [], laidByText := true, laidKinds := [.data], laidTests := true, laidLooks := .later }
def RelationLooksCardSaid : Prop := Claim7.holds Tryd.pinned (.plain (OpenSpec.ofChange relationLooksSpec)) relationLooksCard

/-- THE TIED CARD OF 'wittinglaw02.RelationPaths'. -/
def relationPathsCard : Claim7 := { stood := { row := relationPathsRow, standIns := [], harness := (true, "46591c4af33484dc9bf1d8d9d54c523421315ab885b89f3713062cc7d823908a"), looks := false }, kinds := [], alts := [], laidByText := true, laidKinds := [.data], laidTests := true, laidLooks := .later }
def RelationPathsCardSaid : Prop := Claim7.holds Tryd.pinned (.plain (OpenSpec.ofChange relationPathsSpec)) relationPathsCard

/-- THE TIED CARD OF 'wittinglaw02.RelationSteps'. -/
def relationStepsCard : Claim7 := { stood := { row := relationStepsRow, standIns := [], harness := (true, "46591c4af33484dc9bf1d8d9d54c523421315ab885b89f3713062cc7d823908a"), looks := false }, kinds := [], alts := [], laidByText := true, laidKinds := [.data], laidTests := true, laidLooks := .later }
def RelationStepsCardSaid : Prop := Claim7.holds Tryd.pinned (.plain (OpenSpec.ofChange relationStepsSpec)) relationStepsCard

/-- THE TIED CARD OF 'wittinglaw02.RelationDuals'. -/
def relationDualsCard : Claim7 := { stood := { row := relationDualsRow, standIns := [], harness := (true, "46591c4af33484dc9bf1d8d9d54c523421315ab885b89f3713062cc7d823908a"), looks := false }, kinds := [], alts := [], laidByText := true, laidKinds := [.data], laidTests := true, laidLooks := .later }
def RelationDualsCardSaid : Prop := Claim7.holds Tryd.pinned (.plain (OpenSpec.ofChange relationDualsSpec)) relationDualsCard

/-- THE TIED CARD OF 'wittinglaw02.RelationOrders'. -/
def relationOrdersCard : Claim7 := { stood := { row := relationOrdersRow, standIns := [], harness := (true, "46591c4af33484dc9bf1d8d9d54c523421315ab885b89f3713062cc7d823908a"), looks := false }, kinds := [], alts := [], laidByText := true, laidKinds := [.data], laidTests := true, laidLooks := .later }
def RelationOrdersCardSaid : Prop := Claim7.holds Tryd.pinned (.plain (OpenSpec.ofChange relationOrdersSpec)) relationOrdersCard

/-- THE TIED CARD OF 'wittinglaw02.RelationCloses'. -/
def relationClosesCard : Claim7 := { stood := { row := relationClosesRow, standIns := [], harness := (true, "46591c4af33484dc9bf1d8d9d54c523421315ab885b89f3713062cc7d823908a"), looks := false }, kinds := [], alts := [], laidByText := true, laidKinds := [.data], laidTests := true, laidLooks := .later }
def RelationClosesCardSaid : Prop := Claim7.holds Tryd.pinned (.plain (OpenSpec.ofChange relationClosesSpec)) relationClosesCard

/-- THE TIED CARD OF 'wittinglaw02.RelationLeast'. -/
def relationLeastCard : Claim7 := { stood := { row := relationLeastRow, standIns := [], harness := (true, "46591c4af33484dc9bf1d8d9d54c523421315ab885b89f3713062cc7d823908a"), looks := false }, kinds := [], alts := [], laidByText := true, laidKinds := [.data], laidTests := true, laidLooks := .later }
def RelationLeastCardSaid : Prop := Claim7.holds Tryd.pinned (.plain (OpenSpec.ofChange relationLeastSpec)) relationLeastCard

/-- THE TIED CARD OF 'wittinglaw02.RelationJoins'. -/
def relationJoinsCard : Claim7 := { stood := { row := relationJoinsRow, standIns := [], harness := (true, "46591c4af33484dc9bf1d8d9d54c523421315ab885b89f3713062cc7d823908a"), looks := false }, kinds := [], alts := [], laidByText := true, laidKinds := [.data], laidTests := true, laidLooks := .later }
def RelationJoinsCardSaid : Prop := Claim7.holds Tryd.pinned (.plain (OpenSpec.ofChange relationJoinsSpec)) relationJoinsCard

/-- THE SECOND FORM's CARD OF 'wittinglaw02.RelationChecks'. -/
def relationChecksUptoCard : Claim7 := { stood := { row := relationChecksUptoRow, standIns := [], harness := (true, "46591c4af33484dc9bf1d8d9d54c523421315ab885b89f3713062cc7d823908a"), looks := false }, kinds := [], alts := [], laidByText := true, laidKinds := [.data], laidTests := true, laidLooks := .later }
def RelationChecksUptoCardSaid : Prop := Claim7.holds Tryd.pinned (.plain (OpenSpec.upto relationChecksSpec)) relationChecksUptoCard

/-- THE SECOND FORM's CARD OF 'wittinglaw02.RelationLooks'. -/
def relationLooksUptoCard : Claim7 := { stood := { row := relationLooksUptoRow, standIns := [], harness := (true, "46591c4af33484dc9bf1d8d9d54c523421315ab885b89f3713062cc7d823908a"), looks := false }, kinds := [], alts := [], laidByText := true, laidKinds := [.data], laidTests := true, laidLooks := .later }
def RelationLooksUptoCardSaid : Prop := Claim7.holds Tryd.pinned (.plain (OpenSpec.upto relationLooksSpec)) relationLooksUptoCard

/-- THE SECOND FORM's CARD OF 'wittinglaw02.RelationPaths'. -/
def relationPathsUptoCard : Claim7 := { stood := { row := relationPathsUptoRow, standIns := [], harness := (true, "46591c4af33484dc9bf1d8d9d54c523421315ab885b89f3713062cc7d823908a"), looks := false }, kinds := [], alts := [], laidByText := true, laidKinds := [.data], laidTests := true, laidLooks := .later }
def RelationPathsUptoCardSaid : Prop := Claim7.holds Tryd.pinned (.plain (OpenSpec.upto relationPathsSpec)) relationPathsUptoCard

/-- THE SECOND FORM's CARD OF 'wittinglaw02.RelationSteps'. -/
def relationStepsUptoCard : Claim7 := { stood := { row := relationStepsUptoRow, standIns := [], harness := (true, "46591c4af33484dc9bf1d8d9d54c523421315ab885b89f3713062cc7d823908a"), looks := false }, kinds := [], alts := [], laidByText := true, laidKinds := [.data], laidTests := true, laidLooks := .later }
def RelationStepsUptoCardSaid : Prop := Claim7.holds Tryd.pinned (.plain (OpenSpec.upto relationStepsSpec)) relationStepsUptoCard

/-- THE SECOND FORM's CARD OF 'wittinglaw02.RelationDuals'. -/
def relationDualsUptoCard : Claim7 := { stood := { row := relationDualsUptoRow, standIns := [], harness := (true, "46591c4af33484dc9bf1d8d9d54c523421315ab885b89f3713062cc7d823908a"), looks := false }, kinds := [], alts := [], laidByText := true, laidKinds := [.data], laidTests := true, laidLooks := .later }
def RelationDualsUptoCardSaid : Prop := Claim7.holds Tryd.pinned (.plain (OpenSpec.upto relationDualsSpec)) relationDualsUptoCard

/-- THE SECOND FORM's CARD OF 'wittinglaw02.RelationOrders'. -/
def relationOrdersUptoCard : Claim7 := { stood := { row := relationOrdersUptoRow, standIns := [], harness := (true, "46591c4af33484dc9bf1d8d9d54c523421315ab885b89f3713062cc7d823908a"), looks := false }, kinds := [], alts := [], laidByText := true, laidKinds := [.data], laidTests := true, laidLooks := .later }
def RelationOrdersUptoCardSaid : Prop := Claim7.holds Tryd.pinned (.plain (OpenSpec.upto relationOrdersSpec)) relationOrdersUptoCard

/-- THE SECOND FORM's CARD OF 'wittinglaw02.RelationCloses'. -/
def relationClosesUptoCard : Claim7 := { stood := { row := relationClosesUptoRow, standIns := [], harness := (true, "46591c4af33484dc9bf1d8d9d54c523421315ab885b89f3713062cc7d823908a"), looks := false }, kinds := [], alts := [], laidByText := true, laidKinds := [.data], laidTests := true, laidLooks := .later }
def RelationClosesUptoCardSaid : Prop := Claim7.holds Tryd.pinned (.plain (OpenSpec.upto relationClosesSpec)) relationClosesUptoCard

/-- THE SECOND FORM's CARD OF 'wittinglaw02.RelationLeast'. -/
def relationLeastUptoCard : Claim7 := { stood := { row := relationLeastUptoRow, standIns := [], harness := (true, "46591c4af33484dc9bf1d8d9d54c523421315ab885b89f3713062cc7d823908a"), looks := false }, kinds := [], alts := [], laidByText := true, laidKinds := [.data], laidTests := true, laidLooks := .later }
def RelationLeastUptoCardSaid : Prop := Claim7.holds Tryd.pinned (.plain (OpenSpec.upto relationLeastSpec)) relationLeastUptoCard

/-- THE SECOND FORM's CARD OF 'wittinglaw02.RelationJoins'. -/
def relationJoinsUptoCard : Claim7 := { stood := { row := relationJoinsUptoRow, standIns := [], harness := (true, "46591c4af33484dc9bf1d8d9d54c523421315ab885b89f3713062cc7d823908a"), looks := false }, kinds := [], alts := [], laidByText := true, laidKinds := [.data], laidTests := true, laidLooks := .later }
def RelationJoinsUptoCardSaid : Prop := Claim7.holds Tryd.pinned (.plain (OpenSpec.upto relationJoinsSpec)) relationJoinsUptoCard
end Rows
end Go.Proofs.YtoiafcoaeomnlaaDoor
