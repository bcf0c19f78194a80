/-
  DERIVED. GIVEN WITH THE SEED: THE CARDS: each row of YticlcpkcohdpfaaDoorRows.lean that lists a variable, with what it lists TIED to the program's text (the seventh form; the later family's looks); each row that meets fmt, with fmt's text TOLD by the authors' own Lean function (tested against real Go, not proved from fmt's source: count such statements apart). THE CARD IS WHAT COUNTS. Prove the row's statement (the work); the ties are given (YticlcpkcohdpfaaDoorTie.lean); close each card by the builder's one call (the guide's Derived/Test/ToyasCard.lean, 'card_holds'). Laid BY PROGRAM, IN A SANDBOX (cutbox-door.mjs). By AI agents, Wed Nov 11 2026. No macro, syntax, notation, axiom, sorry.
-/
import Derived.Test.YticlcpkcohdpfaaDoorRows
import GoSem.ClaimSeven
namespace Go.Proofs.YticlcpkcohdpfaaDoor
namespace Rows

/-- THE TIED CARD OF 'wittinglaw15.FramesCloses'. -/
def framesClosesCard : Claim7 := { stood := { row := framesClosesRow, standIns := [], harness := (true, "c29ec76155ffd4d51f1109fc5566a0c1c93ae98d2e057b43d8641e7c1846ec99"), looks := false }, kinds := [], alts := [], laidByText := true, laidKinds := [.data], laidTests := true, laidLooks := .later }
def FramesClosesCardSaid : Prop := Claim7.holds Tryd.pinned (.plain (OpenSpec.ofChange framesClosesSpec)) framesClosesCard

/-- THE TIED CARD OF 'wittinglaw15.FramesDefects'. -/
def framesDefectsCard : Claim7 := { stood := { row := framesDefectsRow, standIns := [], harness := (true, "c29ec76155ffd4d51f1109fc5566a0c1c93ae98d2e057b43d8641e7c1846ec99"), looks := false }, kinds := [], alts := [], laidByText := true, laidKinds := [.data], laidTests := true, laidLooks := .later }
def FramesDefectsCardSaid : Prop := Claim7.holds Tryd.pinned (.plain (OpenSpec.ofChange framesDefectsSpec)) framesDefectsCard

/-- THE TIED CARD OF 'wittinglaw15.FramesHas'. -/
def framesHasCard : Claim7 := { stood := { row := framesHasRow, standIns := [], harness := (true, "c29ec76155ffd4d51f1109fc5566a0c1c93ae98d2e057b43d8641e7c1846ec99"), looks := false }, kinds := [], alts := [], laidByText := true, laidKinds := [.data], laidTests := true, laidLooks := .later }
def FramesHasCardSaid : Prop := Claim7.holds Tryd.pinned (.plain (OpenSpec.ofChange framesHasSpec)) framesHasCard

/-- THE TIED CARD OF 'wittinglaw15.FramesLeast'. -/
def framesLeastCard : Claim7 := { stood := { row := framesLeastRow, standIns := [], harness := (true, "c29ec76155ffd4d51f1109fc5566a0c1c93ae98d2e057b43d8641e7c1846ec99"), looks := false }, kinds := [], alts := [], laidByText := true, laidKinds := [.data], laidTests := true, laidLooks := .later }
def FramesLeastCardSaid : Prop := Claim7.holds Tryd.pinned (.plain (OpenSpec.ofChange framesLeastSpec)) framesLeastCard

/-- THE TIED CARD OF 'wittinglaw15.FramesOrder'. -/
def framesOrderCard : Claim7 := { stood := { row := framesOrderRow, standIns := [], harness := (true, "c29ec76155ffd4d51f1109fc5566a0c1c93ae98d2e057b43d8641e7c1846ec99"), looks := false }, kinds := [], alts := [], laidByText := true, laidKinds := [.data], laidTests := true, laidLooks := .later }
def FramesOrderCardSaid : Prop := Claim7.holds Tryd.pinned (.plain (OpenSpec.ofChange framesOrderSpec)) framesOrderCard

/-- THE TIED CARD OF 'wittinglaw15.FramesRefutes'. -/
def framesRefutesCard : Claim7 := { stood := { row := framesRefutesRow, standIns := [], harness := (true, "c29ec76155ffd4d51f1109fc5566a0c1c93ae98d2e057b43d8641e7c1846ec99"), looks := false }, kinds := [], alts := [], laidByText := true, laidKinds := [.data], laidTests := true, laidLooks := .later }
def FramesRefutesCardSaid : Prop := Claim7.holds Tryd.pinned (.plain (OpenSpec.ofChange framesRefutesSpec)) framesRefutesCard

/-- THE TIED CARD OF 'wittinglaw15.FramesCorrespond'. -/
def framesCorrespondCard : Claim7 := { stood := { row := framesCorrespondRow, standIns := [], harness := (true, "c29ec76155ffd4d51f1109fc5566a0c1c93ae98d2e057b43d8641e7c1846ec99"), looks := false }, kinds := [], alts := [], laidByText := true, laidKinds := [.data], laidTests := true, laidLooks := .later }
def FramesCorrespondCardSaid : Prop := Claim7.holds Tryd.pinned (.plain (OpenSpec.ofChange framesCorrespondSpec)) framesCorrespondCard

/-- THE SECOND FORM's CARD OF 'wittinglaw15.FramesCloses'. -/
def framesClosesUptoCard : Claim7 := { stood := { row := framesClosesUptoRow, standIns := [], harness := (true, "c29ec76155ffd4d51f1109fc5566a0c1c93ae98d2e057b43d8641e7c1846ec99"), looks := false }, kinds := [], alts := [], laidByText := true, laidKinds := [.data], laidTests := true, laidLooks := .later }
def FramesClosesUptoCardSaid : Prop := Claim7.holds Tryd.pinned (.plain (OpenSpec.upto framesClosesSpec)) framesClosesUptoCard

/-- THE SECOND FORM's CARD OF 'wittinglaw15.FramesDefects'. -/
def framesDefectsUptoCard : Claim7 := { stood := { row := framesDefectsUptoRow, standIns := [], harness := (true, "c29ec76155ffd4d51f1109fc5566a0c1c93ae98d2e057b43d8641e7c1846ec99"), looks := false }, kinds := [], alts := [], laidByText := true, laidKinds := [.data], laidTests := true, laidLooks := .later }
def FramesDefectsUptoCardSaid : Prop := Claim7.holds Tryd.pinned (.plain (OpenSpec.upto framesDefectsSpec)) framesDefectsUptoCard

/-- THE SECOND FORM's CARD OF 'wittinglaw15.FramesHas'. -/
def framesHasUptoCard : Claim7 := { stood := { row := framesHasUptoRow, standIns := [], harness := (true, "c29ec76155ffd4d51f1109fc5566a0c1c93ae98d2e057b43d8641e7c1846ec99"), looks := false }, kinds := [], alts := [], laidByText := true, laidKinds := [.data], laidTests := true, laidLooks := .later }
def FramesHasUptoCardSaid : Prop := Claim7.holds Tryd.pinned (.plain (OpenSpec.upto framesHasSpec)) framesHasUptoCard

/-- THE SECOND FORM's CARD OF 'wittinglaw15.FramesLeast'. -/
def framesLeastUptoCard : Claim7 := { stood := { row := framesLeastUptoRow, standIns := [], harness := (true, "c29ec76155ffd4d51f1109fc5566a0c1c93ae98d2e057b43d8641e7c1846ec99"), looks := false }, kinds := [], alts := [], laidByText := true, laidKinds := [.data], laidTests := true, laidLooks := .later }
def FramesLeastUptoCardSaid : Prop := Claim7.holds Tryd.pinned (.plain (OpenSpec.upto framesLeastSpec)) framesLeastUptoCard

/-- THE SECOND FORM's CARD OF 'wittinglaw15.FramesOrder'. -/
def framesOrderUptoCard : Claim7 := { stood := { row := framesOrderUptoRow, standIns := [], harness := (true, "c29ec76155ffd4d51f1109fc5566a0c1c93ae98d2e057b43d8641e7c1846ec99"), looks := false }, kinds := [], alts := [], laidByText := true, laidKinds := [.data], laidTests := true, laidLooks := .later }
def FramesOrderUptoCardSaid : Prop := Claim7.holds Tryd.pinned (.plain (OpenSpec.upto framesOrderSpec)) framesOrderUptoCard

/-- THE SECOND FORM's CARD OF 'wittinglaw15.FramesRefutes'. -/
def framesRefutesUptoCard : Claim7 := { stood := { row := framesRefutesUptoRow, standIns := [], harness := (true, "c29ec76155ffd4d51f1109fc5566a0c1c93ae98d2e057b43d8641e7c1846ec99"), looks := false }, kinds := [], alts := [], laidByText := true, laidKinds := [.data], laidTests := true, laidLooks := .later }
def FramesRefutesUptoCardSaid : Prop := Claim7.holds Tryd.pinned (.plain (OpenSpec.upto framesRefutesSpec)) framesRefutesUptoCard

/-- THE SECOND FORM's CARD OF 'wittinglaw15.FramesCorrespond'. -/
def framesCorrespondUptoCard : Claim7 := { stood := { row := framesCorrespondUptoRow, standIns := [], harness := (true, "c29ec76155ffd4d51f1109fc5566a0c1c93ae98d2e057b43d8641e7c1846ec99"), looks := false }, kinds := [], alts := [], laidByText := true, laidKinds := [.data], laidTests := true, laidLooks := .later }
def FramesCorrespondUptoCardSaid : Prop := Claim7.holds Tryd.pinned (.plain (OpenSpec.upto framesCorrespondSpec)) framesCorrespondUptoCard
end Rows
end Go.Proofs.YticlcpkcohdpfaaDoor
