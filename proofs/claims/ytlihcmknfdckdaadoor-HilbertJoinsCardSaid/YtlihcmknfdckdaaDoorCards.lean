/-
  DERIVED. GIVEN WITH THE SEED: THE CARDS: each row of YtlihcmknfdckdaaDoorRows.lean that lists a variable, with what it lists TIED to the program's text (the seventh form; the later family's looks); each row that meets fmt, with fmt's text TOLD by the authors' own Lean function (tested against real Go, not proved from fmt's source: count such statements apart). THE CARD IS WHAT COUNTS. Prove the row's statement (the work); the ties are given (YtlihcmknfdckdaaDoorTie.lean); close each card by the builder's one call (the guide's Derived/Test/ToyasCard.lean, 'card_holds'). Laid BY PROGRAM, IN A SANDBOX (cutbox-door.mjs). By AI agents, Wed Nov 11 2026. No macro, syntax, notation, axiom, sorry.
-/
import Derived.Test.YtlihcmknfdckdaaDoorRows
import GoSem.ClaimSeven
namespace Go.Proofs.YtlihcmknfdckdaaDoor
namespace Rows

/-- THE TIED CARD OF 'wittinglaw49.HilbertChecks'. -/
def hilbertChecksCard : Claim7 := { stood := { row := hilbertChecksRow, standIns := [], harness := (true, "eaa8e28010de35d750abf47484d5236c85ad7b799dc361f13b12b76f14c0c105"), looks := false }, kinds := [], alts := [], laidByText := true, laidKinds := [.funcs], laidTests := true, laidLooks := .later }
def HilbertChecksCardSaid : Prop := Claim7.holds Tryd.pinned (.plain (OpenSpec.ofChange hilbertChecksSpec)) hilbertChecksCard

/-- THE TIED CARD OF 'wittinglaw49.HilbertAxioms'. -/
def hilbertAxiomsCard : Claim7 := { stood := { row := hilbertAxiomsRow, standIns := [], harness := (true, "eaa8e28010de35d750abf47484d5236c85ad7b799dc361f13b12b76f14c0c105"), looks := false }, kinds := [], alts := [], laidByText := true, laidKinds := [.funcs], laidTests := true, laidLooks := .later }
def HilbertAxiomsCardSaid : Prop := Claim7.holds Tryd.pinned (.plain (OpenSpec.ofChange hilbertAxiomsSpec)) hilbertAxiomsCard

/-- THE TIED CARD OF 'wittinglaw49.HilbertSound'. -/
def hilbertSoundCard : Claim7 := { stood := { row := hilbertSoundRow, standIns := [], harness := (true, "eaa8e28010de35d750abf47484d5236c85ad7b799dc361f13b12b76f14c0c105"), looks := false }, kinds := [], alts := [], laidByText := true, laidKinds := [.funcs], laidTests := true, laidLooks := .later }
def HilbertSoundCardSaid : Prop := Claim7.holds Tryd.pinned (.plain (OpenSpec.ofChange hilbertSoundSpec)) hilbertSoundCard

/-- THE TIED CARD OF 'wittinglaw49.HilbertMore'. -/
def hilbertMoreCard : Claim7 := { stood := { row := hilbertMoreRow, standIns := [], harness := (true, "eaa8e28010de35d750abf47484d5236c85ad7b799dc361f13b12b76f14c0c105"), looks := false }, kinds := [], alts := [], laidByText := true, laidKinds := [.funcs], laidTests := true, laidLooks := .later }
def HilbertMoreCardSaid : Prop := Claim7.holds Tryd.pinned (.plain (OpenSpec.ofChange hilbertMoreSpec)) hilbertMoreCard

/-- THE TIED CARD OF 'wittinglaw49.HilbertRefuses'. -/
def hilbertRefusesCard : Claim7 := { stood := { row := hilbertRefusesRow, standIns := [], harness := (true, "eaa8e28010de35d750abf47484d5236c85ad7b799dc361f13b12b76f14c0c105"), looks := false }, kinds := [], alts := [], laidByText := true, laidKinds := [.funcs], laidTests := true, laidLooks := .later }
def HilbertRefusesCardSaid : Prop := Claim7.holds Tryd.pinned (.plain (OpenSpec.ofChange hilbertRefusesSpec)) hilbertRefusesCard

/-- THE TIED CARD OF 'wittinglaw49.HilbertPonens'. -/
def hilbertPonensCard : Claim7 := { stood := { row := hilbertPonensRow, standIns := [], harness := (true, "eaa8e28010de35d750abf47484d5236c85ad7b799dc361f13b12b76f14c0c105"), looks := false }, kinds := [], alts := [], laidByText := true, laidKinds := [.funcs], laidTests := true, laidLooks := .later }
def HilbertPonensCardSaid : Prop := Claim7.holds Tryd.pinned (.plain (OpenSpec.ofChange hilbertPonensSpec)) hilbertPonensCard

/-- THE TIED CARD OF 'wittinglaw49.HilbertPrunes'. -/
def hilbertPrunesCard : Claim7 := { stood := { row := hilbertPrunesRow, standIns := [], harness := (true, "eaa8e28010de35d750abf47484d5236c85ad7b799dc361f13b12b76f14c0c105"), looks := false }, kinds := [], alts := [], laidByText := true, laidKinds := [.funcs], laidTests := true, laidLooks := .later }
def HilbertPrunesCardSaid : Prop := Claim7.holds Tryd.pinned (.plain (OpenSpec.ofChange hilbertPrunesSpec)) hilbertPrunesCard

/-- THE TIED CARD OF 'wittinglaw49.HilbertJoins'. -/
def hilbertJoinsCard : Claim7 := { stood := { row := hilbertJoinsRow, standIns := [], harness := (true, "eaa8e28010de35d750abf47484d5236c85ad7b799dc361f13b12b76f14c0c105"), looks := false }, kinds := [], alts := [], laidByText := true, laidKinds := [.funcs], laidTests := true, laidLooks := .later }
def HilbertJoinsCardSaid : Prop := Claim7.holds Tryd.pinned (.plain (OpenSpec.ofChange hilbertJoinsSpec)) hilbertJoinsCard

/-- THE SECOND FORM's CARD OF 'wittinglaw49.HilbertChecks'. -/
def hilbertChecksUptoCard : Claim7 := { stood := { row := hilbertChecksUptoRow, standIns := [], harness := (true, "eaa8e28010de35d750abf47484d5236c85ad7b799dc361f13b12b76f14c0c105"), looks := false }, kinds := [], alts := [], laidByText := true, laidKinds := [.funcs], laidTests := true, laidLooks := .later }
def HilbertChecksUptoCardSaid : Prop := Claim7.holds Tryd.pinned (.plain (OpenSpec.upto hilbertChecksSpec)) hilbertChecksUptoCard

/-- THE SECOND FORM's CARD OF 'wittinglaw49.HilbertAxioms'. -/
def hilbertAxiomsUptoCard : Claim7 := { stood := { row := hilbertAxiomsUptoRow, standIns := [], harness := (true, "eaa8e28010de35d750abf47484d5236c85ad7b799dc361f13b12b76f14c0c105"), looks := false }, kinds := [], alts := [], laidByText := true, laidKinds := [.funcs], laidTests := true, laidLooks := .later }
def HilbertAxiomsUptoCardSaid : Prop := Claim7.holds Tryd.pinned (.plain (OpenSpec.upto hilbertAxiomsSpec)) hilbertAxiomsUptoCard

/-- THE SECOND FORM's CARD OF 'wittinglaw49.HilbertSound'. -/
def hilbertSoundUptoCard : Claim7 := { stood := { row := hilbertSoundUptoRow, standIns := [], harness := (true, "eaa8e28010de35d750abf47484d5236c85ad7b799dc361f13b12b76f14c0c105"), looks := false }, kinds := [], alts := [], laidByText := true, laidKinds := [.funcs], laidTests := true, laidLooks := .later }
def HilbertSoundUptoCardSaid : Prop := Claim7.holds Tryd.pinned (.plain (OpenSpec.upto hilbertSoundSpec)) hilbertSoundUptoCard

/-- THE SECOND FORM's CARD OF 'wittinglaw49.HilbertMore'. -/
def hilbertMoreUptoCard : Claim7 := { stood := { row := hilbertMoreUptoRow, standIns := [], harness := (true, "eaa8e28010de35d750abf47484d5236c85ad7b799dc361f13b12b76f14c0c105"), looks := false }, kinds := [], alts := [], laidByText := true, laidKinds := [.funcs], laidTests := true, laidLooks := .later }
def HilbertMoreUptoCardSaid : Prop := Claim7.holds Tryd.pinned (.plain (OpenSpec.upto hilbertMoreSpec)) hilbertMoreUptoCard

/-- THE SECOND FORM's CARD OF 'wittinglaw49.HilbertRefuses'. -/
def hilbertRefusesUptoCard : Claim7 := { stood := { row := hilbertRefusesUptoRow, standIns := [], harness := (true, "eaa8e28010de35d750abf47484d5236c85ad7b799dc361f13b12b76f14c0c105"), looks := false }, kinds := [], alts := [], laidByText := true, laidKinds := [.funcs], laidTests := true, laidLooks := .later }
def HilbertRefusesUptoCardSaid : Prop := Claim7.holds Tryd.pinned (.plain (OpenSpec.upto hilbertRefusesSpec)) hilbertRefusesUptoCard

/-- THE SECOND FORM's CARD OF 'wittinglaw49.HilbertPonens'. -/
def hilbertPonensUptoCard : Claim7 := { stood := { row := hilbertPonensUptoRow, standIns := [], harness := (true, "eaa8e28010de35d750abf47484d5236c85ad7b799dc361f13b12b76f14c0c105"), looks := false }, kinds := [], alts := [], laidByText := true, laidKinds := [.funcs], laidTests := true, laidLooks := .later }
def HilbertPonensUptoCardSaid : Prop := Claim7.holds Tryd.pinned (.plain (OpenSpec.upto hilbertPonensSpec)) hilbertPonensUptoCard

/-- THE SECOND FORM's CARD OF 'wittinglaw49.HilbertPrunes'. -/
def hilbertPrunesUptoCard : Claim7 := { stood := { row := hilbertPrunesUptoRow, standIns := [], harness := (true, "eaa8e28010de35d750abf47484d5236c85ad7b799dc361f13b12b76f14c0c105"), looks := false }, kinds := [], alts := [], laidByText := true, laidKinds := [.funcs], laidTests := true, laidLooks := .later }
def HilbertPrunesUptoCardSaid : Prop := Claim7.holds Tryd.pinned (.plain (OpenSpec.upto hilbertPrunesSpec)) hilbertPrunesUptoCard

/-- THE SECOND FORM's CARD OF 'wittinglaw49.HilbertJoins'. -/
def hilbertJoinsUptoCard : Claim7 := { stood := { row := hilbertJoinsUptoRow, standIns := [], harness := (true, "eaa8e28010de35d750abf47484d5236c85ad7b799dc361f13b12b76f14c0c105"), looks := false }, kinds := [], alts := [], laidByText := true, laidKinds := [.funcs], laidTests := true, laidLooks := .later }
def HilbertJoinsUptoCardSaid : Prop := Claim7.holds Tryd.pinned (.plain (OpenSpec.upto hilbertJoinsSpec)) hilbertJoinsUptoCard
end Rows
end Go.Proofs.YtlihcmknfdckdaaDoor
