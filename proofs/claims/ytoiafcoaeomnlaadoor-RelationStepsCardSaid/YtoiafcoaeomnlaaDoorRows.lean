/-
  NARROWER THAN 'FOR EVERY INPUT', by the rows' own cells (each row's printed sentence says how): RelationChecks: laid · RelationLooks: laid · RelationPaths: laid · RelationSteps: laid · RelationDuals: laid · RelationOrders: laid · RelationCloses: laid · RelationLeast: laid · RelationJoins: laid.
  DERIVED. THE GIVEN ROWS OF THIS SEAT. 9 by the template 'for every input the law returns true; each argument reads behind the call as it read before'; 0 by the template 'total and deterministic' (their statements: YtoiafcoaeomnlaaDoorTotals.lean).
  GIVEN WITH THE SEED: the statements are not yours to turn. If you find one false, say at which input.
  Laid BY PROGRAM, IN A SANDBOX (cutbox-rows.mjs): the forced cells as the released guide's own fill.sh prints them over the translation 0e96b204471a9dec… (all of the seat's roots in one cut). By AI agents, Wed Nov 11 2026. No macro, syntax, notation, axiom, sorry.
-/
import Derived.Test.YtoiafcoaeomnlaaDoorChecked
import GoSem.Claim
import GoSem.ClaimJoined
import GoSem.ClaimMapViews
import Derived.JoinedTies
import Derived.KernelRfl
namespace Go.Proofs.YtoiafcoaeomnlaaDoor
/- THE CELL 'sum', in the pinned program and in every row, IS THE sha256 OF THE DUMP (.gsa) THAT YtoiafcoaeomnlaaDoorProg.lean LOADS. Nothing in Lean hashes anything: it is a label: what it is worth is what the hold of that sum in a sandbox is worth. -/
noncomputable def Tryd.pinned : Pinned := { name := "ytoiafcoaeomnlaadoor", sum := "0e96b204471a9dec81d6a7b1b8c2e349eabf5efd9cfbdaef8c383903a7c02249", checked := Tryd.checked }
namespace Rows
def none {H : Type} : Left H := { results := [], args := [] }

/- WHAT THE LISTED PACKAGE-LEVEL VARIABLES READ AS WHEN THE CALL BEGINS. Each datum BY PROGRAM (the guide's laid-datum.mjs) off the statement by which the dump's own 'gosem.cut.vars' lays the variable. In a bare row this is a premise. The card (YtoiafcoaeomnlaaDoorCards.lean) ties it to the program's text. -/
def laid_math_bits_deBruijn64tab {H : Type} : DataW H := .agg [.lit (.int .u8 0), .lit (.int .u8 1), .lit (.int .u8 56), .lit (.int .u8 2), .lit (.int .u8 57), .lit (.int .u8 49), .lit (.int .u8 28), .lit (.int .u8 3), .lit (.int .u8 61), .lit (.int .u8 58), .lit (.int .u8 42), .lit (.int .u8 50), .lit (.int .u8 38), .lit (.int .u8 29), .lit (.int .u8 17), .lit (.int .u8 4), .lit (.int .u8 62), .lit (.int .u8 47), .lit (.int .u8 59), .lit (.int .u8 36), .lit (.int .u8 45), .lit (.int .u8 43), .lit (.int .u8 51), .lit (.int .u8 22), .lit (.int .u8 53), .lit (.int .u8 39), .lit (.int .u8 33), .lit (.int .u8 30), .lit (.int .u8 24), .lit (.int .u8 18), .lit (.int .u8 12), .lit (.int .u8 5), .lit (.int .u8 63), .lit (.int .u8 55), .lit (.int .u8 48), .lit (.int .u8 27), .lit (.int .u8 60), .lit (.int .u8 41), .lit (.int .u8 37), .lit (.int .u8 16), .lit (.int .u8 46), .lit (.int .u8 35), .lit (.int .u8 44), .lit (.int .u8 21), .lit (.int .u8 52), .lit (.int .u8 32), .lit (.int .u8 23), .lit (.int .u8 11), .lit (.int .u8 54), .lit (.int .u8 26), .lit (.int .u8 40), .lit (.int .u8 15), .lit (.int .u8 34), .lit (.int .u8 20), .lit (.int .u8 31), .lit (.int .u8 10), .lit (.int .u8 25), .lit (.int .u8 14), .lit (.int .u8 19), .lit (.int .u8 9), .lit (.int .u8 13), .lit (.int .u8 8), .lit (.int .u8 7), .lit (.int .u8 6)]

/-- 'wittinglaw02.RelationChecks': WHATEVER THE INPUT: true; the input reads as it did. -/
def relationChecksSpec : ChangeSpec := { name := "relationChecks", fn := fun _ => fun
  | [d1, d2, d3] => { results := [.lit (.bool true)], args := [d1, d2, d3] }
  | _ => none }
def relationChecksRow : OpenClaim := { program := "ytoiafcoaeomnlaadoor", sum := "0e96b204471a9dec81d6a7b1b8c2e349eabf5efd9cfbdaef8c383903a7c02249", func := "witting/wittinglaw02.RelationChecks", spec := "relationChecks", unfollowed := true, recurses := true, named := ["math/bits.deBruijn64tab"], apart := false, laid := [("math/bits.deBruijn64tab", laid_math_bits_deBruijn64tab)] }
def RelationChecksSaid : Prop := relationChecksRow.holds Tryd.pinned (OpenSpec.ofChange relationChecksSpec)

/-- ITS FALSE NEIGHBOUR: 'it returns false'. Refute it at one input. -/
def relationChecksWrong : ChangeSpec := { name := "relationChecks", fn := fun _ => fun
  | [d1, d2, d3] => { results := [.lit (.bool false)], args := [d1, d2, d3] }
  | _ => none }
def RelationChecksWrongFalsely : Prop := relationChecksRow.holds Tryd.pinned (OpenSpec.ofChange relationChecksWrong)

/-- 'wittinglaw02.RelationLooks': WHATEVER THE INPUT: true; the input reads as it did. -/
def relationLooksSpec : ChangeSpec := { name := "relationLooks", fn := fun _ => fun
  | [d1, d2] => { results := [.lit (.bool true)], args := [d1, d2] }
  | _ => none }
def relationLooksRow : OpenClaim := { program := "ytoiafcoaeomnlaadoor", sum := "0e96b204471a9dec81d6a7b1b8c2e349eabf5efd9cfbdaef8c383903a7c02249", func := "witting/wittinglaw02.RelationLooks", spec := "relationLooks", unfollowed := true, recurses := true, named := ["math/bits.deBruijn64tab"], apart := false, laid := [("math/bits.deBruijn64tab", laid_math_bits_deBruijn64tab)] }
def RelationLooksSaid : Prop := relationLooksRow.holds Tryd.pinned (OpenSpec.ofChange relationLooksSpec)

/-- ITS FALSE NEIGHBOUR: 'it returns false'. Refute it at one input. -/
def relationLooksWrong : ChangeSpec := { name := "relationLooks", fn := fun _ => fun
  | [d1, d2] => { results := [.lit (.bool false)], args := [d1, d2] }
  | _ => none }
def RelationLooksWrongFalsely : Prop := relationLooksRow.holds Tryd.pinned (OpenSpec.ofChange relationLooksWrong)

/-- 'wittinglaw02.RelationPaths': WHATEVER THE INPUT: true; the input reads as it did. -/
def relationPathsSpec : ChangeSpec := { name := "relationPaths", fn := fun _ => fun
  | [d1, d2, d3] => { results := [.lit (.bool true)], args := [d1, d2, d3] }
  | _ => none }
def relationPathsRow : OpenClaim := { program := "ytoiafcoaeomnlaadoor", sum := "0e96b204471a9dec81d6a7b1b8c2e349eabf5efd9cfbdaef8c383903a7c02249", func := "witting/wittinglaw02.RelationPaths", spec := "relationPaths", unfollowed := true, recurses := true, named := ["math/bits.deBruijn64tab"], apart := false, laid := [("math/bits.deBruijn64tab", laid_math_bits_deBruijn64tab)] }
def RelationPathsSaid : Prop := relationPathsRow.holds Tryd.pinned (OpenSpec.ofChange relationPathsSpec)

/-- ITS FALSE NEIGHBOUR: 'it returns false'. Refute it at one input. -/
def relationPathsWrong : ChangeSpec := { name := "relationPaths", fn := fun _ => fun
  | [d1, d2, d3] => { results := [.lit (.bool false)], args := [d1, d2, d3] }
  | _ => none }
def RelationPathsWrongFalsely : Prop := relationPathsRow.holds Tryd.pinned (OpenSpec.ofChange relationPathsWrong)

/-- 'wittinglaw02.RelationSteps': WHATEVER THE INPUT: true; the input reads as it did. -/
def relationStepsSpec : ChangeSpec := { name := "relationSteps", fn := fun _ => fun
  | [d1, d2, d3] => { results := [.lit (.bool true)], args := [d1, d2, d3] }
  | _ => none }
def relationStepsRow : OpenClaim := { program := "ytoiafcoaeomnlaadoor", sum := "0e96b204471a9dec81d6a7b1b8c2e349eabf5efd9cfbdaef8c383903a7c02249", func := "witting/wittinglaw02.RelationSteps", spec := "relationSteps", unfollowed := true, recurses := true, named := ["math/bits.deBruijn64tab"], apart := false, laid := [("math/bits.deBruijn64tab", laid_math_bits_deBruijn64tab)] }
def RelationStepsSaid : Prop := relationStepsRow.holds Tryd.pinned (OpenSpec.ofChange relationStepsSpec)

/-- ITS FALSE NEIGHBOUR: 'it returns false'. Refute it at one input. -/
def relationStepsWrong : ChangeSpec := { name := "relationSteps", fn := fun _ => fun
  | [d1, d2, d3] => { results := [.lit (.bool false)], args := [d1, d2, d3] }
  | _ => none }
def RelationStepsWrongFalsely : Prop := relationStepsRow.holds Tryd.pinned (OpenSpec.ofChange relationStepsWrong)

/-- 'wittinglaw02.RelationDuals': WHATEVER THE INPUT: true; the input reads as it did. -/
def relationDualsSpec : ChangeSpec := { name := "relationDuals", fn := fun _ => fun
  | [d1, d2, d3] => { results := [.lit (.bool true)], args := [d1, d2, d3] }
  | _ => none }
def relationDualsRow : OpenClaim := { program := "ytoiafcoaeomnlaadoor", sum := "0e96b204471a9dec81d6a7b1b8c2e349eabf5efd9cfbdaef8c383903a7c02249", func := "witting/wittinglaw02.RelationDuals", spec := "relationDuals", unfollowed := true, recurses := true, named := ["math/bits.deBruijn64tab"], apart := false, laid := [("math/bits.deBruijn64tab", laid_math_bits_deBruijn64tab)] }
def RelationDualsSaid : Prop := relationDualsRow.holds Tryd.pinned (OpenSpec.ofChange relationDualsSpec)

/-- ITS FALSE NEIGHBOUR: 'it returns false'. Refute it at one input. -/
def relationDualsWrong : ChangeSpec := { name := "relationDuals", fn := fun _ => fun
  | [d1, d2, d3] => { results := [.lit (.bool false)], args := [d1, d2, d3] }
  | _ => none }
def RelationDualsWrongFalsely : Prop := relationDualsRow.holds Tryd.pinned (OpenSpec.ofChange relationDualsWrong)

/-- 'wittinglaw02.RelationOrders': WHATEVER THE INPUT: true; the input reads as it did. -/
def relationOrdersSpec : ChangeSpec := { name := "relationOrders", fn := fun _ => fun
  | [d1, d2, d3] => { results := [.lit (.bool true)], args := [d1, d2, d3] }
  | _ => none }
def relationOrdersRow : OpenClaim := { program := "ytoiafcoaeomnlaadoor", sum := "0e96b204471a9dec81d6a7b1b8c2e349eabf5efd9cfbdaef8c383903a7c02249", func := "witting/wittinglaw02.RelationOrders", spec := "relationOrders", unfollowed := true, recurses := true, named := ["math/bits.deBruijn64tab"], apart := false, laid := [("math/bits.deBruijn64tab", laid_math_bits_deBruijn64tab)] }
def RelationOrdersSaid : Prop := relationOrdersRow.holds Tryd.pinned (OpenSpec.ofChange relationOrdersSpec)

/-- ITS FALSE NEIGHBOUR: 'it returns false'. Refute it at one input. -/
def relationOrdersWrong : ChangeSpec := { name := "relationOrders", fn := fun _ => fun
  | [d1, d2, d3] => { results := [.lit (.bool false)], args := [d1, d2, d3] }
  | _ => none }
def RelationOrdersWrongFalsely : Prop := relationOrdersRow.holds Tryd.pinned (OpenSpec.ofChange relationOrdersWrong)

/-- 'wittinglaw02.RelationCloses': WHATEVER THE INPUT: true; the input reads as it did. -/
def relationClosesSpec : ChangeSpec := { name := "relationCloses", fn := fun _ => fun
  | [d] => { results := [.lit (.bool true)], args := [d] }
  | _ => none }
def relationClosesRow : OpenClaim := { program := "ytoiafcoaeomnlaadoor", sum := "0e96b204471a9dec81d6a7b1b8c2e349eabf5efd9cfbdaef8c383903a7c02249", func := "witting/wittinglaw02.RelationCloses", spec := "relationCloses", unfollowed := true, recurses := true, named := ["math/bits.deBruijn64tab"], apart := false, laid := [("math/bits.deBruijn64tab", laid_math_bits_deBruijn64tab)] }
def RelationClosesSaid : Prop := relationClosesRow.holds Tryd.pinned (OpenSpec.ofChange relationClosesSpec)

/-- ITS FALSE NEIGHBOUR: 'it returns false'. Refute it at one input. -/
def relationClosesWrong : ChangeSpec := { name := "relationCloses", fn := fun _ => fun
  | [d] => { results := [.lit (.bool false)], args := [d] }
  | _ => none }
def RelationClosesWrongFalsely : Prop := relationClosesRow.holds Tryd.pinned (OpenSpec.ofChange relationClosesWrong)

/-- 'wittinglaw02.RelationLeast': WHATEVER THE INPUT: true; the input reads as it did. -/
def relationLeastSpec : ChangeSpec := { name := "relationLeast", fn := fun _ => fun
  | [d1, d2] => { results := [.lit (.bool true)], args := [d1, d2] }
  | _ => none }
def relationLeastRow : OpenClaim := { program := "ytoiafcoaeomnlaadoor", sum := "0e96b204471a9dec81d6a7b1b8c2e349eabf5efd9cfbdaef8c383903a7c02249", func := "witting/wittinglaw02.RelationLeast", spec := "relationLeast", unfollowed := true, recurses := true, named := ["math/bits.deBruijn64tab"], apart := false, laid := [("math/bits.deBruijn64tab", laid_math_bits_deBruijn64tab)] }
def RelationLeastSaid : Prop := relationLeastRow.holds Tryd.pinned (OpenSpec.ofChange relationLeastSpec)

/-- ITS FALSE NEIGHBOUR: 'it returns false'. Refute it at one input. -/
def relationLeastWrong : ChangeSpec := { name := "relationLeast", fn := fun _ => fun
  | [d1, d2] => { results := [.lit (.bool false)], args := [d1, d2] }
  | _ => none }
def RelationLeastWrongFalsely : Prop := relationLeastRow.holds Tryd.pinned (OpenSpec.ofChange relationLeastWrong)

/-- 'wittinglaw02.RelationJoins': WHATEVER THE INPUT: true; the input reads as it did. -/
def relationJoinsSpec : ChangeSpec := { name := "relationJoins", fn := fun _ => fun
  | [d1, d2] => { results := [.lit (.bool true)], args := [d1, d2] }
  | _ => none }
def relationJoinsRow : OpenClaim := { program := "ytoiafcoaeomnlaadoor", sum := "0e96b204471a9dec81d6a7b1b8c2e349eabf5efd9cfbdaef8c383903a7c02249", func := "witting/wittinglaw02.RelationJoins", spec := "relationJoins", unfollowed := true, recurses := true, named := ["math/bits.deBruijn64tab"], apart := false, laid := [("math/bits.deBruijn64tab", laid_math_bits_deBruijn64tab)] }
def RelationJoinsSaid : Prop := relationJoinsRow.holds Tryd.pinned (OpenSpec.ofChange relationJoinsSpec)

/-- ITS FALSE NEIGHBOUR: 'it returns false'. Refute it at one input. -/
def relationJoinsWrong : ChangeSpec := { name := "relationJoins", fn := fun _ => fun
  | [d1, d2] => { results := [.lit (.bool false)], args := [d1, d2] }
  | _ => none }
def RelationJoinsWrongFalsely : Prop := relationJoinsRow.holds Tryd.pinned (OpenSpec.ofChange relationJoinsWrong)

/- THE SECOND FORM. 'bulk': how many values and letters a reading holds, each counted each time it is reached (what is shared counts as often as it is met; a slice's spare places count too). A statement '..UptoSaid' is the law's where the arguments, and the package variables that the reading takes, are together of bulk at most 1048576: NARROWER than '..Said'. Prove '..Said' where nothing that the law and all that it calls make is longer than what came in: it says more and counts as full. Else prove '..UptoSaid'. A law counts once. -/
mutual
def uptoBulk {H : Type} : DataW H → Nat
  | .lit (.string bytes) => bytes.length + 1
  | .lit _ => 1
  | .nil => 1
  | .ptr d => uptoBulk d + 1
  | .slice elems spare => uptoBulkAll elems + uptoBulkAll spare + 1
  | .agg parts => uptoBulkAll parts + 1
  | .iface _ d => uptoBulk d + 1
  | .map entries => uptoBulkEntries entries + 1
  | .held _ => 1
def uptoBulkAll {H : Type} : List (DataW H) → Nat
  | [] => 0
  | d :: r => uptoBulk d + uptoBulkAll r
def uptoBulkEntries {H : Type} : List (Lit × DataW H) → Nat
  | [] => 0
  | x :: r => uptoBulkEntry x + uptoBulkEntries r
def uptoBulkEntry {H : Type} : Lit × DataW H → Nat
  | (.string bytes, d) => bytes.length + uptoBulk d + 1
  | (_, d) => uptoBulk d + 1
 end
def uptoSmall : (H : Type) → List (DataW H) → Bool := fun _ ds => decide (uptoBulkAll ds ≤ 1048576)
def OpenSpec.upto (s : _root_.Go.ChangeSpec) : _root_.Go.OpenSpec := { _root_.Go.OpenSpec.ofChange s with cond := some uptoSmall }

/-- 'wittinglaw02.RelationChecks', WHERE WHAT IT READS IS OF BULK AT MOST 1048576: true; the input reads as it did. -/
def relationChecksUptoRow : OpenClaim := { program := "ytoiafcoaeomnlaadoor", sum := "0e96b204471a9dec81d6a7b1b8c2e349eabf5efd9cfbdaef8c383903a7c02249", func := "witting/wittinglaw02.RelationChecks", spec := "relationChecks", unfollowed := true, recurses := true, named := ["math/bits.deBruijn64tab"], apart := false, laid := [("math/bits.deBruijn64tab", laid_math_bits_deBruijn64tab)], narrowed := true }
def RelationChecksUptoSaid : Prop := relationChecksUptoRow.holds Tryd.pinned (OpenSpec.upto relationChecksSpec)

/-- 'wittinglaw02.RelationLooks', WHERE WHAT IT READS IS OF BULK AT MOST 1048576: true; the input reads as it did. -/
def relationLooksUptoRow : OpenClaim := { program := "ytoiafcoaeomnlaadoor", sum := "0e96b204471a9dec81d6a7b1b8c2e349eabf5efd9cfbdaef8c383903a7c02249", func := "witting/wittinglaw02.RelationLooks", spec := "relationLooks", unfollowed := true, recurses := true, named := ["math/bits.deBruijn64tab"], apart := false, laid := [("math/bits.deBruijn64tab", laid_math_bits_deBruijn64tab)], narrowed := true }
def RelationLooksUptoSaid : Prop := relationLooksUptoRow.holds Tryd.pinned (OpenSpec.upto relationLooksSpec)

/-- 'wittinglaw02.RelationPaths', WHERE WHAT IT READS IS OF BULK AT MOST 1048576: true; the input reads as it did. -/
def relationPathsUptoRow : OpenClaim := { program := "ytoiafcoaeomnlaadoor", sum := "0e96b204471a9dec81d6a7b1b8c2e349eabf5efd9cfbdaef8c383903a7c02249", func := "witting/wittinglaw02.RelationPaths", spec := "relationPaths", unfollowed := true, recurses := true, named := ["math/bits.deBruijn64tab"], apart := false, laid := [("math/bits.deBruijn64tab", laid_math_bits_deBruijn64tab)], narrowed := true }
def RelationPathsUptoSaid : Prop := relationPathsUptoRow.holds Tryd.pinned (OpenSpec.upto relationPathsSpec)

/-- 'wittinglaw02.RelationSteps', WHERE WHAT IT READS IS OF BULK AT MOST 1048576: true; the input reads as it did. -/
def relationStepsUptoRow : OpenClaim := { program := "ytoiafcoaeomnlaadoor", sum := "0e96b204471a9dec81d6a7b1b8c2e349eabf5efd9cfbdaef8c383903a7c02249", func := "witting/wittinglaw02.RelationSteps", spec := "relationSteps", unfollowed := true, recurses := true, named := ["math/bits.deBruijn64tab"], apart := false, laid := [("math/bits.deBruijn64tab", laid_math_bits_deBruijn64tab)], narrowed := true }
def RelationStepsUptoSaid : Prop := relationStepsUptoRow.holds Tryd.pinned (OpenSpec.upto relationStepsSpec)

/-- 'wittinglaw02.RelationDuals', WHERE WHAT IT READS IS OF BULK AT MOST 1048576: true; the input reads as it did. -/
def relationDualsUptoRow : OpenClaim := { program := "ytoiafcoaeomnlaadoor", sum := "0e96b204471a9dec81d6a7b1b8c2e349eabf5efd9cfbdaef8c383903a7c02249", func := "witting/wittinglaw02.RelationDuals", spec := "relationDuals", unfollowed := true, recurses := true, named := ["math/bits.deBruijn64tab"], apart := false, laid := [("math/bits.deBruijn64tab", laid_math_bits_deBruijn64tab)], narrowed := true }
def RelationDualsUptoSaid : Prop := relationDualsUptoRow.holds Tryd.pinned (OpenSpec.upto relationDualsSpec)

/-- 'wittinglaw02.RelationOrders', WHERE WHAT IT READS IS OF BULK AT MOST 1048576: true; the input reads as it did. -/
def relationOrdersUptoRow : OpenClaim := { program := "ytoiafcoaeomnlaadoor", sum := "0e96b204471a9dec81d6a7b1b8c2e349eabf5efd9cfbdaef8c383903a7c02249", func := "witting/wittinglaw02.RelationOrders", spec := "relationOrders", unfollowed := true, recurses := true, named := ["math/bits.deBruijn64tab"], apart := false, laid := [("math/bits.deBruijn64tab", laid_math_bits_deBruijn64tab)], narrowed := true }
def RelationOrdersUptoSaid : Prop := relationOrdersUptoRow.holds Tryd.pinned (OpenSpec.upto relationOrdersSpec)

/-- 'wittinglaw02.RelationCloses', WHERE WHAT IT READS IS OF BULK AT MOST 1048576: true; the input reads as it did. -/
def relationClosesUptoRow : OpenClaim := { program := "ytoiafcoaeomnlaadoor", sum := "0e96b204471a9dec81d6a7b1b8c2e349eabf5efd9cfbdaef8c383903a7c02249", func := "witting/wittinglaw02.RelationCloses", spec := "relationCloses", unfollowed := true, recurses := true, named := ["math/bits.deBruijn64tab"], apart := false, laid := [("math/bits.deBruijn64tab", laid_math_bits_deBruijn64tab)], narrowed := true }
def RelationClosesUptoSaid : Prop := relationClosesUptoRow.holds Tryd.pinned (OpenSpec.upto relationClosesSpec)

/-- 'wittinglaw02.RelationLeast', WHERE WHAT IT READS IS OF BULK AT MOST 1048576: true; the input reads as it did. -/
def relationLeastUptoRow : OpenClaim := { program := "ytoiafcoaeomnlaadoor", sum := "0e96b204471a9dec81d6a7b1b8c2e349eabf5efd9cfbdaef8c383903a7c02249", func := "witting/wittinglaw02.RelationLeast", spec := "relationLeast", unfollowed := true, recurses := true, named := ["math/bits.deBruijn64tab"], apart := false, laid := [("math/bits.deBruijn64tab", laid_math_bits_deBruijn64tab)], narrowed := true }
def RelationLeastUptoSaid : Prop := relationLeastUptoRow.holds Tryd.pinned (OpenSpec.upto relationLeastSpec)

/-- 'wittinglaw02.RelationJoins', WHERE WHAT IT READS IS OF BULK AT MOST 1048576: true; the input reads as it did. -/
def relationJoinsUptoRow : OpenClaim := { program := "ytoiafcoaeomnlaadoor", sum := "0e96b204471a9dec81d6a7b1b8c2e349eabf5efd9cfbdaef8c383903a7c02249", func := "witting/wittinglaw02.RelationJoins", spec := "relationJoins", unfollowed := true, recurses := true, named := ["math/bits.deBruijn64tab"], apart := false, laid := [("math/bits.deBruijn64tab", laid_math_bits_deBruijn64tab)], narrowed := true }
def RelationJoinsUptoSaid : Prop := relationJoinsUptoRow.holds Tryd.pinned (OpenSpec.upto relationJoinsSpec)

end Rows
end Go.Proofs.YtoiafcoaeomnlaaDoor
