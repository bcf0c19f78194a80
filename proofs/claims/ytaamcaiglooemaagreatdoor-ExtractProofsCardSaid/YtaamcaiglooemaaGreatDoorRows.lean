/-
  NARROWER THAN 'FOR EVERY INPUT', by the rows' own cells (each row's printed sentence says how): ExtractLemmas: laid · ExtractProofs: laid.
  DERIVED. THE GIVEN ROWS OF THIS SEAT. 2 by the template 'for every input the law returns true; each argument reads behind the call as it read before'; 0 by the template 'total and deterministic' (their statements: YtaamcaiglooemaaGreatDoorTotals.lean).
  GIVEN WITH THE SEED: the statements are not yours to turn. If you find one false, say at which input.
  Laid BY PROGRAM, IN A SANDBOX (cutbox-rows.mjs): the forced cells as the released guide's own fill.sh prints them over the translation c12c070b8fdb2940… (all of the seat's roots in one cut). By AI agents, Wed Nov 11 2026. No macro, syntax, notation, axiom, sorry.
-/
import Derived.Test.YtaamcaiglooemaaGreatDoorChecked
import GoSem.Claim
import GoSem.ClaimJoined
import GoSem.ClaimMapViews
import Derived.JoinedTies
import Derived.KernelRfl
namespace Go.Proofs.YtaamcaiglooemaaGreatDoor
/- THE CELL 'sum', in the pinned program and in every row, IS THE sha256 OF THE DUMP (.gsa) THAT YtaamcaiglooemaaGreatDoorProg.lean LOADS. Nothing in Lean hashes anything: it is a label: what it is worth is what the hold of that sum in a sandbox is worth. -/
noncomputable def Tryz.pinned : Pinned := { name := "ytaamcaiglooemaagreatdoor", sum := "c12c070b8fdb294095350162d49ae97edc2c6b515d5177e464f2307c89e8dfe1", checked := Tryz.checked }
namespace Rows
def none {H : Type} : Left H := { results := [], args := [] }

/- WHAT THE LISTED PACKAGE-LEVEL VARIABLES READ AS WHEN THE CALL BEGINS. Each datum BY PROGRAM (the guide's laid-datum.mjs) off the statement by which the dump's own 'gosem.cut.vars' lays the variable. In a bare row this is a premise. The card (YtaamcaiglooemaaGreatDoorCards.lean) ties it to the program's text. -/
def laid_witting_hilbert_axioms {H : Type} : DataW H := .iface "func table" (.agg [.nil, .iface "func" (.lit (.string [119, 105, 116, 116, 105, 110, 103, 47, 104, 105, 108, 98, 101, 114, 116, 46, 116, 97, 117, 116, 111, 108, 111, 103, 121])), .iface "func" (.lit (.string [119, 105, 116, 116, 105, 110, 103, 47, 104, 105, 108, 98, 101, 114, 116, 46, 100, 105, 115, 116, 114, 105, 98, 117, 116, 101, 115])), .iface "func" (.lit (.string [119, 105, 116, 116, 105, 110, 103, 47, 104, 105, 108, 98, 101, 114, 116, 46, 97, 120, 105, 111, 109, 115, 36, 49])), .iface "func" (.lit (.string [119, 105, 116, 116, 105, 110, 103, 47, 104, 105, 108, 98, 101, 114, 116, 46, 97, 120, 105, 111, 109, 115, 36, 50])), .iface "func" (.lit (.string [119, 105, 116, 116, 105, 110, 103, 47, 104, 105, 108, 98, 101, 114, 116, 46, 105, 110, 116, 114, 111, 115, 112, 101, 99, 116, 115])), .iface "func" (.lit (.string [119, 105, 116, 116, 105, 110, 103, 47, 104, 105, 108, 98, 101, 114, 116, 46, 97, 120, 105, 111, 109, 115, 36, 51])), .iface "func" (.lit (.string [119, 105, 116, 116, 105, 110, 103, 47, 104, 105, 108, 98, 101, 114, 116, 46, 100, 117, 97, 108])), .iface "func" (.lit (.string [119, 105, 116, 116, 105, 110, 103, 47, 104, 105, 108, 98, 101, 114, 116, 46, 101, 118, 101, 114, 121, 98, 111, 100, 121])), .iface "func" (.lit (.string [119, 105, 116, 116, 105, 110, 103, 47, 104, 105, 108, 98, 101, 114, 116, 46, 102, 105, 120, 101, 100]))])

/-- 'wittinglaw51.ExtractLemmas': WHATEVER THE INPUT: true; the input reads as it did. -/
def extractLemmasSpec : ChangeSpec := { name := "extractLemmas", fn := fun _ => fun
  | [d] => { results := [.lit (.bool true)], args := [d] }
  | _ => none }
def extractLemmasRow : OpenClaim := { program := "ytaamcaiglooemaagreatdoor", sum := "c12c070b8fdb294095350162d49ae97edc2c6b515d5177e464f2307c89e8dfe1", func := "witting/wittinglaw51.ExtractLemmas", spec := "extractLemmas", unfollowed := true, recurses := true, named := ["witting/hilbert.axioms"], plainKeys := false, apart := false, laid := [("witting/hilbert.axioms", laid_witting_hilbert_axioms)] }
def ExtractLemmasSaid : Prop := extractLemmasRow.holds Tryz.pinned (OpenSpec.ofChange extractLemmasSpec)

/-- ITS FALSE NEIGHBOUR: 'it returns false'. Refute it at one input. -/
def extractLemmasWrong : ChangeSpec := { name := "extractLemmas", fn := fun _ => fun
  | [d] => { results := [.lit (.bool false)], args := [d] }
  | _ => none }
def ExtractLemmasWrongFalsely : Prop := extractLemmasRow.holds Tryz.pinned (OpenSpec.ofChange extractLemmasWrong)

/-- 'wittinglaw51.ExtractProofs': WHATEVER THE INPUT: true; the input reads as it did. -/
def extractProofsSpec : ChangeSpec := { name := "extractProofs", fn := fun _ => fun
  | [d] => { results := [.lit (.bool true)], args := [d] }
  | _ => none }
def extractProofsRow : OpenClaim := { program := "ytaamcaiglooemaagreatdoor", sum := "c12c070b8fdb294095350162d49ae97edc2c6b515d5177e464f2307c89e8dfe1", func := "witting/wittinglaw51.ExtractProofs", spec := "extractProofs", unfollowed := true, recurses := true, named := ["witting/hilbert.axioms"], plainKeys := false, apart := false, laid := [("witting/hilbert.axioms", laid_witting_hilbert_axioms)] }
def ExtractProofsSaid : Prop := extractProofsRow.holds Tryz.pinned (OpenSpec.ofChange extractProofsSpec)

/-- ITS FALSE NEIGHBOUR: 'it returns false'. Refute it at one input. -/
def extractProofsWrong : ChangeSpec := { name := "extractProofs", fn := fun _ => fun
  | [d] => { results := [.lit (.bool false)], args := [d] }
  | _ => none }
def ExtractProofsWrongFalsely : Prop := extractProofsRow.holds Tryz.pinned (OpenSpec.ofChange extractProofsWrong)

/- THE SECOND FORM. 'bulk': how many values and letters a reading holds, each counted each time it is reached (what is shared counts as often as it is met; a slice's spare places count too). A statement '..UptoSaid' is the law's where the arguments, and the package variables that the reading takes, are together of bulk at most 1048576: NARROWER than '..Said'. Prove '..Said' where nothing that the law and all that it calls make is longer than what came in: it says more and counts as full. Else prove '..UptoSaid'. A law counts once. -/
mutual
def uptoBulk {H : Type} : DataW H → Nat
  | .lit (.string bytes) => bytes.length + 1
  | .lit _ => 1
  | .nil => 1
  | .ptr d => uptoBulk d + 1
  | .slice elems spare => uptoBulkAll elems + uptoBulkAll spare + 1
  | .agg parts => uptoBulkAll parts + 1
  | .iface _ d => uptoBulk d + 1
  | .map entries => uptoBulkEntries entries + 1
  | .held _ => 1
def uptoBulkAll {H : Type} : List (DataW H) → Nat
  | [] => 0
  | d :: r => uptoBulk d + uptoBulkAll r
def uptoBulkEntries {H : Type} : List (Lit × DataW H) → Nat
  | [] => 0
  | x :: r => uptoBulkEntry x + uptoBulkEntries r
def uptoBulkEntry {H : Type} : Lit × DataW H → Nat
  | (.string bytes, d) => bytes.length + uptoBulk d + 1
  | (_, d) => uptoBulk d + 1
 end
def uptoSmall : (H : Type) → List (DataW H) → Bool := fun _ ds => decide (uptoBulkAll ds ≤ 1048576)
def OpenSpec.upto (s : _root_.Go.ChangeSpec) : _root_.Go.OpenSpec := { _root_.Go.OpenSpec.ofChange s with cond := some uptoSmall }

/-- 'wittinglaw51.ExtractLemmas', WHERE WHAT IT READS IS OF BULK AT MOST 1048576: true; the input reads as it did. -/
def extractLemmasUptoRow : OpenClaim := { program := "ytaamcaiglooemaagreatdoor", sum := "c12c070b8fdb294095350162d49ae97edc2c6b515d5177e464f2307c89e8dfe1", func := "witting/wittinglaw51.ExtractLemmas", spec := "extractLemmas", unfollowed := true, recurses := true, named := ["witting/hilbert.axioms"], plainKeys := false, apart := false, laid := [("witting/hilbert.axioms", laid_witting_hilbert_axioms)], narrowed := true }
def ExtractLemmasUptoSaid : Prop := extractLemmasUptoRow.holds Tryz.pinned (OpenSpec.upto extractLemmasSpec)

/-- 'wittinglaw51.ExtractProofs', WHERE WHAT IT READS IS OF BULK AT MOST 1048576: true; the input reads as it did. -/
def extractProofsUptoRow : OpenClaim := { program := "ytaamcaiglooemaagreatdoor", sum := "c12c070b8fdb294095350162d49ae97edc2c6b515d5177e464f2307c89e8dfe1", func := "witting/wittinglaw51.ExtractProofs", spec := "extractProofs", unfollowed := true, recurses := true, named := ["witting/hilbert.axioms"], plainKeys := false, apart := false, laid := [("witting/hilbert.axioms", laid_witting_hilbert_axioms)], narrowed := true }
def ExtractProofsUptoSaid : Prop := extractProofsUptoRow.holds Tryz.pinned (OpenSpec.upto extractProofsSpec)

end Rows
end Go.Proofs.YtaamcaiglooemaaGreatDoor
