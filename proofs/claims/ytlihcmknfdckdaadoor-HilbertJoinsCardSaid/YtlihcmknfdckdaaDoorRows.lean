/-
  NARROWER THAN 'FOR EVERY INPUT', by the rows' own cells (each row's printed sentence says how): HilbertChecks: laid · HilbertAxioms: laid · HilbertSound: laid · HilbertMore: laid · HilbertRefuses: laid · HilbertPonens: laid · HilbertPrunes: laid · HilbertJoins: laid.
  DERIVED. THE GIVEN ROWS OF THIS SEAT. 8 by the template 'for every input the law returns true; each argument reads behind the call as it read before'; 0 by the template 'total and deterministic' (their statements: YtlihcmknfdckdaaDoorTotals.lean).
  GIVEN WITH THE SEED: the statements are not yours to turn. If you find one false, say at which input.
  Laid BY PROGRAM, IN A SANDBOX (cutbox-rows.mjs): the forced cells as the released guide's own fill.sh prints them over the translation 978345243fd8263a… (all of the seat's roots in one cut). By AI agents, Wed Nov 11 2026. No macro, syntax, notation, axiom, sorry.
-/
import Derived.Test.YtlihcmknfdckdaaDoorChecked
import GoSem.Claim
import GoSem.ClaimJoined
import GoSem.ClaimMapViews
import Derived.JoinedTies
import Derived.KernelRfl
namespace Go.Proofs.YtlihcmknfdckdaaDoor
/- THE CELL 'sum', in the pinned program and in every row, IS THE sha256 OF THE DUMP (.gsa) THAT YtlihcmknfdckdaaDoorProg.lean LOADS. Nothing in Lean hashes anything: it is a label: what it is worth is what the hold of that sum in a sandbox is worth. -/
noncomputable def Tryd.pinned : Pinned := { name := "ytlihcmknfdckdaadoor", sum := "978345243fd8263a03743b554a5a6432036ca90a58e18b319f7001a4c03713af", checked := Tryd.checked }
namespace Rows
def none {H : Type} : Left H := { results := [], args := [] }

/- WHAT THE LISTED PACKAGE-LEVEL VARIABLES READ AS WHEN THE CALL BEGINS. Each datum BY PROGRAM (the guide's laid-datum.mjs) off the statement by which the dump's own 'gosem.cut.vars' lays the variable. In a bare row this is a premise. The card (YtlihcmknfdckdaaDoorCards.lean) ties it to the program's text. -/
def laid_witting_hilbert_axioms {H : Type} : DataW H := .iface "func table" (.agg [.nil, .iface "func" (.lit (.string [119, 105, 116, 116, 105, 110, 103, 47, 104, 105, 108, 98, 101, 114, 116, 46, 116, 97, 117, 116, 111, 108, 111, 103, 121])), .iface "func" (.lit (.string [119, 105, 116, 116, 105, 110, 103, 47, 104, 105, 108, 98, 101, 114, 116, 46, 100, 105, 115, 116, 114, 105, 98, 117, 116, 101, 115])), .iface "func" (.lit (.string [119, 105, 116, 116, 105, 110, 103, 47, 104, 105, 108, 98, 101, 114, 116, 46, 97, 120, 105, 111, 109, 115, 36, 49])), .iface "func" (.lit (.string [119, 105, 116, 116, 105, 110, 103, 47, 104, 105, 108, 98, 101, 114, 116, 46, 97, 120, 105, 111, 109, 115, 36, 50])), .iface "func" (.lit (.string [119, 105, 116, 116, 105, 110, 103, 47, 104, 105, 108, 98, 101, 114, 116, 46, 105, 110, 116, 114, 111, 115, 112, 101, 99, 116, 115])), .iface "func" (.lit (.string [119, 105, 116, 116, 105, 110, 103, 47, 104, 105, 108, 98, 101, 114, 116, 46, 97, 120, 105, 111, 109, 115, 36, 51])), .iface "func" (.lit (.string [119, 105, 116, 116, 105, 110, 103, 47, 104, 105, 108, 98, 101, 114, 116, 46, 100, 117, 97, 108])), .iface "func" (.lit (.string [119, 105, 116, 116, 105, 110, 103, 47, 104, 105, 108, 98, 101, 114, 116, 46, 101, 118, 101, 114, 121, 98, 111, 100, 121])), .iface "func" (.lit (.string [119, 105, 116, 116, 105, 110, 103, 47, 104, 105, 108, 98, 101, 114, 116, 46, 102, 105, 120, 101, 100]))])

/-- 'wittinglaw49.HilbertChecks': WHATEVER THE INPUT: true; the input reads as it did. -/
def hilbertChecksSpec : ChangeSpec := { name := "hilbertChecks", fn := fun _ => fun
  | [d1, d2, d3] => { results := [.lit (.bool true)], args := [d1, d2, d3] }
  | _ => none }
def hilbertChecksRow : OpenClaim := { program := "ytlihcmknfdckdaadoor", sum := "978345243fd8263a03743b554a5a6432036ca90a58e18b319f7001a4c03713af", func := "witting/wittinglaw49.HilbertChecks", spec := "hilbertChecks", unfollowed := true, recurses := true, named := ["witting/hilbert.axioms"], plainKeys := false, apart := false, laid := [("witting/hilbert.axioms", laid_witting_hilbert_axioms)] }
def HilbertChecksSaid : Prop := hilbertChecksRow.holds Tryd.pinned (OpenSpec.ofChange hilbertChecksSpec)

/-- ITS FALSE NEIGHBOUR: 'it returns false'. Refute it at one input. -/
def hilbertChecksWrong : ChangeSpec := { name := "hilbertChecks", fn := fun _ => fun
  | [d1, d2, d3] => { results := [.lit (.bool false)], args := [d1, d2, d3] }
  | _ => none }
def HilbertChecksWrongFalsely : Prop := hilbertChecksRow.holds Tryd.pinned (OpenSpec.ofChange hilbertChecksWrong)

/-- 'wittinglaw49.HilbertAxioms': WHATEVER THE INPUT: true; the input reads as it did. -/
def hilbertAxiomsSpec : ChangeSpec := { name := "hilbertAxioms", fn := fun _ => fun
  | [d1, d2] => { results := [.lit (.bool true)], args := [d1, d2] }
  | _ => none }
def hilbertAxiomsRow : OpenClaim := { program := "ytlihcmknfdckdaadoor", sum := "978345243fd8263a03743b554a5a6432036ca90a58e18b319f7001a4c03713af", func := "witting/wittinglaw49.HilbertAxioms", spec := "hilbertAxioms", unfollowed := true, recurses := true, named := ["witting/hilbert.axioms"], plainKeys := false, apart := false, laid := [("witting/hilbert.axioms", laid_witting_hilbert_axioms)] }
def HilbertAxiomsSaid : Prop := hilbertAxiomsRow.holds Tryd.pinned (OpenSpec.ofChange hilbertAxiomsSpec)

/-- ITS FALSE NEIGHBOUR: 'it returns false'. Refute it at one input. -/
def hilbertAxiomsWrong : ChangeSpec := { name := "hilbertAxioms", fn := fun _ => fun
  | [d1, d2] => { results := [.lit (.bool false)], args := [d1, d2] }
  | _ => none }
def HilbertAxiomsWrongFalsely : Prop := hilbertAxiomsRow.holds Tryd.pinned (OpenSpec.ofChange hilbertAxiomsWrong)

/-- 'wittinglaw49.HilbertSound': WHATEVER THE INPUT: true; the input reads as it did. -/
def hilbertSoundSpec : ChangeSpec := { name := "hilbertSound", fn := fun _ => fun
  | [d1, d2, d3] => { results := [.lit (.bool true)], args := [d1, d2, d3] }
  | _ => none }
def hilbertSoundRow : OpenClaim := { program := "ytlihcmknfdckdaadoor", sum := "978345243fd8263a03743b554a5a6432036ca90a58e18b319f7001a4c03713af", func := "witting/wittinglaw49.HilbertSound", spec := "hilbertSound", unfollowed := true, recurses := true, named := ["witting/hilbert.axioms"], plainKeys := false, apart := false, laid := [("witting/hilbert.axioms", laid_witting_hilbert_axioms)] }
def HilbertSoundSaid : Prop := hilbertSoundRow.holds Tryd.pinned (OpenSpec.ofChange hilbertSoundSpec)

/-- ITS FALSE NEIGHBOUR: 'it returns false'. Refute it at one input. -/
def hilbertSoundWrong : ChangeSpec := { name := "hilbertSound", fn := fun _ => fun
  | [d1, d2, d3] => { results := [.lit (.bool false)], args := [d1, d2, d3] }
  | _ => none }
def HilbertSoundWrongFalsely : Prop := hilbertSoundRow.holds Tryd.pinned (OpenSpec.ofChange hilbertSoundWrong)

/-- 'wittinglaw49.HilbertMore': WHATEVER THE INPUT: true; the input reads as it did. -/
def hilbertMoreSpec : ChangeSpec := { name := "hilbertMore", fn := fun _ => fun
  | [d] => { results := [.lit (.bool true)], args := [d] }
  | _ => none }
def hilbertMoreRow : OpenClaim := { program := "ytlihcmknfdckdaadoor", sum := "978345243fd8263a03743b554a5a6432036ca90a58e18b319f7001a4c03713af", func := "witting/wittinglaw49.HilbertMore", spec := "hilbertMore", unfollowed := true, recurses := true, named := ["witting/hilbert.axioms"], plainKeys := false, apart := false, laid := [("witting/hilbert.axioms", laid_witting_hilbert_axioms)] }
def HilbertMoreSaid : Prop := hilbertMoreRow.holds Tryd.pinned (OpenSpec.ofChange hilbertMoreSpec)

/-- ITS FALSE NEIGHBOUR: 'it returns false'. Refute it at one input. -/
def hilbertMoreWrong : ChangeSpec := { name := "hilbertMore", fn := fun _ => fun
  | [d] => { results := [.lit (.bool false)], args := [d] }
  | _ => none }
def HilbertMoreWrongFalsely : Prop := hilbertMoreRow.holds Tryd.pinned (OpenSpec.ofChange hilbertMoreWrong)

/-- 'wittinglaw49.HilbertRefuses': WHATEVER THE INPUT: true; the input reads as it did. -/
def hilbertRefusesSpec : ChangeSpec := { name := "hilbertRefuses", fn := fun _ => fun
  | [d1, d2, d3] => { results := [.lit (.bool true)], args := [d1, d2, d3] }
  | _ => none }
def hilbertRefusesRow : OpenClaim := { program := "ytlihcmknfdckdaadoor", sum := "978345243fd8263a03743b554a5a6432036ca90a58e18b319f7001a4c03713af", func := "witting/wittinglaw49.HilbertRefuses", spec := "hilbertRefuses", unfollowed := true, recurses := true, named := ["witting/hilbert.axioms"], plainKeys := false, apart := false, laid := [("witting/hilbert.axioms", laid_witting_hilbert_axioms)] }
def HilbertRefusesSaid : Prop := hilbertRefusesRow.holds Tryd.pinned (OpenSpec.ofChange hilbertRefusesSpec)

/-- ITS FALSE NEIGHBOUR: 'it returns false'. Refute it at one input. -/
def hilbertRefusesWrong : ChangeSpec := { name := "hilbertRefuses", fn := fun _ => fun
  | [d1, d2, d3] => { results := [.lit (.bool false)], args := [d1, d2, d3] }
  | _ => none }
def HilbertRefusesWrongFalsely : Prop := hilbertRefusesRow.holds Tryd.pinned (OpenSpec.ofChange hilbertRefusesWrong)

/-- 'wittinglaw49.HilbertPonens': WHATEVER THE INPUT: true; the input reads as it did. -/
def hilbertPonensSpec : ChangeSpec := { name := "hilbertPonens", fn := fun _ => fun
  | [d1, d2, d3] => { results := [.lit (.bool true)], args := [d1, d2, d3] }
  | _ => none }
def hilbertPonensRow : OpenClaim := { program := "ytlihcmknfdckdaadoor", sum := "978345243fd8263a03743b554a5a6432036ca90a58e18b319f7001a4c03713af", func := "witting/wittinglaw49.HilbertPonens", spec := "hilbertPonens", unfollowed := true, recurses := true, named := ["witting/hilbert.axioms"], plainKeys := false, apart := false, laid := [("witting/hilbert.axioms", laid_witting_hilbert_axioms)] }
def HilbertPonensSaid : Prop := hilbertPonensRow.holds Tryd.pinned (OpenSpec.ofChange hilbertPonensSpec)

/-- ITS FALSE NEIGHBOUR: 'it returns false'. Refute it at one input. -/
def hilbertPonensWrong : ChangeSpec := { name := "hilbertPonens", fn := fun _ => fun
  | [d1, d2, d3] => { results := [.lit (.bool false)], args := [d1, d2, d3] }
  | _ => none }
def HilbertPonensWrongFalsely : Prop := hilbertPonensRow.holds Tryd.pinned (OpenSpec.ofChange hilbertPonensWrong)

/-- 'wittinglaw49.HilbertPrunes': WHATEVER THE INPUT: true; the input reads as it did. -/
def hilbertPrunesSpec : ChangeSpec := { name := "hilbertPrunes", fn := fun _ => fun
  | [d1, d2] => { results := [.lit (.bool true)], args := [d1, d2] }
  | _ => none }
def hilbertPrunesRow : OpenClaim := { program := "ytlihcmknfdckdaadoor", sum := "978345243fd8263a03743b554a5a6432036ca90a58e18b319f7001a4c03713af", func := "witting/wittinglaw49.HilbertPrunes", spec := "hilbertPrunes", unfollowed := true, recurses := true, named := ["witting/hilbert.axioms"], plainKeys := false, apart := false, laid := [("witting/hilbert.axioms", laid_witting_hilbert_axioms)] }
def HilbertPrunesSaid : Prop := hilbertPrunesRow.holds Tryd.pinned (OpenSpec.ofChange hilbertPrunesSpec)

/-- ITS FALSE NEIGHBOUR: 'it returns false'. Refute it at one input. -/
def hilbertPrunesWrong : ChangeSpec := { name := "hilbertPrunes", fn := fun _ => fun
  | [d1, d2] => { results := [.lit (.bool false)], args := [d1, d2] }
  | _ => none }
def HilbertPrunesWrongFalsely : Prop := hilbertPrunesRow.holds Tryd.pinned (OpenSpec.ofChange hilbertPrunesWrong)

/-- 'wittinglaw49.HilbertJoins': WHATEVER THE INPUT: true; the input reads as it did. -/
def hilbertJoinsSpec : ChangeSpec := { name := "hilbertJoins", fn := fun _ => fun
  | [d1, d2, d3] => { results := [.lit (.bool true)], args := [d1, d2, d3] }
  | _ => none }
def hilbertJoinsRow : OpenClaim := { program := "ytlihcmknfdckdaadoor", sum := "978345243fd8263a03743b554a5a6432036ca90a58e18b319f7001a4c03713af", func := "witting/wittinglaw49.HilbertJoins", spec := "hilbertJoins", unfollowed := true, recurses := true, named := ["witting/hilbert.axioms"], plainKeys := false, apart := false, laid := [("witting/hilbert.axioms", laid_witting_hilbert_axioms)] }
def HilbertJoinsSaid : Prop := hilbertJoinsRow.holds Tryd.pinned (OpenSpec.ofChange hilbertJoinsSpec)

/-- ITS FALSE NEIGHBOUR: 'it returns false'. Refute it at one input. -/
def hilbertJoinsWrong : ChangeSpec := { name := "hilbertJoins", fn := fun _ => fun
  | [d1, d2, d3] => { results := [.lit (.bool false)], args := [d1, d2, d3] }
  | _ => none }
def HilbertJoinsWrongFalsely : Prop := hilbertJoinsRow.holds Tryd.pinned (OpenSpec.ofChange hilbertJoinsWrong)

/- THE SECOND FORM. 'bulk': how many values and letters a reading holds, each counted each time it is reached (what is shared counts as often as it is met; a slice's spare places count too). A statement '..UptoSaid' is the law's where the arguments, and the package variables that the reading takes, are together of bulk at most 1048576: NARROWER than '..Said'. Prove '..Said' where nothing that the law and all that it calls make is longer than what came in: it says more and counts as full. Else prove '..UptoSaid'. A law counts once. -/
mutual
def uptoBulk {H : Type} : DataW H → Nat
  | .lit (.string bytes) => bytes.length + 1
  | .lit _ => 1
  | .nil => 1
  | .ptr d => uptoBulk d + 1
  | .slice elems spare => uptoBulkAll elems + uptoBulkAll spare + 1
  | .agg parts => uptoBulkAll parts + 1
  | .iface _ d => uptoBulk d + 1
  | .map entries => uptoBulkEntries entries + 1
  | .held _ => 1
def uptoBulkAll {H : Type} : List (DataW H) → Nat
  | [] => 0
  | d :: r => uptoBulk d + uptoBulkAll r
def uptoBulkEntries {H : Type} : List (Lit × DataW H) → Nat
  | [] => 0
  | x :: r => uptoBulkEntry x + uptoBulkEntries r
def uptoBulkEntry {H : Type} : Lit × DataW H → Nat
  | (.string bytes, d) => bytes.length + uptoBulk d + 1
  | (_, d) => uptoBulk d + 1
 end
def uptoSmall : (H : Type) → List (DataW H) → Bool := fun _ ds => decide (uptoBulkAll ds ≤ 1048576)
def OpenSpec.upto (s : _root_.Go.ChangeSpec) : _root_.Go.OpenSpec := { _root_.Go.OpenSpec.ofChange s with cond := some uptoSmall }

/-- 'wittinglaw49.HilbertChecks', WHERE WHAT IT READS IS OF BULK AT MOST 1048576: true; the input reads as it did. -/
def hilbertChecksUptoRow : OpenClaim := { program := "ytlihcmknfdckdaadoor", sum := "978345243fd8263a03743b554a5a6432036ca90a58e18b319f7001a4c03713af", func := "witting/wittinglaw49.HilbertChecks", spec := "hilbertChecks", unfollowed := true, recurses := true, named := ["witting/hilbert.axioms"], plainKeys := false, apart := false, laid := [("witting/hilbert.axioms", laid_witting_hilbert_axioms)], narrowed := true }
def HilbertChecksUptoSaid : Prop := hilbertChecksUptoRow.holds Tryd.pinned (OpenSpec.upto hilbertChecksSpec)

/-- 'wittinglaw49.HilbertAxioms', WHERE WHAT IT READS IS OF BULK AT MOST 1048576: true; the input reads as it did. -/
def hilbertAxiomsUptoRow : OpenClaim := { program := "ytlihcmknfdckdaadoor", sum := "978345243fd8263a03743b554a5a6432036ca90a58e18b319f7001a4c03713af", func := "witting/wittinglaw49.HilbertAxioms", spec := "hilbertAxioms", unfollowed := true, recurses := true, named := ["witting/hilbert.axioms"], plainKeys := false, apart := false, laid := [("witting/hilbert.axioms", laid_witting_hilbert_axioms)], narrowed := true }
def HilbertAxiomsUptoSaid : Prop := hilbertAxiomsUptoRow.holds Tryd.pinned (OpenSpec.upto hilbertAxiomsSpec)

/-- 'wittinglaw49.HilbertSound', WHERE WHAT IT READS IS OF BULK AT MOST 1048576: true; the input reads as it did. -/
def hilbertSoundUptoRow : OpenClaim := { program := "ytlihcmknfdckdaadoor", sum := "978345243fd8263a03743b554a5a6432036ca90a58e18b319f7001a4c03713af", func := "witting/wittinglaw49.HilbertSound", spec := "hilbertSound", unfollowed := true, recurses := true, named := ["witting/hilbert.axioms"], plainKeys := false, apart := false, laid := [("witting/hilbert.axioms", laid_witting_hilbert_axioms)], narrowed := true }
def HilbertSoundUptoSaid : Prop := hilbertSoundUptoRow.holds Tryd.pinned (OpenSpec.upto hilbertSoundSpec)

/-- 'wittinglaw49.HilbertMore', WHERE WHAT IT READS IS OF BULK AT MOST 1048576: true; the input reads as it did. -/
def hilbertMoreUptoRow : OpenClaim := { program := "ytlihcmknfdckdaadoor", sum := "978345243fd8263a03743b554a5a6432036ca90a58e18b319f7001a4c03713af", func := "witting/wittinglaw49.HilbertMore", spec := "hilbertMore", unfollowed := true, recurses := true, named := ["witting/hilbert.axioms"], plainKeys := false, apart := false, laid := [("witting/hilbert.axioms", laid_witting_hilbert_axioms)], narrowed := true }
def HilbertMoreUptoSaid : Prop := hilbertMoreUptoRow.holds Tryd.pinned (OpenSpec.upto hilbertMoreSpec)

/-- 'wittinglaw49.HilbertRefuses', WHERE WHAT IT READS IS OF BULK AT MOST 1048576: true; the input reads as it did. -/
def hilbertRefusesUptoRow : OpenClaim := { program := "ytlihcmknfdckdaadoor", sum := "978345243fd8263a03743b554a5a6432036ca90a58e18b319f7001a4c03713af", func := "witting/wittinglaw49.HilbertRefuses", spec := "hilbertRefuses", unfollowed := true, recurses := true, named := ["witting/hilbert.axioms"], plainKeys := false, apart := false, laid := [("witting/hilbert.axioms", laid_witting_hilbert_axioms)], narrowed := true }
def HilbertRefusesUptoSaid : Prop := hilbertRefusesUptoRow.holds Tryd.pinned (OpenSpec.upto hilbertRefusesSpec)

/-- 'wittinglaw49.HilbertPonens', WHERE WHAT IT READS IS OF BULK AT MOST 1048576: true; the input reads as it did. -/
def hilbertPonensUptoRow : OpenClaim := { program := "ytlihcmknfdckdaadoor", sum := "978345243fd8263a03743b554a5a6432036ca90a58e18b319f7001a4c03713af", func := "witting/wittinglaw49.HilbertPonens", spec := "hilbertPonens", unfollowed := true, recurses := true, named := ["witting/hilbert.axioms"], plainKeys := false, apart := false, laid := [("witting/hilbert.axioms", laid_witting_hilbert_axioms)], narrowed := true }
def HilbertPonensUptoSaid : Prop := hilbertPonensUptoRow.holds Tryd.pinned (OpenSpec.upto hilbertPonensSpec)

/-- 'wittinglaw49.HilbertPrunes', WHERE WHAT IT READS IS OF BULK AT MOST 1048576: true; the input reads as it did. -/
def hilbertPrunesUptoRow : OpenClaim := { program := "ytlihcmknfdckdaadoor", sum := "978345243fd8263a03743b554a5a6432036ca90a58e18b319f7001a4c03713af", func := "witting/wittinglaw49.HilbertPrunes", spec := "hilbertPrunes", unfollowed := true, recurses := true, named := ["witting/hilbert.axioms"], plainKeys := false, apart := false, laid := [("witting/hilbert.axioms", laid_witting_hilbert_axioms)], narrowed := true }
def HilbertPrunesUptoSaid : Prop := hilbertPrunesUptoRow.holds Tryd.pinned (OpenSpec.upto hilbertPrunesSpec)

/-- 'wittinglaw49.HilbertJoins', WHERE WHAT IT READS IS OF BULK AT MOST 1048576: true; the input reads as it did. -/
def hilbertJoinsUptoRow : OpenClaim := { program := "ytlihcmknfdckdaadoor", sum := "978345243fd8263a03743b554a5a6432036ca90a58e18b319f7001a4c03713af", func := "witting/wittinglaw49.HilbertJoins", spec := "hilbertJoins", unfollowed := true, recurses := true, named := ["witting/hilbert.axioms"], plainKeys := false, apart := false, laid := [("witting/hilbert.axioms", laid_witting_hilbert_axioms)], narrowed := true }
def HilbertJoinsUptoSaid : Prop := hilbertJoinsUptoRow.holds Tryd.pinned (OpenSpec.upto hilbertJoinsSpec)

end Rows
end Go.Proofs.YtlihcmknfdckdaaDoor
