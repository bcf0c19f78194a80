/-
  NARROWER THAN 'FOR EVERY INPUT', by the rows' own cells (each row's printed sentence says how): DistinguishDepths: laid · DistinguishFormulas: laid · DistinguishClasses: laid · DistinguishLeast: laid · DistinguishBoth: laid.
  DERIVED. THE GIVEN ROWS OF THIS SEAT. 5 by the template 'for every input the law returns true; each argument reads behind the call as it read before'; 0 by the template 'total and deterministic' (their statements: YtcljmlnnfdaljaaGreatDoorTotals.lean).
  GIVEN WITH THE SEED: the statements are not yours to turn. If you find one false, say at which input.
  Laid BY PROGRAM, IN A SANDBOX (cutbox-rows.mjs): the forced cells as the released guide's own fill.sh prints them over the translation cd989bc52a9b260d… (all of the seat's roots in one cut). By AI agents, Wed Nov 11 2026. No macro, syntax, notation, axiom, sorry.
-/
import Derived.Test.YtcljmlnnfdaljaaGreatDoorChecked
import GoSem.Claim
import GoSem.ClaimJoined
import GoSem.ClaimMapViews
import Derived.JoinedTies
import Derived.KernelRfl
namespace Go.Proofs.YtcljmlnnfdaljaaGreatDoor
/- THE CELL 'sum', in the pinned program and in every row, IS THE sha256 OF THE DUMP (.gsa) THAT YtcljmlnnfdaljaaGreatDoorProg.lean LOADS. Nothing in Lean hashes anything: it is a label: what it is worth is what the hold of that sum in a sandbox is worth. -/
noncomputable def Tryz.pinned : Pinned := { name := "ytcljmlnnfdaljaagreatdoor", sum := "cd989bc52a9b260db57c0d3ef078fefe9c269805f6398212e950ced0d63c5101", checked := Tryz.checked }
namespace Rows
def none {H : Type} : Left H := { results := [], args := [] }

/- WHAT THE LISTED PACKAGE-LEVEL VARIABLES READ AS WHEN THE CALL BEGINS. Each datum BY PROGRAM (the guide's laid-datum.mjs) off the statement by which the dump's own 'gosem.cut.vars' lays the variable. In a bare row this is a premise. The card (YtcljmlnnfdaljaaGreatDoorCards.lean) ties it to the program's text. -/
def laid_math_bits_deBruijn32tab {H : Type} : DataW H := .agg [.lit (.int .u8 0), .lit (.int .u8 1), .lit (.int .u8 28), .lit (.int .u8 2), .lit (.int .u8 29), .lit (.int .u8 14), .lit (.int .u8 24), .lit (.int .u8 3), .lit (.int .u8 30), .lit (.int .u8 22), .lit (.int .u8 20), .lit (.int .u8 15), .lit (.int .u8 25), .lit (.int .u8 17), .lit (.int .u8 4), .lit (.int .u8 8), .lit (.int .u8 31), .lit (.int .u8 27), .lit (.int .u8 13), .lit (.int .u8 23), .lit (.int .u8 21), .lit (.int .u8 19), .lit (.int .u8 16), .lit (.int .u8 7), .lit (.int .u8 26), .lit (.int .u8 12), .lit (.int .u8 18), .lit (.int .u8 6), .lit (.int .u8 11), .lit (.int .u8 5), .lit (.int .u8 10), .lit (.int .u8 9)]
def laid_math_bits_deBruijn64tab {H : Type} : DataW H := .agg [.lit (.int .u8 0), .lit (.int .u8 1), .lit (.int .u8 56), .lit (.int .u8 2), .lit (.int .u8 57), .lit (.int .u8 49), .lit (.int .u8 28), .lit (.int .u8 3), .lit (.int .u8 61), .lit (.int .u8 58), .lit (.int .u8 42), .lit (.int .u8 50), .lit (.int .u8 38), .lit (.int .u8 29), .lit (.int .u8 17), .lit (.int .u8 4), .lit (.int .u8 62), .lit (.int .u8 47), .lit (.int .u8 59), .lit (.int .u8 36), .lit (.int .u8 45), .lit (.int .u8 43), .lit (.int .u8 51), .lit (.int .u8 22), .lit (.int .u8 53), .lit (.int .u8 39), .lit (.int .u8 33), .lit (.int .u8 30), .lit (.int .u8 24), .lit (.int .u8 18), .lit (.int .u8 12), .lit (.int .u8 5), .lit (.int .u8 63), .lit (.int .u8 55), .lit (.int .u8 48), .lit (.int .u8 27), .lit (.int .u8 60), .lit (.int .u8 41), .lit (.int .u8 37), .lit (.int .u8 16), .lit (.int .u8 46), .lit (.int .u8 35), .lit (.int .u8 44), .lit (.int .u8 21), .lit (.int .u8 52), .lit (.int .u8 32), .lit (.int .u8 23), .lit (.int .u8 11), .lit (.int .u8 54), .lit (.int .u8 26), .lit (.int .u8 40), .lit (.int .u8 15), .lit (.int .u8 34), .lit (.int .u8 20), .lit (.int .u8 31), .lit (.int .u8 10), .lit (.int .u8 25), .lit (.int .u8 14), .lit (.int .u8 19), .lit (.int .u8 9), .lit (.int .u8 13), .lit (.int .u8 8), .lit (.int .u8 7), .lit (.int .u8 6)]
def laid_internal_strconv_uint64pow10 {H : Type} : DataW H := .agg [.lit (.int .u64 1), .lit (.int .u64 10), .lit (.int .u64 100), .lit (.int .u64 1000), .lit (.int .u64 10000), .lit (.int .u64 100000), .lit (.int .u64 1000000), .lit (.int .u64 10000000), .lit (.int .u64 100000000), .lit (.int .u64 1000000000), .lit (.int .u64 10000000000), .lit (.int .u64 100000000000), .lit (.int .u64 1000000000000), .lit (.int .u64 10000000000000), .lit (.int .u64 100000000000000), .lit (.int .u64 1000000000000000), .lit (.int .u64 10000000000000000), .lit (.int .u64 100000000000000000), .lit (.int .u64 1000000000000000000), .lit (.int .u64 10000000000000000000)]

/-- 'wittinglaw21.DistinguishDepths': WHATEVER THE INPUT: true; the input reads as it did. -/
def distinguishDepthsSpec : ChangeSpec := { name := "distinguishDepths", fn := fun _ => fun
  | [d1, d2, d3] => { results := [.lit (.bool true)], args := [d1, d2, d3] }
  | _ => none }
def distinguishDepthsRow : OpenClaim := { program := "ytcljmlnnfdaljaagreatdoor", sum := "cd989bc52a9b260db57c0d3ef078fefe9c269805f6398212e950ced0d63c5101", func := "witting/wittinglaw21.DistinguishDepths", spec := "distinguishDepths", unfollowed := true, recurses := true, named := ["math/bits.deBruijn64tab", "internal/strconv.uint64pow10", "math/bits.deBruijn32tab"], plainKeys := false, apart := false, laid := [("math/bits.deBruijn32tab", laid_math_bits_deBruijn32tab), ("math/bits.deBruijn64tab", laid_math_bits_deBruijn64tab), ("internal/strconv.uint64pow10", laid_internal_strconv_uint64pow10)] }
def DistinguishDepthsSaid : Prop := distinguishDepthsRow.holds Tryz.pinned (OpenSpec.ofChange distinguishDepthsSpec)

/-- ITS FALSE NEIGHBOUR: 'it returns false'. Refute it at one input. -/
def distinguishDepthsWrong : ChangeSpec := { name := "distinguishDepths", fn := fun _ => fun
  | [d1, d2, d3] => { results := [.lit (.bool false)], args := [d1, d2, d3] }
  | _ => none }
def DistinguishDepthsWrongFalsely : Prop := distinguishDepthsRow.holds Tryz.pinned (OpenSpec.ofChange distinguishDepthsWrong)

/-- 'wittinglaw21.DistinguishFormulas': WHATEVER THE INPUT: true; the input reads as it did. -/
def distinguishFormulasSpec : ChangeSpec := { name := "distinguishFormulas", fn := fun _ => fun
  | [d1, d2, d3] => { results := [.lit (.bool true)], args := [d1, d2, d3] }
  | _ => none }
def distinguishFormulasRow : OpenClaim := { program := "ytcljmlnnfdaljaagreatdoor", sum := "cd989bc52a9b260db57c0d3ef078fefe9c269805f6398212e950ced0d63c5101", func := "witting/wittinglaw21.DistinguishFormulas", spec := "distinguishFormulas", unfollowed := true, recurses := true, named := ["math/bits.deBruijn64tab", "internal/strconv.uint64pow10", "math/bits.deBruijn32tab"], plainKeys := false, apart := false, laid := [("math/bits.deBruijn32tab", laid_math_bits_deBruijn32tab), ("math/bits.deBruijn64tab", laid_math_bits_deBruijn64tab), ("internal/strconv.uint64pow10", laid_internal_strconv_uint64pow10)] }
def DistinguishFormulasSaid : Prop := distinguishFormulasRow.holds Tryz.pinned (OpenSpec.ofChange distinguishFormulasSpec)

/-- ITS FALSE NEIGHBOUR: 'it returns false'. Refute it at one input. -/
def distinguishFormulasWrong : ChangeSpec := { name := "distinguishFormulas", fn := fun _ => fun
  | [d1, d2, d3] => { results := [.lit (.bool false)], args := [d1, d2, d3] }
  | _ => none }
def DistinguishFormulasWrongFalsely : Prop := distinguishFormulasRow.holds Tryz.pinned (OpenSpec.ofChange distinguishFormulasWrong)

/-- 'wittinglaw21.DistinguishClasses': WHATEVER THE INPUT: true; the input reads as it did. -/
def distinguishClassesSpec : ChangeSpec := { name := "distinguishClasses", fn := fun _ => fun
  | [d1, d2, d3] => { results := [.lit (.bool true)], args := [d1, d2, d3] }
  | _ => none }
def distinguishClassesRow : OpenClaim := { program := "ytcljmlnnfdaljaagreatdoor", sum := "cd989bc52a9b260db57c0d3ef078fefe9c269805f6398212e950ced0d63c5101", func := "witting/wittinglaw21.DistinguishClasses", spec := "distinguishClasses", unfollowed := true, recurses := true, named := ["math/bits.deBruijn64tab", "internal/strconv.uint64pow10", "math/bits.deBruijn32tab"], plainKeys := false, apart := false, laid := [("math/bits.deBruijn32tab", laid_math_bits_deBruijn32tab), ("math/bits.deBruijn64tab", laid_math_bits_deBruijn64tab), ("internal/strconv.uint64pow10", laid_internal_strconv_uint64pow10)] }
def DistinguishClassesSaid : Prop := distinguishClassesRow.holds Tryz.pinned (OpenSpec.ofChange distinguishClassesSpec)

/-- ITS FALSE NEIGHBOUR: 'it returns false'. Refute it at one input. -/
def distinguishClassesWrong : ChangeSpec := { name := "distinguishClasses", fn := fun _ => fun
  | [d1, d2, d3] => { results := [.lit (.bool false)], args := [d1, d2, d3] }
  | _ => none }
def DistinguishClassesWrongFalsely : Prop := distinguishClassesRow.holds Tryz.pinned (OpenSpec.ofChange distinguishClassesWrong)

/-- 'wittinglaw21.DistinguishLeast': WHATEVER THE INPUT: true; the input reads as it did. -/
def distinguishLeastSpec : ChangeSpec := { name := "distinguishLeast", fn := fun _ => fun
  | [d1, d2, d3] => { results := [.lit (.bool true)], args := [d1, d2, d3] }
  | _ => none }
def distinguishLeastRow : OpenClaim := { program := "ytcljmlnnfdaljaagreatdoor", sum := "cd989bc52a9b260db57c0d3ef078fefe9c269805f6398212e950ced0d63c5101", func := "witting/wittinglaw21.DistinguishLeast", spec := "distinguishLeast", unfollowed := true, recurses := true, named := ["math/bits.deBruijn64tab", "internal/strconv.uint64pow10", "math/bits.deBruijn32tab"], plainKeys := false, apart := false, laid := [("math/bits.deBruijn32tab", laid_math_bits_deBruijn32tab), ("math/bits.deBruijn64tab", laid_math_bits_deBruijn64tab), ("internal/strconv.uint64pow10", laid_internal_strconv_uint64pow10)] }
def DistinguishLeastSaid : Prop := distinguishLeastRow.holds Tryz.pinned (OpenSpec.ofChange distinguishLeastSpec)

/-- ITS FALSE NEIGHBOUR: 'it returns false'. Refute it at one input. -/
def distinguishLeastWrong : ChangeSpec := { name := "distinguishLeast", fn := fun _ => fun
  | [d1, d2, d3] => { results := [.lit (.bool false)], args := [d1, d2, d3] }
  | _ => none }
def DistinguishLeastWrongFalsely : Prop := distinguishLeastRow.holds Tryz.pinned (OpenSpec.ofChange distinguishLeastWrong)

/-- 'wittinglaw21.DistinguishBoth': WHATEVER THE INPUT: true; the input reads as it did. -/
def distinguishBothSpec : ChangeSpec := { name := "distinguishBoth", fn := fun _ => fun
  | [d1, d2] => { results := [.lit (.bool true)], args := [d1, d2] }
  | _ => none }
def distinguishBothRow : OpenClaim := { program := "ytcljmlnnfdaljaagreatdoor", sum := "cd989bc52a9b260db57c0d3ef078fefe9c269805f6398212e950ced0d63c5101", func := "witting/wittinglaw21.DistinguishBoth", spec := "distinguishBoth", unfollowed := true, recurses := true, named := ["math/bits.deBruijn64tab", "internal/strconv.uint64pow10", "math/bits.deBruijn32tab"], plainKeys := false, apart := false, laid := [("math/bits.deBruijn32tab", laid_math_bits_deBruijn32tab), ("math/bits.deBruijn64tab", laid_math_bits_deBruijn64tab), ("internal/strconv.uint64pow10", laid_internal_strconv_uint64pow10)] }
def DistinguishBothSaid : Prop := distinguishBothRow.holds Tryz.pinned (OpenSpec.ofChange distinguishBothSpec)

/-- ITS FALSE NEIGHBOUR: 'it returns false'. Refute it at one input. -/
def distinguishBothWrong : ChangeSpec := { name := "distinguishBoth", fn := fun _ => fun
  | [d1, d2] => { results := [.lit (.bool false)], args := [d1, d2] }
  | _ => none }
def DistinguishBothWrongFalsely : Prop := distinguishBothRow.holds Tryz.pinned (OpenSpec.ofChange distinguishBothWrong)

/- THE SECOND FORM. 'bulk': how many values and letters a reading holds, each counted each time it is reached (what is shared counts as often as it is met; a slice's spare places count too). A statement '..UptoSaid' is the law's where the arguments, and the package variables that the reading takes, are together of bulk at most 1048576: NARROWER than '..Said'. Prove '..Said' where nothing that the law and all that it calls make is longer than what came in: it says more and counts as full. Else prove '..UptoSaid'. A law counts once. -/
mutual
def uptoBulk {H : Type} : DataW H → Nat
  | .lit (.string bytes) => bytes.length + 1
  | .lit _ => 1
  | .nil => 1
  | .ptr d => uptoBulk d + 1
  | .slice elems spare => uptoBulkAll elems + uptoBulkAll spare + 1
  | .agg parts => uptoBulkAll parts + 1
  | .iface _ d => uptoBulk d + 1
  | .map entries => uptoBulkEntries entries + 1
  | .held _ => 1
def uptoBulkAll {H : Type} : List (DataW H) → Nat
  | [] => 0
  | d :: r => uptoBulk d + uptoBulkAll r
def uptoBulkEntries {H : Type} : List (Lit × DataW H) → Nat
  | [] => 0
  | x :: r => uptoBulkEntry x + uptoBulkEntries r
def uptoBulkEntry {H : Type} : Lit × DataW H → Nat
  | (.string bytes, d) => bytes.length + uptoBulk d + 1
  | (_, d) => uptoBulk d + 1
 end
def uptoSmall : (H : Type) → List (DataW H) → Bool := fun _ ds => decide (uptoBulkAll ds ≤ 1048576)
def OpenSpec.upto (s : _root_.Go.ChangeSpec) : _root_.Go.OpenSpec := { _root_.Go.OpenSpec.ofChange s with cond := some uptoSmall }

/-- 'wittinglaw21.DistinguishDepths', WHERE WHAT IT READS IS OF BULK AT MOST 1048576: true; the input reads as it did. -/
def distinguishDepthsUptoRow : OpenClaim := { program := "ytcljmlnnfdaljaagreatdoor", sum := "cd989bc52a9b260db57c0d3ef078fefe9c269805f6398212e950ced0d63c5101", func := "witting/wittinglaw21.DistinguishDepths", spec := "distinguishDepths", unfollowed := true, recurses := true, named := ["math/bits.deBruijn64tab", "internal/strconv.uint64pow10", "math/bits.deBruijn32tab"], plainKeys := false, apart := false, laid := [("math/bits.deBruijn32tab", laid_math_bits_deBruijn32tab), ("math/bits.deBruijn64tab", laid_math_bits_deBruijn64tab), ("internal/strconv.uint64pow10", laid_internal_strconv_uint64pow10)], narrowed := true }
def DistinguishDepthsUptoSaid : Prop := distinguishDepthsUptoRow.holds Tryz.pinned (OpenSpec.upto distinguishDepthsSpec)

/-- 'wittinglaw21.DistinguishFormulas', WHERE WHAT IT READS IS OF BULK AT MOST 1048576: true; the input reads as it did. -/
def distinguishFormulasUptoRow : OpenClaim := { program := "ytcljmlnnfdaljaagreatdoor", sum := "cd989bc52a9b260db57c0d3ef078fefe9c269805f6398212e950ced0d63c5101", func := "witting/wittinglaw21.DistinguishFormulas", spec := "distinguishFormulas", unfollowed := true, recurses := true, named := ["math/bits.deBruijn64tab", "internal/strconv.uint64pow10", "math/bits.deBruijn32tab"], plainKeys := false, apart := false, laid := [("math/bits.deBruijn32tab", laid_math_bits_deBruijn32tab), ("math/bits.deBruijn64tab", laid_math_bits_deBruijn64tab), ("internal/strconv.uint64pow10", laid_internal_strconv_uint64pow10)], narrowed := true }
def DistinguishFormulasUptoSaid : Prop := distinguishFormulasUptoRow.holds Tryz.pinned (OpenSpec.upto distinguishFormulasSpec)

/-- 'wittinglaw21.DistinguishClasses', WHERE WHAT IT READS IS OF BULK AT MOST 1048576: true; the input reads as it did. -/
def distinguishClassesUptoRow : OpenClaim := { program := "ytcljmlnnfdaljaagreatdoor", sum := "cd989bc52a9b260db57c0d3ef078fefe9c269805f6398212e950ced0d63c5101", func := "witting/wittinglaw21.DistinguishClasses", spec := "distinguishClasses", unfollowed := true, recurses := true, named := ["math/bits.deBruijn64tab", "internal/strconv.uint64pow10", "math/bits.deBruijn32tab"], plainKeys := false, apart := false, laid := [("math/bits.deBruijn32tab", laid_math_bits_deBruijn32tab), ("math/bits.deBruijn64tab", laid_math_bits_deBruijn64tab), ("internal/strconv.uint64pow10", laid_internal_strconv_uint64pow10)], narrowed := true }
def DistinguishClassesUptoSaid : Prop := distinguishClassesUptoRow.holds Tryz.pinned (OpenSpec.upto distinguishClassesSpec)

/-- 'wittinglaw21.DistinguishLeast', WHERE WHAT IT READS IS OF BULK AT MOST 1048576: true; the input reads as it did. -/
def distinguishLeastUptoRow : OpenClaim := { program := "ytcljmlnnfdaljaagreatdoor", sum := "cd989bc52a9b260db57c0d3ef078fefe9c269805f6398212e950ced0d63c5101", func := "witting/wittinglaw21.DistinguishLeast", spec := "distinguishLeast", unfollowed := true, recurses := true, named := ["math/bits.deBruijn64tab", "internal/strconv.uint64pow10", "math/bits.deBruijn32tab"], plainKeys := false, apart := false, laid := [("math/bits.deBruijn32tab", laid_math_bits_deBruijn32tab), ("math/bits.deBruijn64tab", laid_math_bits_deBruijn64tab), ("internal/strconv.uint64pow10", laid_internal_strconv_uint64pow10)], narrowed := true }
def DistinguishLeastUptoSaid : Prop := distinguishLeastUptoRow.holds Tryz.pinned (OpenSpec.upto distinguishLeastSpec)

/-- 'wittinglaw21.DistinguishBoth', WHERE WHAT IT READS IS OF BULK AT MOST 1048576: true; the input reads as it did. -/
def distinguishBothUptoRow : OpenClaim := { program := "ytcljmlnnfdaljaagreatdoor", sum := "cd989bc52a9b260db57c0d3ef078fefe9c269805f6398212e950ced0d63c5101", func := "witting/wittinglaw21.DistinguishBoth", spec := "distinguishBoth", unfollowed := true, recurses := true, named := ["math/bits.deBruijn64tab", "internal/strconv.uint64pow10", "math/bits.deBruijn32tab"], plainKeys := false, apart := false, laid := [("math/bits.deBruijn32tab", laid_math_bits_deBruijn32tab), ("math/bits.deBruijn64tab", laid_math_bits_deBruijn64tab), ("internal/strconv.uint64pow10", laid_internal_strconv_uint64pow10)], narrowed := true }
def DistinguishBothUptoSaid : Prop := distinguishBothUptoRow.holds Tryz.pinned (OpenSpec.upto distinguishBothSpec)

end Rows
end Go.Proofs.YtcljmlnnfdaljaaGreatDoor
