/-
  NARROWER THAN 'FOR EVERY INPUT', by the rows' own cells (each row's printed sentence says how): FramesCloses: laid · FramesDefects: laid · FramesHas: laid · FramesLeast: laid · FramesOrder: laid · FramesRefutes: laid · FramesCorrespond: laid.
  DERIVED. THE GIVEN ROWS OF THIS SEAT. 7 by the template 'for every input the law returns true; each argument reads behind the call as it read before'; 0 by the template 'total and deterministic' (their statements: YticlcpkcohdpfaaDoorTotals.lean).
  GIVEN WITH THE SEED: the statements are not yours to turn. If you find one false, say at which input.
  Laid BY PROGRAM, IN A SANDBOX (cutbox-rows.mjs): the forced cells as the released guide's own fill.sh prints them over the translation a0d01598b9af47b9… (all of the seat's roots in one cut). By AI agents, Wed Nov 11 2026. No macro, syntax, notation, axiom, sorry.
-/
import Derived.Test.YticlcpkcohdpfaaDoorChecked
import GoSem.Claim
import GoSem.ClaimJoined
import GoSem.ClaimMapViews
import Derived.JoinedTies
import Derived.KernelRfl
namespace Go.Proofs.YticlcpkcohdpfaaDoor
/- THE CELL 'sum', in the pinned program and in every row, IS THE sha256 OF THE DUMP (.gsa) THAT YticlcpkcohdpfaaDoorProg.lean LOADS. Nothing in Lean hashes anything: it is a label: what it is worth is what the hold of that sum in a sandbox is worth. -/
noncomputable def Tryd.pinned : Pinned := { name := "yticlcpkcohdpfaadoor", sum := "a0d01598b9af47b9ce39a9abc09b5c362ecfacf93efeb9a532c25347bb2951f0", checked := Tryd.checked }
namespace Rows
def none {H : Type} : Left H := { results := [], args := [] }

/- WHAT THE LISTED PACKAGE-LEVEL VARIABLES READ AS WHEN THE CALL BEGINS. Each datum BY PROGRAM (the guide's laid-datum.mjs) off the statement by which the dump's own 'gosem.cut.vars' lays the variable. In a bare row this is a premise. The card (YticlcpkcohdpfaaDoorCards.lean) ties it to the program's text. -/
def laid_math_bits_deBruijn64tab {H : Type} : DataW H := .agg [.lit (.int .u8 0), .lit (.int .u8 1), .lit (.int .u8 56), .lit (.int .u8 2), .lit (.int .u8 57), .lit (.int .u8 49), .lit (.int .u8 28), .lit (.int .u8 3), .lit (.int .u8 61), .lit (.int .u8 58), .lit (.int .u8 42), .lit (.int .u8 50), .lit (.int .u8 38), .lit (.int .u8 29), .lit (.int .u8 17), .lit (.int .u8 4), .lit (.int .u8 62), .lit (.int .u8 47), .lit (.int .u8 59), .lit (.int .u8 36), .lit (.int .u8 45), .lit (.int .u8 43), .lit (.int .u8 51), .lit (.int .u8 22), .lit (.int .u8 53), .lit (.int .u8 39), .lit (.int .u8 33), .lit (.int .u8 30), .lit (.int .u8 24), .lit (.int .u8 18), .lit (.int .u8 12), .lit (.int .u8 5), .lit (.int .u8 63), .lit (.int .u8 55), .lit (.int .u8 48), .lit (.int .u8 27), .lit (.int .u8 60), .lit (.int .u8 41), .lit (.int .u8 37), .lit (.int .u8 16), .lit (.int .u8 46), .lit (.int .u8 35), .lit (.int .u8 44), .lit (.int .u8 21), .lit (.int .u8 52), .lit (.int .u8 32), .lit (.int .u8 23), .lit (.int .u8 11), .lit (.int .u8 54), .lit (.int .u8 26), .lit (.int .u8 40), .lit (.int .u8 15), .lit (.int .u8 34), .lit (.int .u8 20), .lit (.int .u8 31), .lit (.int .u8 10), .lit (.int .u8 25), .lit (.int .u8 14), .lit (.int .u8 19), .lit (.int .u8 9), .lit (.int .u8 13), .lit (.int .u8 8), .lit (.int .u8 7), .lit (.int .u8 6)]

/-- 'wittinglaw15.FramesCloses': WHATEVER THE INPUT: true; the input reads as it did. -/
def framesClosesSpec : ChangeSpec := { name := "framesCloses", fn := fun _ => fun
  | [d1, d2] => { results := [.lit (.bool true)], args := [d1, d2] }
  | _ => none }
def framesClosesRow : OpenClaim := { program := "yticlcpkcohdpfaadoor", sum := "a0d01598b9af47b9ce39a9abc09b5c362ecfacf93efeb9a532c25347bb2951f0", func := "witting/wittinglaw15.FramesCloses", spec := "framesCloses", unfollowed := true, recurses := true, named := ["math/bits.deBruijn64tab"], apart := false, laid := [("math/bits.deBruijn64tab", laid_math_bits_deBruijn64tab)] }
def FramesClosesSaid : Prop := framesClosesRow.holds Tryd.pinned (OpenSpec.ofChange framesClosesSpec)

/-- ITS FALSE NEIGHBOUR: 'it returns false'. Refute it at one input. -/
def framesClosesWrong : ChangeSpec := { name := "framesCloses", fn := fun _ => fun
  | [d1, d2] => { results := [.lit (.bool false)], args := [d1, d2] }
  | _ => none }
def FramesClosesWrongFalsely : Prop := framesClosesRow.holds Tryd.pinned (OpenSpec.ofChange framesClosesWrong)

/-- 'wittinglaw15.FramesDefects': WHATEVER THE INPUT: true; the input reads as it did. -/
def framesDefectsSpec : ChangeSpec := { name := "framesDefects", fn := fun _ => fun
  | [d1, d2] => { results := [.lit (.bool true)], args := [d1, d2] }
  | _ => none }
def framesDefectsRow : OpenClaim := { program := "yticlcpkcohdpfaadoor", sum := "a0d01598b9af47b9ce39a9abc09b5c362ecfacf93efeb9a532c25347bb2951f0", func := "witting/wittinglaw15.FramesDefects", spec := "framesDefects", unfollowed := true, recurses := true, named := ["math/bits.deBruijn64tab"], apart := false, laid := [("math/bits.deBruijn64tab", laid_math_bits_deBruijn64tab)] }
def FramesDefectsSaid : Prop := framesDefectsRow.holds Tryd.pinned (OpenSpec.ofChange framesDefectsSpec)

/-- ITS FALSE NEIGHBOUR: 'it returns false'. Refute it at one input. -/
def framesDefectsWrong : ChangeSpec := { name := "framesDefects", fn := fun _ => fun
  | [d1, d2] => { results := [.lit (.bool false)], args := [d1, d2] }
  | _ => none }
def FramesDefectsWrongFalsely : Prop := framesDefectsRow.holds Tryd.pinned (OpenSpec.ofChange framesDefectsWrong)

/-- 'wittinglaw15.FramesHas': WHATEVER THE INPUT: true; the input reads as it did. -/
def framesHasSpec : ChangeSpec := { name := "framesHas", fn := fun _ => fun
  | [d1, d2, d3] => { results := [.lit (.bool true)], args := [d1, d2, d3] }
  | _ => none }
def framesHasRow : OpenClaim := { program := "yticlcpkcohdpfaadoor", sum := "a0d01598b9af47b9ce39a9abc09b5c362ecfacf93efeb9a532c25347bb2951f0", func := "witting/wittinglaw15.FramesHas", spec := "framesHas", unfollowed := true, recurses := true, named := ["math/bits.deBruijn64tab"], apart := false, laid := [("math/bits.deBruijn64tab", laid_math_bits_deBruijn64tab)] }
def FramesHasSaid : Prop := framesHasRow.holds Tryd.pinned (OpenSpec.ofChange framesHasSpec)

/-- ITS FALSE NEIGHBOUR: 'it returns false'. Refute it at one input. -/
def framesHasWrong : ChangeSpec := { name := "framesHas", fn := fun _ => fun
  | [d1, d2, d3] => { results := [.lit (.bool false)], args := [d1, d2, d3] }
  | _ => none }
def FramesHasWrongFalsely : Prop := framesHasRow.holds Tryd.pinned (OpenSpec.ofChange framesHasWrong)

/-- 'wittinglaw15.FramesLeast': WHATEVER THE INPUT: true; the input reads as it did. -/
def framesLeastSpec : ChangeSpec := { name := "framesLeast", fn := fun _ => fun
  | [d1, d2, d3] => { results := [.lit (.bool true)], args := [d1, d2, d3] }
  | _ => none }
def framesLeastRow : OpenClaim := { program := "yticlcpkcohdpfaadoor", sum := "a0d01598b9af47b9ce39a9abc09b5c362ecfacf93efeb9a532c25347bb2951f0", func := "witting/wittinglaw15.FramesLeast", spec := "framesLeast", unfollowed := true, recurses := true, named := ["math/bits.deBruijn64tab"], apart := false, laid := [("math/bits.deBruijn64tab", laid_math_bits_deBruijn64tab)] }
def FramesLeastSaid : Prop := framesLeastRow.holds Tryd.pinned (OpenSpec.ofChange framesLeastSpec)

/-- ITS FALSE NEIGHBOUR: 'it returns false'. Refute it at one input. -/
def framesLeastWrong : ChangeSpec := { name := "framesLeast", fn := fun _ => fun
  | [d1, d2, d3] => { results := [.lit (.bool false)], args := [d1, d2, d3] }
  | _ => none }
def FramesLeastWrongFalsely : Prop := framesLeastRow.holds Tryd.pinned (OpenSpec.ofChange framesLeastWrong)

/-- 'wittinglaw15.FramesOrder': WHATEVER THE INPUT: true; the input reads as it did. -/
def framesOrderSpec : ChangeSpec := { name := "framesOrder", fn := fun _ => fun
  | [d] => { results := [.lit (.bool true)], args := [d] }
  | _ => none }
def framesOrderRow : OpenClaim := { program := "yticlcpkcohdpfaadoor", sum := "a0d01598b9af47b9ce39a9abc09b5c362ecfacf93efeb9a532c25347bb2951f0", func := "witting/wittinglaw15.FramesOrder", spec := "framesOrder", unfollowed := true, recurses := true, named := ["math/bits.deBruijn64tab"], apart := false, laid := [("math/bits.deBruijn64tab", laid_math_bits_deBruijn64tab)] }
def FramesOrderSaid : Prop := framesOrderRow.holds Tryd.pinned (OpenSpec.ofChange framesOrderSpec)

/-- ITS FALSE NEIGHBOUR: 'it returns false'. Refute it at one input. -/
def framesOrderWrong : ChangeSpec := { name := "framesOrder", fn := fun _ => fun
  | [d] => { results := [.lit (.bool false)], args := [d] }
  | _ => none }
def FramesOrderWrongFalsely : Prop := framesOrderRow.holds Tryd.pinned (OpenSpec.ofChange framesOrderWrong)

/-- 'wittinglaw15.FramesRefutes': WHATEVER THE INPUT: true; the input reads as it did. -/
def framesRefutesSpec : ChangeSpec := { name := "framesRefutes", fn := fun _ => fun
  | [d1, d2] => { results := [.lit (.bool true)], args := [d1, d2] }
  | _ => none }
def framesRefutesRow : OpenClaim := { program := "yticlcpkcohdpfaadoor", sum := "a0d01598b9af47b9ce39a9abc09b5c362ecfacf93efeb9a532c25347bb2951f0", func := "witting/wittinglaw15.FramesRefutes", spec := "framesRefutes", unfollowed := true, recurses := true, named := ["math/bits.deBruijn64tab"], apart := false, laid := [("math/bits.deBruijn64tab", laid_math_bits_deBruijn64tab)] }
def FramesRefutesSaid : Prop := framesRefutesRow.holds Tryd.pinned (OpenSpec.ofChange framesRefutesSpec)

/-- ITS FALSE NEIGHBOUR: 'it returns false'. Refute it at one input. -/
def framesRefutesWrong : ChangeSpec := { name := "framesRefutes", fn := fun _ => fun
  | [d1, d2] => { results := [.lit (.bool false)], args := [d1, d2] }
  | _ => none }
def FramesRefutesWrongFalsely : Prop := framesRefutesRow.holds Tryd.pinned (OpenSpec.ofChange framesRefutesWrong)

/-- 'wittinglaw15.FramesCorrespond': WHATEVER THE INPUT: true; the input reads as it did. -/
def framesCorrespondSpec : ChangeSpec := { name := "framesCorrespond", fn := fun _ => fun
  | [d1, d2] => { results := [.lit (.bool true)], args := [d1, d2] }
  | _ => none }
def framesCorrespondRow : OpenClaim := { program := "yticlcpkcohdpfaadoor", sum := "a0d01598b9af47b9ce39a9abc09b5c362ecfacf93efeb9a532c25347bb2951f0", func := "witting/wittinglaw15.FramesCorrespond", spec := "framesCorrespond", unfollowed := true, recurses := true, named := ["math/bits.deBruijn64tab"], apart := false, laid := [("math/bits.deBruijn64tab", laid_math_bits_deBruijn64tab)] }
def FramesCorrespondSaid : Prop := framesCorrespondRow.holds Tryd.pinned (OpenSpec.ofChange framesCorrespondSpec)

/-- ITS FALSE NEIGHBOUR: 'it returns false'. Refute it at one input. -/
def framesCorrespondWrong : ChangeSpec := { name := "framesCorrespond", fn := fun _ => fun
  | [d1, d2] => { results := [.lit (.bool false)], args := [d1, d2] }
  | _ => none }
def FramesCorrespondWrongFalsely : Prop := framesCorrespondRow.holds Tryd.pinned (OpenSpec.ofChange framesCorrespondWrong)

/- THE SECOND FORM. 'bulk': how many values and letters a reading holds, each counted each time it is reached (what is shared counts as often as it is met; a slice's spare places count too). A statement '..UptoSaid' is the law's where the arguments, and the package variables that the reading takes, are together of bulk at most 1048576: NARROWER than '..Said'. Prove '..Said' where nothing that the law and all that it calls make is longer than what came in: it says more and counts as full. Else prove '..UptoSaid'. A law counts once. -/
mutual
def uptoBulk {H : Type} : DataW H → Nat
  | .lit (.string bytes) => bytes.length + 1
  | .lit _ => 1
  | .nil => 1
  | .ptr d => uptoBulk d + 1
  | .slice elems spare => uptoBulkAll elems + uptoBulkAll spare + 1
  | .agg parts => uptoBulkAll parts + 1
  | .iface _ d => uptoBulk d + 1
  | .map entries => uptoBulkEntries entries + 1
  | .held _ => 1
def uptoBulkAll {H : Type} : List (DataW H) → Nat
  | [] => 0
  | d :: r => uptoBulk d + uptoBulkAll r
def uptoBulkEntries {H : Type} : List (Lit × DataW H) → Nat
  | [] => 0
  | x :: r => uptoBulkEntry x + uptoBulkEntries r
def uptoBulkEntry {H : Type} : Lit × DataW H → Nat
  | (.string bytes, d) => bytes.length + uptoBulk d + 1
  | (_, d) => uptoBulk d + 1
 end
def uptoSmall : (H : Type) → List (DataW H) → Bool := fun _ ds => decide (uptoBulkAll ds ≤ 1048576)
def OpenSpec.upto (s : _root_.Go.ChangeSpec) : _root_.Go.OpenSpec := { _root_.Go.OpenSpec.ofChange s with cond := some uptoSmall }

/-- 'wittinglaw15.FramesCloses', WHERE WHAT IT READS IS OF BULK AT MOST 1048576: true; the input reads as it did. -/
def framesClosesUptoRow : OpenClaim := { program := "yticlcpkcohdpfaadoor", sum := "a0d01598b9af47b9ce39a9abc09b5c362ecfacf93efeb9a532c25347bb2951f0", func := "witting/wittinglaw15.FramesCloses", spec := "framesCloses", unfollowed := true, recurses := true, named := ["math/bits.deBruijn64tab"], apart := false, laid := [("math/bits.deBruijn64tab", laid_math_bits_deBruijn64tab)], narrowed := true }
def FramesClosesUptoSaid : Prop := framesClosesUptoRow.holds Tryd.pinned (OpenSpec.upto framesClosesSpec)

/-- 'wittinglaw15.FramesDefects', WHERE WHAT IT READS IS OF BULK AT MOST 1048576: true; the input reads as it did. -/
def framesDefectsUptoRow : OpenClaim := { program := "yticlcpkcohdpfaadoor", sum := "a0d01598b9af47b9ce39a9abc09b5c362ecfacf93efeb9a532c25347bb2951f0", func := "witting/wittinglaw15.FramesDefects", spec := "framesDefects", unfollowed := true, recurses := true, named := ["math/bits.deBruijn64tab"], apart := false, laid := [("math/bits.deBruijn64tab", laid_math_bits_deBruijn64tab)], narrowed := true }
def FramesDefectsUptoSaid : Prop := framesDefectsUptoRow.holds Tryd.pinned (OpenSpec.upto framesDefectsSpec)

/-- 'wittinglaw15.FramesHas', WHERE WHAT IT READS IS OF BULK AT MOST 1048576: true; the input reads as it did. -/
def framesHasUptoRow : OpenClaim := { program := "yticlcpkcohdpfaadoor", sum := "a0d01598b9af47b9ce39a9abc09b5c362ecfacf93efeb9a532c25347bb2951f0", func := "witting/wittinglaw15.FramesHas", spec := "framesHas", unfollowed := true, recurses := true, named := ["math/bits.deBruijn64tab"], apart := false, laid := [("math/bits.deBruijn64tab", laid_math_bits_deBruijn64tab)], narrowed := true }
def FramesHasUptoSaid : Prop := framesHasUptoRow.holds Tryd.pinned (OpenSpec.upto framesHasSpec)

/-- 'wittinglaw15.FramesLeast', WHERE WHAT IT READS IS OF BULK AT MOST 1048576: true; the input reads as it did. -/
def framesLeastUptoRow : OpenClaim := { program := "yticlcpkcohdpfaadoor", sum := "a0d01598b9af47b9ce39a9abc09b5c362ecfacf93efeb9a532c25347bb2951f0", func := "witting/wittinglaw15.FramesLeast", spec := "framesLeast", unfollowed := true, recurses := true, named := ["math/bits.deBruijn64tab"], apart := false, laid := [("math/bits.deBruijn64tab", laid_math_bits_deBruijn64tab)], narrowed := true }
def FramesLeastUptoSaid : Prop := framesLeastUptoRow.holds Tryd.pinned (OpenSpec.upto framesLeastSpec)

/-- 'wittinglaw15.FramesOrder', WHERE WHAT IT READS IS OF BULK AT MOST 1048576: true; the input reads as it did. -/
def framesOrderUptoRow : OpenClaim := { program := "yticlcpkcohdpfaadoor", sum := "a0d01598b9af47b9ce39a9abc09b5c362ecfacf93efeb9a532c25347bb2951f0", func := "witting/wittinglaw15.FramesOrder", spec := "framesOrder", unfollowed := true, recurses := true, named := ["math/bits.deBruijn64tab"], apart := false, laid := [("math/bits.deBruijn64tab", laid_math_bits_deBruijn64tab)], narrowed := true }
def FramesOrderUptoSaid : Prop := framesOrderUptoRow.holds Tryd.pinned (OpenSpec.upto framesOrderSpec)

/-- 'wittinglaw15.FramesRefutes', WHERE WHAT IT READS IS OF BULK AT MOST 1048576: true; the input reads as it did. -/
def framesRefutesUptoRow : OpenClaim := { program := "yticlcpkcohdpfaadoor", sum := "a0d01598b9af47b9ce39a9abc09b5c362ecfacf93efeb9a532c25347bb2951f0", func := "witting/wittinglaw15.FramesRefutes", spec := "framesRefutes", unfollowed := true, recurses := true, named := ["math/bits.deBruijn64tab"], apart := false, laid := [("math/bits.deBruijn64tab", laid_math_bits_deBruijn64tab)], narrowed := true }
def FramesRefutesUptoSaid : Prop := framesRefutesUptoRow.holds Tryd.pinned (OpenSpec.upto framesRefutesSpec)

/-- 'wittinglaw15.FramesCorrespond', WHERE WHAT IT READS IS OF BULK AT MOST 1048576: true; the input reads as it did. -/
def framesCorrespondUptoRow : OpenClaim := { program := "yticlcpkcohdpfaadoor", sum := "a0d01598b9af47b9ce39a9abc09b5c362ecfacf93efeb9a532c25347bb2951f0", func := "witting/wittinglaw15.FramesCorrespond", spec := "framesCorrespond", unfollowed := true, recurses := true, named := ["math/bits.deBruijn64tab"], apart := false, laid := [("math/bits.deBruijn64tab", laid_math_bits_deBruijn64tab)], narrowed := true }
def FramesCorrespondUptoSaid : Prop := framesCorrespondUptoRow.holds Tryd.pinned (OpenSpec.upto framesCorrespondSpec)

end Rows
end Go.Proofs.YticlcpkcohdpfaaDoor
