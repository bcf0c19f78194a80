/-
  No cell of these rows narrows 'for every input' (looked for: loops, veiled, ifaces, maps, wideKeys, modest, calm, conditions, laid).
  DERIVED. THE GIVEN ROWS OF THIS SEAT. 7 by the template 'for every input the law returns true; each argument reads behind the call as it read before'; 0 by the template 'total and deterministic' (their statements: YtkoipdlkkchmiaaTotals.lean).
  GIVEN WITH THE SEED: the statements are not yours to turn. If you find one false, say at which input.
  Laid BY PROGRAM, IN A SANDBOX (cutbox-rows.mjs): the forced cells as the released guide's own fill.sh prints them over the translation 0d282a684de4ff4b… (all of the seat's roots in one cut). By AI agents, Wed Nov 11 2026. No macro, syntax, notation, axiom, sorry.
-/
import Derived.Test.YtkoipdlkkchmiaaChecked
import GoSem.Claim
import GoSem.ClaimJoined
import GoSem.ClaimMapViews
import Derived.JoinedTies
import Derived.KernelRfl
namespace Go.Proofs.Ytkoipdlkkchmiaa
/- THE CELL 'sum', in the pinned program and in every row, IS THE sha256 OF THE DUMP (.gsa) THAT YtkoipdlkkchmiaaProg.lean LOADS. Nothing in Lean hashes anything: it is a label: what it is worth is what the hold of that sum in a sandbox is worth. -/
noncomputable def Try.pinned : Pinned := { name := "ytkoipdlkkchmiaa", sum := "0d282a684de4ff4b302095023aafcd589783569a534af25746fa02f278a64628", checked := Try.checked }
namespace Rows
def none {H : Type} : Left H := { results := [], args := [] }

/-- 'wittinglaw08.RewriteSimplify': WHATEVER THE INPUT: true; the input reads as it did. -/
def rewriteSimplifySpec : ChangeSpec := { name := "rewriteSimplify", fn := fun _ => fun
  | [d] => { results := [.lit (.bool true)], args := [d] }
  | _ => none }
def rewriteSimplifyRow : OpenClaim := { program := "ytkoipdlkkchmiaa", sum := "0d282a684de4ff4b302095023aafcd589783569a534af25746fa02f278a64628", func := "witting/wittinglaw08.RewriteSimplify", spec := "rewriteSimplify", unfollowed := true, recurses := true, plainKeys := false, apart := false }
def RewriteSimplifySaid : Prop := rewriteSimplifyRow.holds Try.pinned (OpenSpec.ofChange rewriteSimplifySpec)

/-- ITS FALSE NEIGHBOUR: 'it returns false'. Refute it at one input. -/
def rewriteSimplifyWrong : ChangeSpec := { name := "rewriteSimplify", fn := fun _ => fun
  | [d] => { results := [.lit (.bool false)], args := [d] }
  | _ => none }
def RewriteSimplifyWrongFalsely : Prop := rewriteSimplifyRow.holds Try.pinned (OpenSpec.ofChange rewriteSimplifyWrong)

/-- 'wittinglaw08.RewriteSubst': WHATEVER THE INPUT: true; the input reads as it did. -/
def rewriteSubstSpec : ChangeSpec := { name := "rewriteSubst", fn := fun _ => fun
  | [d1, d2] => { results := [.lit (.bool true)], args := [d1, d2] }
  | _ => none }
def rewriteSubstRow : OpenClaim := { program := "ytkoipdlkkchmiaa", sum := "0d282a684de4ff4b302095023aafcd589783569a534af25746fa02f278a64628", func := "witting/wittinglaw08.RewriteSubst", spec := "rewriteSubst", unfollowed := true, recurses := true, plainKeys := false, apart := false }
def RewriteSubstSaid : Prop := rewriteSubstRow.holds Try.pinned (OpenSpec.ofChange rewriteSubstSpec)

/-- ITS FALSE NEIGHBOUR: 'it returns false'. Refute it at one input. -/
def rewriteSubstWrong : ChangeSpec := { name := "rewriteSubst", fn := fun _ => fun
  | [d1, d2] => { results := [.lit (.bool false)], args := [d1, d2] }
  | _ => none }
def RewriteSubstWrongFalsely : Prop := rewriteSubstRow.holds Try.pinned (OpenSpec.ofChange rewriteSubstWrong)

/-- 'wittinglaw08.RewriteTwice': WHATEVER THE INPUT: true; the input reads as it did. -/
def rewriteTwiceSpec : ChangeSpec := { name := "rewriteTwice", fn := fun _ => fun
  | [d1, d2, d3] => { results := [.lit (.bool true)], args := [d1, d2, d3] }
  | _ => none }
def rewriteTwiceRow : OpenClaim := { program := "ytkoipdlkkchmiaa", sum := "0d282a684de4ff4b302095023aafcd589783569a534af25746fa02f278a64628", func := "witting/wittinglaw08.RewriteTwice", spec := "rewriteTwice", unfollowed := true, recurses := true, plainKeys := false, apart := false }
def RewriteTwiceSaid : Prop := rewriteTwiceRow.holds Try.pinned (OpenSpec.ofChange rewriteTwiceSpec)

/-- ITS FALSE NEIGHBOUR: 'it returns false'. Refute it at one input. -/
def rewriteTwiceWrong : ChangeSpec := { name := "rewriteTwice", fn := fun _ => fun
  | [d1, d2, d3] => { results := [.lit (.bool false)], args := [d1, d2, d3] }
  | _ => none }
def RewriteTwiceWrongFalsely : Prop := rewriteTwiceRow.holds Try.pinned (OpenSpec.ofChange rewriteTwiceWrong)

/-- 'wittinglaw08.RewriteClosed': WHATEVER THE INPUT: true; the input reads as it did. -/
def rewriteClosedSpec : ChangeSpec := { name := "rewriteClosed", fn := fun _ => fun
  | [d] => { results := [.lit (.bool true)], args := [d] }
  | _ => none }
def rewriteClosedRow : OpenClaim := { program := "ytkoipdlkkchmiaa", sum := "0d282a684de4ff4b302095023aafcd589783569a534af25746fa02f278a64628", func := "witting/wittinglaw08.RewriteClosed", spec := "rewriteClosed", unfollowed := true, recurses := true, plainKeys := false, apart := false }
def RewriteClosedSaid : Prop := rewriteClosedRow.holds Try.pinned (OpenSpec.ofChange rewriteClosedSpec)

/-- ITS FALSE NEIGHBOUR: 'it returns false'. Refute it at one input. -/
def rewriteClosedWrong : ChangeSpec := { name := "rewriteClosed", fn := fun _ => fun
  | [d] => { results := [.lit (.bool false)], args := [d] }
  | _ => none }
def RewriteClosedWrongFalsely : Prop := rewriteClosedRow.holds Try.pinned (OpenSpec.ofChange rewriteClosedWrong)

/-- 'wittinglaw08.RewriteLists': WHATEVER THE INPUT: true; the input reads as it did. -/
def rewriteListsSpec : ChangeSpec := { name := "rewriteLists", fn := fun _ => fun
  | [d] => { results := [.lit (.bool true)], args := [d] }
  | _ => none }
def rewriteListsRow : OpenClaim := { program := "ytkoipdlkkchmiaa", sum := "0d282a684de4ff4b302095023aafcd589783569a534af25746fa02f278a64628", func := "witting/wittinglaw08.RewriteLists", spec := "rewriteLists", unfollowed := true, recurses := true, plainKeys := false, apart := false }
def RewriteListsSaid : Prop := rewriteListsRow.holds Try.pinned (OpenSpec.ofChange rewriteListsSpec)

/-- ITS FALSE NEIGHBOUR: 'it returns false'. Refute it at one input. -/
def rewriteListsWrong : ChangeSpec := { name := "rewriteLists", fn := fun _ => fun
  | [d] => { results := [.lit (.bool false)], args := [d] }
  | _ => none }
def RewriteListsWrongFalsely : Prop := rewriteListsRow.holds Try.pinned (OpenSpec.ofChange rewriteListsWrong)

/-- 'wittinglaw08.RewriteMeans': WHATEVER THE INPUT: true; the input reads as it did. -/
def rewriteMeansSpec : ChangeSpec := { name := "rewriteMeans", fn := fun _ => fun
  | [d1, d2] => { results := [.lit (.bool true)], args := [d1, d2] }
  | _ => none }
def rewriteMeansRow : OpenClaim := { program := "ytkoipdlkkchmiaa", sum := "0d282a684de4ff4b302095023aafcd589783569a534af25746fa02f278a64628", func := "witting/wittinglaw08.RewriteMeans", spec := "rewriteMeans", unfollowed := true, recurses := true, plainKeys := false, apart := false }
def RewriteMeansSaid : Prop := rewriteMeansRow.holds Try.pinned (OpenSpec.ofChange rewriteMeansSpec)

/-- ITS FALSE NEIGHBOUR: 'it returns false'. Refute it at one input. -/
def rewriteMeansWrong : ChangeSpec := { name := "rewriteMeans", fn := fun _ => fun
  | [d1, d2] => { results := [.lit (.bool false)], args := [d1, d2] }
  | _ => none }
def RewriteMeansWrongFalsely : Prop := rewriteMeansRow.holds Try.pinned (OpenSpec.ofChange rewriteMeansWrong)

/-- 'wittinglaw08.RewriteForms': WHATEVER THE INPUT: true; the input reads as it did. -/
def rewriteFormsSpec : ChangeSpec := { name := "rewriteForms", fn := fun _ => fun
  | [d] => { results := [.lit (.bool true)], args := [d] }
  | _ => none }
def rewriteFormsRow : OpenClaim := { program := "ytkoipdlkkchmiaa", sum := "0d282a684de4ff4b302095023aafcd589783569a534af25746fa02f278a64628", func := "witting/wittinglaw08.RewriteForms", spec := "rewriteForms", unfollowed := true, recurses := true, plainKeys := false, apart := false }
def RewriteFormsSaid : Prop := rewriteFormsRow.holds Try.pinned (OpenSpec.ofChange rewriteFormsSpec)

/-- ITS FALSE NEIGHBOUR: 'it returns false'. Refute it at one input. -/
def rewriteFormsWrong : ChangeSpec := { name := "rewriteForms", fn := fun _ => fun
  | [d] => { results := [.lit (.bool false)], args := [d] }
  | _ => none }
def RewriteFormsWrongFalsely : Prop := rewriteFormsRow.holds Try.pinned (OpenSpec.ofChange rewriteFormsWrong)

/- THE SECOND FORM. 'bulk': how many values and letters a reading holds, each counted each time it is reached (what is shared counts as often as it is met; a slice's spare places count too). A statement '..UptoSaid' is the law's where the arguments, and the package variables that the reading takes, are together of bulk at most 1048576: NARROWER than '..Said'. Prove '..Said' where nothing that the law and all that it calls make is longer than what came in: it says more and counts as full. Else prove '..UptoSaid'. A law counts once. -/
mutual
def uptoBulk {H : Type} : DataW H → Nat
  | .lit (.string bytes) => bytes.length + 1
  | .lit _ => 1
  | .nil => 1
  | .ptr d => uptoBulk d + 1
  | .slice elems spare => uptoBulkAll elems + uptoBulkAll spare + 1
  | .agg parts => uptoBulkAll parts + 1
  | .iface _ d => uptoBulk d + 1
  | .map entries => uptoBulkEntries entries + 1
  | .held _ => 1
def uptoBulkAll {H : Type} : List (DataW H) → Nat
  | [] => 0
  | d :: r => uptoBulk d + uptoBulkAll r
def uptoBulkEntries {H : Type} : List (Lit × DataW H) → Nat
  | [] => 0
  | x :: r => uptoBulkEntry x + uptoBulkEntries r
def uptoBulkEntry {H : Type} : Lit × DataW H → Nat
  | (.string bytes, d) => bytes.length + uptoBulk d + 1
  | (_, d) => uptoBulk d + 1
 end
def uptoSmall : (H : Type) → List (DataW H) → Bool := fun _ ds => decide (uptoBulkAll ds ≤ 1048576)
def OpenSpec.upto (s : _root_.Go.ChangeSpec) : _root_.Go.OpenSpec := { _root_.Go.OpenSpec.ofChange s with cond := some uptoSmall }

/-- 'wittinglaw08.RewriteSimplify', WHERE WHAT IT READS IS OF BULK AT MOST 1048576: true; the input reads as it did. -/
def rewriteSimplifyUptoRow : OpenClaim := { program := "ytkoipdlkkchmiaa", sum := "0d282a684de4ff4b302095023aafcd589783569a534af25746fa02f278a64628", func := "witting/wittinglaw08.RewriteSimplify", spec := "rewriteSimplify", unfollowed := true, recurses := true, plainKeys := false, apart := false, narrowed := true }
def RewriteSimplifyUptoSaid : Prop := rewriteSimplifyUptoRow.holds Try.pinned (OpenSpec.upto rewriteSimplifySpec)

/-- 'wittinglaw08.RewriteSubst', WHERE WHAT IT READS IS OF BULK AT MOST 1048576: true; the input reads as it did. -/
def rewriteSubstUptoRow : OpenClaim := { program := "ytkoipdlkkchmiaa", sum := "0d282a684de4ff4b302095023aafcd589783569a534af25746fa02f278a64628", func := "witting/wittinglaw08.RewriteSubst", spec := "rewriteSubst", unfollowed := true, recurses := true, plainKeys := false, apart := false, narrowed := true }
def RewriteSubstUptoSaid : Prop := rewriteSubstUptoRow.holds Try.pinned (OpenSpec.upto rewriteSubstSpec)

/-- 'wittinglaw08.RewriteTwice', WHERE WHAT IT READS IS OF BULK AT MOST 1048576: true; the input reads as it did. -/
def rewriteTwiceUptoRow : OpenClaim := { program := "ytkoipdlkkchmiaa", sum := "0d282a684de4ff4b302095023aafcd589783569a534af25746fa02f278a64628", func := "witting/wittinglaw08.RewriteTwice", spec := "rewriteTwice", unfollowed := true, recurses := true, plainKeys := false, apart := false, narrowed := true }
def RewriteTwiceUptoSaid : Prop := rewriteTwiceUptoRow.holds Try.pinned (OpenSpec.upto rewriteTwiceSpec)

/-- 'wittinglaw08.RewriteClosed', WHERE WHAT IT READS IS OF BULK AT MOST 1048576: true; the input reads as it did. -/
def rewriteClosedUptoRow : OpenClaim := { program := "ytkoipdlkkchmiaa", sum := "0d282a684de4ff4b302095023aafcd589783569a534af25746fa02f278a64628", func := "witting/wittinglaw08.RewriteClosed", spec := "rewriteClosed", unfollowed := true, recurses := true, plainKeys := false, apart := false, narrowed := true }
def RewriteClosedUptoSaid : Prop := rewriteClosedUptoRow.holds Try.pinned (OpenSpec.upto rewriteClosedSpec)

/-- 'wittinglaw08.RewriteLists', WHERE WHAT IT READS IS OF BULK AT MOST 1048576: true; the input reads as it did. -/
def rewriteListsUptoRow : OpenClaim := { program := "ytkoipdlkkchmiaa", sum := "0d282a684de4ff4b302095023aafcd589783569a534af25746fa02f278a64628", func := "witting/wittinglaw08.RewriteLists", spec := "rewriteLists", unfollowed := true, recurses := true, plainKeys := false, apart := false, narrowed := true }
def RewriteListsUptoSaid : Prop := rewriteListsUptoRow.holds Try.pinned (OpenSpec.upto rewriteListsSpec)

/-- 'wittinglaw08.RewriteMeans', WHERE WHAT IT READS IS OF BULK AT MOST 1048576: true; the input reads as it did. -/
def rewriteMeansUptoRow : OpenClaim := { program := "ytkoipdlkkchmiaa", sum := "0d282a684de4ff4b302095023aafcd589783569a534af25746fa02f278a64628", func := "witting/wittinglaw08.RewriteMeans", spec := "rewriteMeans", unfollowed := true, recurses := true, plainKeys := false, apart := false, narrowed := true }
def RewriteMeansUptoSaid : Prop := rewriteMeansUptoRow.holds Try.pinned (OpenSpec.upto rewriteMeansSpec)

/-- 'wittinglaw08.RewriteForms', WHERE WHAT IT READS IS OF BULK AT MOST 1048576: true; the input reads as it did. -/
def rewriteFormsUptoRow : OpenClaim := { program := "ytkoipdlkkchmiaa", sum := "0d282a684de4ff4b302095023aafcd589783569a534af25746fa02f278a64628", func := "witting/wittinglaw08.RewriteForms", spec := "rewriteForms", unfollowed := true, recurses := true, plainKeys := false, apart := false, narrowed := true }
def RewriteFormsUptoSaid : Prop := rewriteFormsUptoRow.holds Try.pinned (OpenSpec.upto rewriteFormsSpec)

end Rows
end Go.Proofs.Ytkoipdlkkchmiaa
