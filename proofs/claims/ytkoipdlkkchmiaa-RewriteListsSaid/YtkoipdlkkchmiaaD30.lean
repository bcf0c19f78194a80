/- What calls of the program return, under the conditions that each theorem states. -/
import Derived.Test.YtkoipdlkkchmiaaD28
import Derived.Test.YtkoipdlkkchmiaaD29
import Derived.Test.YtkoipdlkkchmiaaD10
import Derived.Test.YtkoipdlkkchmiaaRows
import Derived.Test.YtkoipdlkkchmiaaD03
import Derived.Test.YtkoipdlkkchmiaaD19
import Derived.Test.YtkoipdlkkchmiaaD14
namespace Go.Proofs.Ytkoipdlkkchmiaa
open Go Go.RowKit Go.ChangeShapes Go.WideShapes Go.ChangeAt Go.Proofs.Wit
/-! from the contracts to the rows -/
theorem ownK : ownKnob Try.prog.godebug = none := by kernel_rfl
theorem laidOk : laidOutB Try.prog = true := by kernel_rfl
end Go.Proofs.Ytkoipdlkkchmiaa
namespace Go.Proofs.Ytkoipdlkkchmiaa
open Go.RowKit Go.Proofs.Wit
/-! the reference's masks, and which formulas fit -/
theorem rfew_c (a : Option Addr) (ca : Nat) (f : List NV) (x : Int) (w : World) : Cn Try.prog 10 [.slice a f.length ca, .int .i64 x] w (fun v _ => v = .bool (decide ((f.length : Int) ≤ x))) := by
  refine Cn.of Try.func10 rfl rfl ?_
  refine gS (gR ?_)
  refine gAs ?_
  refine gE (gS (gR ?_))
  refine gMv ?_
  refine gBl Try.underlying22 ?_
  refine gMv ?_
  refine gBi bLe ?_
  refine gAs ?_
  refine gE ?_
  refine GoH.ret Try.f10 Try.func10 rfl (fun w' hS => ?_)
  exact ⟨hS.ext, rfl⟩
theorem compF_nodes (f : List NV) : NodesOk (compF f) := by
  by_cases h : chkF f = 0
  · exact (compF_ok h).nodes
  · rw [compF, if_pos h]; intro i hi; exact absurd hi (Nat.not_lt_zero _)
end Go.Proofs.Ytkoipdlkkchmiaa
