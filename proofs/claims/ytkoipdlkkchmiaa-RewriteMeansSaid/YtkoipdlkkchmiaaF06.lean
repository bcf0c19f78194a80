/- What calls of the program return, under the conditions that each theorem states. -/
import Derived.Test.YtkoipdlkkchmiaaF04
import Derived.Test.YtkoipdlkkchmiaaF05
import Derived.Test.YtkoipdlkkchmiaaF03
namespace Go.Proofs.Ytkoipdlkkchmiaa
open Go.RowKit Go.Proofs.Wit
/-! nodes in memory -/
theorem nodeFsK : ∃ fs, Try.prog.underlying 49 = some (.struct fs) ∧ nodeFs fs 3 := ⟨_, Try.underlying49, _, _, _, _, _, _, rfl, ⟨by decide, rfl, rfl⟩, ⟨by decide, rfl, rfl⟩, ⟨by decide, rfl, rfl⟩, ⟨by decide, rfl, rfl⟩, ⟨by decide, rfl, rfl⟩, ⟨by decide, rfl, rfl⟩⟩
theorem stoodK : Try.prog.stoodInHeld 49 = false := by kernel_rfl
theorem guardK : Try.prog.eqGuardType Try.prog.depth 49 = false := by kernel_rfl
theorem bEqN {a b : NV} : Bin Try.prog .eql 49 a.v b.v (.bool (a == b)) := by
  obtain ⟨fs, hu, hfs⟩ := nodeFsK
  exact bEqNode hu hfs Try.underlying3 Try.isAgg3 stoodK guardK
theorem infoN : (Try.prog.info? 49).map (fun i => (i.zero, i.size, i.bytes)) = some (some nv0.v, 6, 48) := by kernel_rfl
structure OutOk (q : Option Nat) (cap : Nat) (ts : List Tr) (sp : List Value) : Prop where
  nil : q = none → (nodesOf ts).length = 0 ∧ cap = 0
  cap : ((nodesOf ts).flatMap NV.cells ++ sp).length = cap * 6
  clo : Clo ts
  nd : ts.Nodup
  wf : ∀ u ∈ ts, u.wf
theorem nodup_idx {ts : List Tr} {t : Tr} (ht : t ∉ ts) : (ts ++ [t]).idxOf t = ts.length := by
  rw [List.idxOf_append, if_neg ht]; simp
end Go.Proofs.Ytkoipdlkkchmiaa
