/- What calls of the program return, under the conditions that each theorem states. -/
import Derived.Test.YthojdcaojjmoaaaDoorA15
import Derived.Test.YthojdcaojjmoaaaDoorA16
import Derived.Test.YthojdcaojjmoaaaDoorA04
namespace Go.Proofs.YthojdcaojjmoaaaDoor
open Go.RowKit Go.Proofs.Wit
/-! nodes in memory -/
theorem nodeFsK : ∃ fs, Tryd.prog.underlying 50 = some (.struct fs) ∧ nodeFs fs 3 := ⟨_, Tryd.underlying50, _, _, _, _, _, _, rfl, ⟨by decide, rfl, rfl⟩, ⟨by decide, rfl, rfl⟩, ⟨by decide, rfl, rfl⟩, ⟨by decide, rfl, rfl⟩, ⟨by decide, rfl, rfl⟩, ⟨by decide, rfl, rfl⟩⟩
theorem stoodK : Tryd.prog.stoodInHeld 50 = false := by kernel_rfl
theorem infoN : (Tryd.prog.info? 50).map (fun i => (i.zero, i.size, i.bytes)) = some (some nv0.v, 6, 48) := by kernel_rfl
structure OutOk (q : Option Nat) (cap : Nat) (ts : List Tr) (sp : List Value) : Prop where
  nil : q = none → (nodesOf ts).length = 0 ∧ cap = 0
  cap : ((nodesOf ts).flatMap NV.cells ++ sp).length = cap * 6
  clo : Clo ts
  nd : ts.Nodup
  wf : ∀ u ∈ ts, u.wf
theorem nodup_idx {ts : List Tr} {t : Tr} (ht : t ∉ ts) : (ts ++ [t]).idxOf t = ts.length := by
  rw [List.idxOf_append, if_neg ht]; simp
end Go.Proofs.YthojdcaojjmoaaaDoor
