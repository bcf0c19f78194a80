/- What calls of the program return, under the conditions that each theorem states. -/
import Derived.Test.YtlihcmknfdckdaaDoorR05
import Derived.Test.YtlihcmknfdckdaaDoorR06
import Derived.Test.YtlihcmknfdckdaaDoorR04
namespace Go.Proofs.YtlihcmknfdckdaaDoor
open Go.RowKit Go.Proofs.Wit
/-! nodes in memory -/
theorem nodeFsK : ∃ fs, Tryd.prog.underlying 80 = some (.struct fs) ∧ nodeFs fs 3 := ⟨_, Tryd.underlying80, _, _, _, _, _, _, rfl, ⟨by decide, rfl, rfl⟩, ⟨by decide, rfl, rfl⟩, ⟨by decide, rfl, rfl⟩, ⟨by decide, rfl, rfl⟩, ⟨by decide, rfl, rfl⟩, ⟨by decide, rfl, rfl⟩⟩
theorem stoodK : Tryd.prog.stoodInHeld 80 = false := by kernel_rfl
theorem guardK : Tryd.prog.eqGuardType Tryd.prog.depth 80 = false := by kernel_rfl
theorem bEqN {a b : NV} : Bin Tryd.prog .eql 80 a.v b.v (.bool (a == b)) := by
  obtain ⟨fs, hu, hfs⟩ := nodeFsK
  exact bEqNode hu hfs Tryd.underlying3 Tryd.isAgg3 stoodK guardK
theorem infoN : (Tryd.prog.info? 80).map (fun i => (i.zero, i.size, i.bytes)) = some (some nv0.v, 6, 48) := by kernel_rfl
structure OutOk (q : Option Nat) (cap : Nat) (ts : List Tr) (sp : List Value) : Prop where
  nil : q = none → (nodesOf ts).length = 0 ∧ cap = 0
  cap : ((nodesOf ts).flatMap NV.cells ++ sp).length = cap * 6
  clo : Clo ts
  nd : ts.Nodup
  wf : ∀ u ∈ ts, u.wf
theorem nodup_idx {ts : List Tr} {t : Tr} (ht : t ∉ ts) : (ts ++ [t]).idxOf t = ts.length := by
  rw [List.idxOf_append, if_neg ht]; simp
end Go.Proofs.YtlihcmknfdckdaaDoor
