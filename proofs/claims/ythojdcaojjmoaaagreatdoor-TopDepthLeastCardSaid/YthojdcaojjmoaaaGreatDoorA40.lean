/- Laws of walks, for any program, under the conditions that each theorem states. -/
import Derived.Test.YthojdcaojjmoaaaGreatDoorA38
namespace Go.Proofs.Wit
open Go Go.RowKit
section
variable {n : Nat} {val : List W64} {rel : List (List W64)}
/-- what a formula of Know and Poss tells apart takes its depth -/
theorem dep_least (hv : ValM (n : Int) val rel) {t : Tr} (ht : t.ok) (hp : Pln rel.length val.length t) {v x : Nat} (hvn : v < n) (hxn : x < n) (h : ∀ k, dst n val rel v x = some k → depT t < k) : (semT n val rel t).getLsbD v = (semT n val rel t).getLsbD x := by
  have h1 := hv.n1
  have h64 := hv.n64
  have hq := hp.mono (q' := fun op i _ => op ≤ 10 ∧ (op = 9 ∨ op = 10 → i.toNat < rel.length)) (fun _ _ _ h => ⟨h.2, stat_ix h.1⟩)
  have hi := sem_dep (n := n) (val := val) (rel := rel) (by omega) (val_lt hv rfl) ht.wf hq (Nat.le_refl (depT t))
  refine hi.iff hvn hxn ?_
  cases hd : dst n val rel v x with
  | none => exact (dst_none (by omega) (by omega)).1 hd _
  | some k => exact ((dst_some (by omega) (by omega)).1 hd).2 _ (h k hd)
end
end Go.Proofs.Wit
