/- Laws of walks, for any program, under the conditions that each theorem states. -/
import Derived.Test.YtcljmlnnfdaljaaDoorF06
namespace Go.Proofs.Wit
open Go Go.RowKit
/-! models and logics, plainly -/
def outB (n : Nat) (l : List W64) : Bool := l.any (fun s => s &&& ~~~ allW n != 0#64)
def checkM (n : Int) (val : List W64) (rel : List (List W64)) : Int :=
  if n < 1 ∨ 64 < n then 2 else if 4 < rel.length ∨ 8 < val.length then 8 else if rel.any (fun r => (r.length : Int) != n) then 3 else if outB n.toNat val || rel.any (outB n.toNat) then 2 else 0
theorem outB_false {n : Nat} {l : List W64} : outB n l = false ↔ ∀ s ∈ l, s &&& ~~~ allW n = 0#64 := by
  simp [outB]
/-- a model that Check lets pass -/
structure ValM (n : Int) (val : List W64) (rel : List (List W64)) : Prop where
  n1 : 1 ≤ n
  n64 : n ≤ 64
  agents : rel.length ≤ 4
  facts : val.length ≤ 8
  len : ∀ r ∈ rel, (r.length : Int) = n
  rels : ∀ r ∈ rel, Val r
  out : outB n.toNat val = false
theorem checkM_zero {n : Int} {val : List W64} {rel : List (List W64)} : checkM n val rel = 0 ↔ ValM n val rel := by
  unfold checkM
  constructor
  · intro h
    split at h
    · cases h
    split at h
    · cases h
    split at h
    · cases h
    split at h
    · cases h
    rename_i h1 h2 h3 h4
    simp only [Bool.not_eq_true, List.any_eq_false, bne_iff_ne, ne_eq, Decidable.not_not, Bool.or_eq_false_iff] at h3 h4
    have hlen : ∀ r ∈ rel, (r.length : Int) = n := fun r hr => h3 r hr
    refine ⟨by omega, by omega, by omega, by omega, hlen, fun r hr => ?_, h4.1⟩
    have e := hlen r hr
    have h5 := h4.2 r hr
    have h5 : outB n.toNat r = false := by simpa using h5
    rw [outB_false] at h5
    refine ⟨by omega, fun u v hv => ?_⟩
    have hd := hv.dom
    have h6 := andNot_zero.1 (h5 (r.getD u 0#64) (by simp [List.getD_eq_getElem?_getD, hd])) v hv
    rw [allW_bit (by omega) (bit_lt h6)] at h6
    have := of_decide_eq_true h6
    omega
  · intro h
    rw [if_neg (by have := h.n1; have := h.n64; omega), if_neg (by have := h.agents; have := h.facts; omega), if_neg ?_, if_neg ?_]
    · rw [Bool.or_eq_true, not_or]
      refine ⟨by rw [h.out]; simp, ?_⟩
      rw [Bool.not_eq_true, List.any_eq_false]
      intro r hr
      rw [Bool.not_eq_true, outB_false]
      intro s hs
      obtain ⟨i, hi, rfl⟩ := List.mem_iff_getElem.1 hs
      have e := h.len r hr
      have hv := h.rels r hr
      refine andNot_zero.2 (fun j hj => ?_)
      have h1 : Rl r i j := by unfold Rl; simpa [List.getD_eq_getElem?_getD, hi] using hj
      rw [allW_bit (by have := h.n64; omega) (bit_lt hj)]
      have := hv.lt _ _ h1
      exact decide_eq_true (by omega)
    · rw [Bool.not_eq_true, List.any_eq_false]
      intro r hr
      have := h.len r hr
      simpa using this
end Go.Proofs.Wit
namespace Go.Proofs.Wit
open Go Go.RowKit
end Go.Proofs.Wit
namespace Go.Proofs.Wit
open Go Go.RowKit
end Go.Proofs.Wit
namespace Go.Proofs.Wit
open Go Go.RowKit
end Go.Proofs.Wit
