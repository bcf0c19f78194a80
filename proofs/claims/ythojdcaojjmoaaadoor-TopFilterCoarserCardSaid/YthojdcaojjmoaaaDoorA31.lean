/- Laws of walks, for any program, under the conditions that each theorem states. -/
import Derived.Test.YthojdcaojjmoaaaDoorA29
namespace Go.Proofs.Wit
open Go Go.RowKit
/-! lists that are filled from the front; the sets of a raw list of nodes -/
def prt {α : Type} (L : Nat) (P : Nat → α) (d : α) (k : Nat) : List α := (List.range L).map (fun j => if j < k then P j else d)
section
variable {α : Type} {L : Nat} {P : Nat → α} {d : α} {k j : Nat}
theorem prt_len : (prt L P d k).length = L := by simp [prt]
theorem prt_get (hj : j < k) (hL : j < L) {e : α} : (prt L P d k).getD j e = P j := by simp [prt, List.getD_eq_getElem?_getD, hL, hj]
theorem prt_zero : prt L P d 0 = List.replicate L d := by
  apply List.ext_getElem (by simp [prt])
  intro i h1 h2
  simp [prt]
theorem prt_all : prt L P d L = (List.range L).map P := by
  unfold prt
  exact List.map_congr_left (fun i hi => if_pos (List.mem_range.1 hi))
theorem prt_set (_hk : k < L) : (prt L P d k).set k (P k) = prt L P d (k + 1) := by
  apply List.ext_getElem (by simp [prt])
  intro i h1 h2
  rw [List.getElem_set]
  by_cases hi : k = i
  · subst hi; simp [prt]
  · rw [if_neg hi]
    simp only [prt, List.getElem_map, List.getElem_range]
    by_cases h3 : i < k
    · rw [if_pos h3, if_pos (by omega)]
    · rw [if_neg h3, if_neg (by omega)]
theorem prt_skip (h : P k = d) : prt L P d (k + 1) = prt L P d k := by
  unfold prt
  refine List.map_congr_left (fun i _ => ?_)
  by_cases h3 : i < k
  · rw [if_pos h3, if_pos (by omega)]
  · rw [if_neg h3]
    by_cases h4 : i = k
    · subst h4; rw [if_pos (by omega), h]
    · rw [if_neg (by omega)]
end
theorem usX_ge {op : Int} (h : 1 ≤ op ∧ op ≤ 21) : usX op = decide (4 ≤ op) := by
  rcases usX_cases h with rfl | rfl | rfl | rfl | rfl | rfl | rfl | rfl | rfl | rfl | rfl | rfl | rfl | rfl | rfl | rfl | rfl | rfl | rfl | rfl | rfl <;> rfl
/-- the set of a node that is static and fits with all its parts -/
def setV (n : Nat) (val : List W64) (rel : List (List W64)) (f : List NV) (k : Nat) : W64 := if finB rel.length val.length (treeAt f k) = true then semT n val rel (treeAt f k) else 0#64
def setsP (n : Nat) (val : List W64) (rel : List (List W64)) (f : List NV) : List W64 := (List.range f.length).map (setV n val rel f)
theorem set_step {n : Nat} {val : List W64} {rel : List (List W64)} {f : List NV} {k : Nat} (hk : k < f.length) (hO : NodesOk f) {x y : W64} (hfx : usX f[k].op = true → finB rel.length val.length (treeAt f f[k].x.toNat) = true) (hfy : usY f[k].op = true → f[k].op ≤ 13 → finB rel.length val.length (treeAt f f[k].y.toNat) = true)
    (hx : usX f[k].op = true → x = setV n val rel f f[k].x.toNat) (hy : usY f[k].op = true → y = setV n val rel f f[k].y.toNat) :
    stB rel.length val.length f[k].op f[k].i f[k].g = finB rel.length val.length (treeAt f k) ∧ (if stB rel.length val.length f[k].op f[k].i f[k].g = true then oneW n val rel f[k].op f[k].i f[k].g x y else 0#64) = setV n val rel f k := by
  have hop := (hO k hk).op
  have e1 : stB rel.length val.length f[k].op f[k].i f[k].g = finB rel.length val.length (treeAt f k) := by
    rw [finB_node hk hO]
    by_cases hs : stB rel.length val.length f[k].op f[k].i f[k].g = true
    · have h13 := (stB_iff.1 hs).1
      rw [hs]
      symm
      rw [Bool.true_and, Bool.and_eq_true]
      refine ⟨?_, ?_⟩
      · cases hX : usX f[k].op with
        | false => rfl
        | true => simpa using hfx hX
      · cases hY : usY f[k].op with
        | false => rfl
        | true => simpa using hfy hY h13
    · rw [show stB rel.length val.length f[k].op f[k].i f[k].g = false from by simpa using hs, Bool.false_and]
  refine ⟨e1, ?_⟩
  unfold setV
  rw [← e1]
  by_cases hs : stB rel.length val.length f[k].op f[k].i f[k].g = true
  · have h13 := (stB_iff.1 hs).1
    rw [if_pos hs, if_pos hs, semT_node hO hk]
    refine oneW_irr ⟨hop.1, h13⟩ (fun hX => ?_) (fun hY => ?_)
    · rw [if_pos hX, hx hX, setV, if_pos (hfx hX)]
    · rw [if_pos hY, hy hY, setV, if_pos (hfy hY h13)]
  · rw [if_neg hs, if_neg hs]
theorem fin_noX {A B : Nat} {f : List NV} {k : Nat} (hk : k < f.length) (hO : NodesOk f) (hX : usX f[k].op = true) (h : finB A B (treeAt f f[k].x.toNat) = false) : finB A B (treeAt f k) = false := by
  rw [finB_node hk hO, hX, h]; simp
theorem fin_noY {A B : Nat} {f : List NV} {k : Nat} (hk : k < f.length) (hO : NodesOk f) (hY : usY f[k].op = true) (h : finB A B (treeAt f f[k].y.toNat) = false) : finB A B (treeAt f k) = false := by
  rw [finB_node hk hO, hY, h]; simp
theorem setV_no {n : Nat} {val : List W64} {rel : List (List W64)} {f : List NV} {k : Nat} (h : finB rel.length val.length (treeAt f k) = false) : setV n val rel f k = 0#64 := if_neg (by rw [h]; simp)
end Go.Proofs.Wit
