/- Laws of walks, for any program, under the conditions that each theorem states. -/
import Derived.Test.YthojdcaojjmoaaaDoorA21
namespace Go.Proofs.Wit
/-! lists of nodes and their trees; the axioms -/
structure LT (o : List NV) (ts : List Tr) : Prop where
  nodes : NodesOk o
  tr : trees o = ts
theorem LT.len {o : List NV} {ts : List Tr} (h : LT o ts) : ts.length = o.length := by rw [← h.tr, trees_len]
theorem LT.snoc {o : List NV} {ts : List Tr} (h : LT o ts) {n : NV} (hn : OkN n o.length) : LT (o ++ [n]) (ts ++ [mkT n (ts.getD n.x.toNat tr0) (ts.getD n.y.toNat tr0)]) := ⟨snoc_ok h.nodes hn, by rw [trees_snoc, h.tr]⟩
theorem LT.leaf {o : List NV} {ts : List Tr} (h : LT o ts) {n : NV} (hop : 1 ≤ n.op ∧ n.op ≤ 21) (hX : usX n.op = false) (hf : fldE n.op n.i n.e n.g = 0) (hx : n.x = 0) (hy : n.y = 0) :
    LT (o ++ [n]) (ts ++ [.leaf n.op n.i n.e n.g]) := by
  have hY : usY n.op = false := by
    cases e : usY n.op with
    | false => rfl
    | true => exact absurd ((usY_X e).symm.trans hX) (by decide)
  have hn : OkN n o.length := ⟨hop, fun e => absurd (hX.symm.trans e) (by decide), fun _ => hx, fun e => absurd (hY.symm.trans e) (by decide), fun _ => hy, hf⟩
  have := h.snoc hn
  rw [mkT_leaf hX] at this
  exact this
theorem LT.treeAt {o : List NV} {ts : List Tr} (h : LT o ts) {k : Nat} {t : Tr} (ht : ts[k]? = some t) : treeAt o k = t := by
  rw [Wit.treeAt, h.tr, List.getD_eq_getElem?_getD, ht]; rfl
theorem LT.last {o : List NV} {ts : List Tr} {n : NV} {t : Tr} (h : LT (o ++ [n]) (ts ++ [t])) : Wit.treeAt (o ++ [n]) o.length = t := by
  have hl := h.len
  simp at hl
  exact h.treeAt (by rw [← hl]; simp)
theorem canT_leaf {op i e g : Int} : (canT (.leaf op i e g)).length = 1 := by rw [canT_len]; simp [subT, visit]
/-- a tree as a formula, if it is not too great -/
def bT (t : Tr) : List NV := if 200 < (canT t).length then [] else canT t
theorem bld0 {n : NV} (hop : 1 ≤ n.op ∧ n.op ≤ 21) (hX : usX n.op = false) (hf : fldE n.op n.i n.e n.g = 0) (hx : n.x = 0) (hy : n.y = 0) : bldF n [] = bT (.leaf n.op n.i n.e n.g) := by
  have h0 : LT ([] : List NV) [] := ⟨fun i hi => absurd hi (Nat.not_lt_zero _), rfl⟩
  have h1 := h0.leaf hop hX hf hx hy
  have e1 : nodeE n 0 = 0 := nodeE_zero.2 (by have := h1.nodes 0 (by simp); simpa using this)
  rw [bldF, if_neg (by simp), show outs [] = [] from rfl, show nodeK n [] ([] : List (List NV)).length = n from rfl, show ((([] : List NV).length : Nat) : Int) = 0 from rfl, if_neg (by simp [e1]), h1.last]
  rfl
theorem bT_chk {t : Tr} (h : t.ok) (hl : (canT t).length ≤ 200) : bT t = canT t ∧ chkF (canT t) = 0 ∧ topT (canT t) = t := ⟨if_neg (by omega), chkF_zero.2 (canT_okF h hl), topT_canT h.wf⟩
/-- a list that is the formula t -/
structure FmT (f : List NV) (t : Tr) : Prop where
  chk : chkF f = 0
  top : topT f = t
section
variable {i x y : Int} {T : Tr}
end
end Go.Proofs.Wit
