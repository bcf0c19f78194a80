/- Laws of walks, for any program, under the conditions that each theorem states. -/
import Derived.Test.YtlihcmknfdckdaaDoorS10
namespace Go.Proofs.Wit
/-! lists of nodes and their trees; the axioms -/
structure LT (o : List NV) (ts : List Tr) : Prop where
  nodes : NodesOk o
  tr : trees o = ts
theorem LT.len {o : List NV} {ts : List Tr} (h : LT o ts) : ts.length = o.length := by rw [← h.tr, trees_len]
theorem LT.can {t : Tr} (h : t.ok) : LT (canT t) (subT t) := ⟨canT_nodes h, trees_canT h.wf⟩
theorem LT.cat {o g : List NV} {ts us : List Tr} (h : LT o ts) (k : LT g us) : LT (catN o g) (ts ++ us) := ⟨catN_ok h.nodes k.nodes, by rw [trees_cat k.nodes.ord, h.tr, k.tr]⟩
theorem LT.snoc {o : List NV} {ts : List Tr} (h : LT o ts) {n : NV} (hn : OkN n o.length) : LT (o ++ [n]) (ts ++ [mkT n (ts.getD n.x.toNat tr0) (ts.getD n.y.toNat tr0)]) := ⟨snoc_ok h.nodes hn, by rw [trees_snoc, h.tr]⟩
theorem LT.un {o : List NV} {ts : List Tr} (h : LT o ts) {n : NV} (hop : 1 ≤ n.op ∧ n.op ≤ 21) (hX : usX n.op = true) (hY : usY n.op = false) (hf : fldE n.op n.i n.e n.g = 0) (hy : n.y = 0) {k : Nat} {t : Tr} (hx : n.x = k) (ht : ts[k]? = some t) :
  LT (o ++ [n]) (ts ++ [.un n.op n.i n.e n.g t]) := by
 have hk := (List.getElem?_eq_some_iff.1 ht).1
 rw [h.len] at hk
 have hn : OkN n o.length := ⟨hop, fun _ => by omega, fun e => absurd (e.symm.trans hX) (by decide), fun e => absurd (hY.symm.trans e) (by decide), fun _ => hy, hf⟩
 have := h.snoc hn
 rw [mkT_un hX hY, hx, Int.toNat_natCast, List.getD_eq_getElem?_getD, ht] at this
 exact this
theorem LT.bin {o : List NV} {ts : List Tr} (h : LT o ts) {n : NV} (hop : 1 ≤ n.op ∧ n.op ≤ 21) (hY : usY n.op = true) (hf : fldE n.op n.i n.e n.g = 0) {k l : Nat} {t u : Tr} (hx : n.x = k) (ht : ts[k]? = some t) (hy : n.y = l) (hu : ts[l]? = some u) :
  LT (o ++ [n]) (ts ++ [.bin n.op n.i n.e n.g t u]) := by
 have hk := (List.getElem?_eq_some_iff.1 ht).1
 have hl := (List.getElem?_eq_some_iff.1 hu).1
 rw [h.len] at hk hl
 have hX := usY_X hY
 have hn : OkN n o.length := ⟨hop, fun _ => by omega, fun e => absurd (e.symm.trans hX) (by decide), fun _ => by omega, fun e => absurd (e.symm.trans hY) (by decide), hf⟩
 have := h.snoc hn
 rw [mkT_bin hY, hx, hy, Int.toNat_natCast, Int.toNat_natCast, List.getD_eq_getElem?_getD, ht, List.getD_eq_getElem?_getD, hu] at this
 exact this
theorem LT.leaf {o : List NV} {ts : List Tr} (h : LT o ts) {n : NV} (hop : 1 ≤ n.op ∧ n.op ≤ 21) (hX : usX n.op = false) (hf : fldE n.op n.i n.e n.g = 0) (hx : n.x = 0) (hy : n.y = 0) :
  LT (o ++ [n]) (ts ++ [.leaf n.op n.i n.e n.g]) := by
 have hY : usY n.op = false := by
  cases e : usY n.op with
  | false => rfl
  | true => exact absurd ((usY_X e).symm.trans hX) (by decide)
 have hn : OkN n o.length := ⟨hop, fun e => absurd (hX.symm.trans e) (by decide), fun _ => hx, fun e => absurd (hY.symm.trans e) (by decide), fun _ => hy, hf⟩
 have := h.snoc hn
 rw [mkT_leaf hX] at this
 exact this
theorem LT.treeAt {o : List NV} {ts : List Tr} (h : LT o ts) {k : Nat} {t : Tr} (ht : ts[k]? = some t) : treeAt o k = t := by
 rw [Wit.treeAt, h.tr, List.getD_eq_getElem?_getD, ht]; rfl
theorem LT.last {o : List NV} {ts : List Tr} {n : NV} {t : Tr} (h : LT (o ++ [n]) (ts ++ [t])) : Wit.treeAt (o ++ [n]) o.length = t := by
 have hl := h.len
 simp at hl
 exact h.treeAt (by rw [← hl]; simp)
theorem subT_get {t : Tr} : (subT t)[(subT t).length - 1]? = some t := by
 obtain ⟨l, hl⟩ := subT_last t
 rw [hl]; simp
theorem canT_leaf {op i e g : Int} : (canT (.leaf op i e g)).length = 1 := by rw [canT_len]; simp [subT, visit]
def bT (t : Tr) : List NV := if 200 < (canT t).length then [] else canT t
theorem outs_one {g : List NV} (h : chkF g = 0) : LT (outs [g]) (subT (topT g)) := by
 have : LT ([] : List NV) [] := ⟨fun i hi => absurd hi (Nat.not_lt_zero _), rfl⟩
 have h2 := this.cat (LT.can (chkF_zero.1 h).top)
 rw [← compF_eq h] at h2
 exact h2
theorem outs_two {g h : List NV} (h1 : chkF g = 0) (h2 : chkF h = 0) : LT (outs [g, h]) (subT (topT g) ++ subT (topT h)) := by
 have := (outs_one h1).cat (LT.can (chkF_zero.1 h2).top)
 rw [← compF_eq h2] at this
 exact this
theorem bld0 {n : NV} (hop : 1 ≤ n.op ∧ n.op ≤ 21) (hX : usX n.op = false) (hf : fldE n.op n.i n.e n.g = 0) (hx : n.x = 0) (hy : n.y = 0) : bldF n [] = bT (.leaf n.op n.i n.e n.g) := by
 have h0 : LT ([] : List NV) [] := ⟨fun i hi => absurd hi (Nat.not_lt_zero _), rfl⟩
 have h1 := h0.leaf hop hX hf hx hy
 have e1 : nodeE n 0 = 0 := nodeE_zero.2 (by have := h1.nodes 0 (by simp); simpa using this)
 rw [bldF, if_neg (by simp), show outs [] = [] from rfl, show nodeK n [] ([] : List (List NV)).length = n from rfl, show ((([] : List NV).length : Nat) : Int) = 0 from rfl, if_neg (by simp [e1]), h1.last]
 rfl
theorem bld1 {n : NV} {g : List NV} (h : chkF g = 0) (hop : 1 ≤ n.op ∧ n.op ≤ 21) (hX : usX n.op = true) (hY : usY n.op = false) (hf : fldE n.op n.i n.e n.g = 0) (hy : n.y = 0) : bldF n [g] = bT (.un n.op n.i n.e n.g (topT g)) := by
 have h0 := outs_one h
 have hl := h0.len
 have hp : 0 < (subT (topT g)).length := by rw [← canT_len]; exact canT_pos _
 have hK : nodeK n [g] 1 = { n with x := ((outs [g]).length : Int) - 1 } := rfl
 have h1 := h0.un (n := { n with x := ((outs [g]).length : Int) - 1 }) hop hX hY hf hy (k := (subT (topT g)).length - 1) (by dsimp only; omega) subT_get
 have e1 : nodeE { n with x := ((outs [g]).length : Int) - 1 } ((outs [g]).length : Int) = 0 := nodeE_zero.2 (by have := h1.nodes (outs [g]).length (by simp); simpa using this)
 rw [bldF, if_neg (by simp [h]), show [g].length = 1 from rfl, hK, if_neg (by simp [e1]), h1.last]
 rfl
theorem bld2 {n : NV} {g k : List NV} (h : chkF g = 0) (h' : chkF k = 0) (hop : 1 ≤ n.op ∧ n.op ≤ 21) (hY : usY n.op = true) (hf : fldE n.op n.i n.e n.g = 0) : bldF n [g, k] = bT (.bin n.op n.i n.e n.g (topT g) (topT k)) := by
 have h0 := outs_two h h'
 have hl := h0.len
 have hl1 := (outs_one h).len
 have hp : 0 < (subT (topT g)).length := by rw [← canT_len]; exact canT_pos _
 have hp2 : 0 < (subT (topT k)).length := by rw [← canT_len]; exact canT_pos _
 rw [List.length_append] at hl
 have hK : nodeK n [g, k] 2 = { n with x := ((outs [g]).length : Int) - 1, y := ((outs [g, k]).length : Int) - 1 } := rfl
 have h1 := h0.bin (n := { n with x := ((outs [g]).length : Int) - 1, y := ((outs [g, k]).length : Int) - 1 }) hop hY hf (k := (subT (topT g)).length - 1) (by dsimp only; omega) (by rw [List.getElem?_append_left (by omega)]; exact subT_get) (l := (subT (topT g)).length + ((subT (topT k)).length - 1)) (by dsimp only; omega) (by rw [List.getElem?_append_right (by omega), Nat.add_sub_cancel_left]; exact subT_get)
 have e1 : nodeE { n with x := ((outs [g]).length : Int) - 1, y := ((outs [g, k]).length : Int) - 1 } ((outs [g, k]).length : Int) = 0 := nodeE_zero.2 (by have := h1.nodes (outs [g, k]).length (by simp); simpa using this)
 rw [bldF, if_neg (by simp [h, h']), show [g, k].length = 2 from rfl, hK, if_neg (by simp [e1]), h1.last]
 rfl
theorem bT_chk {t : Tr} (h : t.ok) (hl : (canT t).length ≤ 200) : bT t = canT t ∧ chkF (canT t) = 0 ∧ topT (canT t) = t := ⟨if_neg (by omega), chkF_zero.2 (canT_okF h hl), topT_canT h.wf⟩
structure FmT (f : List NV) (t : Tr) : Prop where
  chk : chkF f = 0
  top : topT f = t
theorem all2 {α : Type} {p : α → Prop} {x y : α} (h1 : p x) (h2 : p y) : ∀ g ∈ [x, y], p g := fun g hg => by
 simp only [List.mem_cons, List.not_mem_nil, or_false] at hg
 rcases hg with rfl | rfl
 ·exact h1
 ·exact h2
def axE (p a : Int) (f : List NV) : Int := if chkF f ≠ 0 then chkF f else if p < 1 ∨ 5 < p then 1 else if a < 0 ∨ 4 ≤ a then 2 else 0
/-! the lists that the reference makes -/
abbrev kn (op i x : Int) : NV := ⟨op, i, 0, 0, x, 0⟩
abbrev im (x y : Int) : NV := ⟨7, 0, 0, 0, x, y⟩
section
variable {i x y : Int} {T : Tr}
end
end Go.Proofs.Wit
