/- Laws of a calculus of walks, proved for any program: no condition beyond those that each theorem states. -/
import Derived.Test.YtbjopkllkoomkaaDoorWI
namespace Go.Proofs.Wit
open Go Go.RowKit
/-! the walk that makes a canonical list with maps -/
theorem mget_zip {κ : Type} [DecidableEq κ] {L : List κ} {m : κ} : ∀ {s : Nat}, mget (fun a b : κ => a == b) (L.zipIdx s) m = if m ∈ L then some (L.idxOf m + s) else none := by
  induction L with
  | nil => intro s; rfl
  | cons a L ih =>
    intro s
    rw [List.zipIdx_cons, mget]
    by_cases h : a = m
    · subst h; simp
    · have h2 : (m == a) = false := by simpa using Ne.symm h
      have h4 : (a == m) = false := by simpa using h
      rw [if_neg (by simpa using h2), ih]
      by_cases h3 : m ∈ L
      · rw [if_pos h3, if_pos (by simp [h3]), List.idxOf_cons, h4]; simp; omega
      · rw [if_neg h3, if_neg (by simp [h3, Ne.symm h])]
theorem idxOf_first {κ : Type} [DecidableEq κ] {m : κ} : ∀ {L : List κ} {k : Nat}, L[k]? = some m → (∀ j, j < k → L[j]? ≠ some m) → L.idxOf m = k
  | [], k, h1, _ => by simp at h1
  | a :: L, 0, h1, _ => by
    have : a = m := by simpa using h1
    subst this; simp
  | a :: L, k + 1, h1, h2 => by
    have hne : a ≠ m := fun e => h2 0 (by omega) (by simp [e])
    have h4 : (a == m) = false := by simpa using hne
    rw [List.idxOf_cons, h4]
    simp only [Bool.cond_false]
    rw [idxOf_first (L := L) (k := k) (by simpa using h1) (fun j hj => by simpa using h2 (j + 1) (by omega))]
theorem mget_old {ts : List Tr} (hc : Clo ts) (hn : ts.Nodup) (hw : ∀ u ∈ ts, u.wf) {t : Tr} (ht : t ∈ ts) : mget (fun a b : NV => a == b) (nodesOf ts).zipIdx (nodeOf ts t) = some (ts.idxOf t) := by
  obtain ⟨h1, h2⟩ := put_old hc hn hw ht
  rw [mget_zip, if_pos (List.mem_of_getElem? h1), idxOf_first h1 h2]; rfl
theorem mget_new {ts : List Tr} (hc : Clo ts) (hw : ∀ u ∈ ts, u.wf) {t : Tr} (htw : t.wf) (hk : ∀ c ∈ kids t, c ∈ ts) (ht : t ∉ ts) : mget (fun a b : NV => a == b) (nodesOf ts).zipIdx (nodeOf ts t) = none := by
  rw [mget_zip, if_neg]
  intro hm
  obtain ⟨k, hk2, he⟩ := List.mem_iff_getElem.1 hm
  exact put_new hc hw htw hk ht k (by rw [List.getElem?_eq_getElem hk2, he])
theorem zip_snoc {ts : List Tr} {t : Tr} (hc : Clo ts) (hk : ∀ c ∈ kids t, c ∈ ts) : (nodesOf (ts ++ [t])).zipIdx = (nodesOf ts).zipIdx ++ [(nodeOf ts t, (nodesOf ts).length)] := by
  rw [nodesOf_snoc hc hk, List.zipIdx_append]; simp
theorem mget_app {κ ν : Type} {q : κ → κ → Bool} {L : List (κ × ν)} {a : κ} {v : ν} {x : κ} : mget q (L ++ [(a, v)]) x = (mget q L x).or (if q x a = true then some v else none) := by
  induction L with
  | nil => simp [mget]
  | cons p L ih =>
    rw [List.cons_append, mget, mget, ih]
    split <;> simp
/-- the map of what is done -/
abbrev evM (v : Nat) : Value := .int .i64 v
structure DoneM (f : List NV) (ts : List Tr) (L : List (Int × Nat)) : Prop where
  at_ : ∀ (i v : Nat), mget (fun a b : Int => a == b) L (i : Int) = some v → treeAt f i ∈ ts ∧ v = ts.idxOf (treeAt f i)
theorem DoneM.nil {f : List NV} {ts : List Tr} : DoneM f ts [] := ⟨fun i v h => by cases h⟩
theorem DoneM.mono {f : List NV} {ts us : List Tr} {L : List (Int × Nat)} (h : DoneM f ts L) (hp : ts <+: us) : DoneM f us L :=
  ⟨fun i v hv => by
    obtain ⟨h1, h2⟩ := h.at_ i v hv
    exact ⟨hp.subset h1, by rw [h2, idx_pre hp h1]⟩⟩
theorem DoneM.ins {f : List NV} {ts : List Tr} {L : List (Int × Nat)} (h : DoneM f ts L) {i : Nat} (hm : treeAt f i ∈ ts) : DoneM f ts (L ++ [((i : Int), ts.idxOf (treeAt f i))]) :=
  ⟨fun j v hv => by
    rw [mget_app] at hv
    cases e : mget (fun a b : Int => a == b) L (j : Int) with
    | some u =>
      rw [e] at hv
      cases hv
      exact h.at_ j _ e
    | none =>
      rw [e] at hv
      by_cases hq : ((j : Int) == (i : Int)) = true
      · have : i = j := by have := eq_of_beq hq; omega
        subst this
        simp at hv
        exact ⟨hm, hv.symm⟩
      · rw [if_neg hq] at hv; cases hv⟩
theorem mget_ins_ne {L : List (Int × Nat)} {i j : Int} {v : Nat} (h : i ≠ j) : mget (fun a b : Int => a == b) (L ++ [(i, v)]) j = mget (fun a b : Int => a == b) L j := by
  rw [mget_app, if_neg (by simpa using Ne.symm h)]; simp
/-- the lists after each of a node's operands -/
def tsX (f : List NV) (n : NV) (ts : List Tr) : List Tr := if usX n.op = true then visit (treeAt f n.x.toNat) ts else ts
def nvX (f : List NV) (n : NV) (ts : List Tr) : NV := { n with x := if usX n.op = true then ((tsX f n ts).idxOf (treeAt f n.x.toNat) : Int) else n.x }
theorem tsX_ok {f : List NV} {i : Nat} (hi : i < f.length) (hO : NodesOk f) {ts : List Tr} (hc : Clo ts) (hn : ts.Nodup) (hs : ts ⊆ trees f) :
    Clo (tsX f f[i] ts) ∧ (tsX f f[i] ts).Nodup ∧ ts <+: tsX f f[i] ts ∧ tsX f f[i] ts ⊆ trees f := by
  unfold tsX
  split
  · rename_i h
    have hx := (hO i hi).x h
    have hV := visit_ok (treeAt f f[i].x.toNat) hc hn
    exact ⟨hV.clo, hV.nd, hV.pre, visit_sub _ hO.ord.clo (treeAt_mem (by omega)) hs⟩
  · exact ⟨hc, hn, List.prefix_refl _, hs⟩
theorem tsY_ok {f : List NV} {i : Nat} (hi : i < f.length) (hO : NodesOk f) {ts : List Tr} (hc : Clo ts) (hn : ts.Nodup) (hs : ts ⊆ trees f) :
    Clo (vkids (treeAt f i) ts) ∧ (vkids (treeAt f i) ts).Nodup ∧ ts <+: vkids (treeAt f i) ts ∧ vkids (treeAt f i) ts ⊆ trees f ∧ ∀ c ∈ kids (treeAt f i), c ∈ vkids (treeAt f i) ts := by
  have hm : ∀ c ∈ kids (treeAt f i), c ∈ trees f := hO.ord.clo.mem (treeAt_mem hi)
  cases ht : treeAt f i with
  | leaf => exact ⟨hc, hn, List.prefix_refl _, hs, fun c h => by cases h⟩
  | un op j e g a =>
    rw [ht] at hm
    have hV := visit_ok a hc hn
    exact ⟨hV.clo, hV.nd, hV.pre, visit_sub _ hO.ord.clo (hm a (by simp [kids])) hs, fun c h => by rw [List.mem_singleton.1 h]; exact hV.mem⟩
  | bin op j e g a b =>
    rw [ht] at hm
    have hV := visit_ok a hc hn
    have hW := visit_ok b hV.clo hV.nd
    refine ⟨hW.clo, hW.nd, hV.pre.trans hW.pre, visit_sub _ hO.ord.clo (hm b (by simp [kids])) (visit_sub _ hO.ord.clo (hm a (by simp [kids])) hs), fun c h => ?_⟩
    simp only [kids, List.mem_cons, List.not_mem_nil, or_false] at h
    rcases h with rfl | rfl
    · exact hW.pre.subset hV.mem
    · exact hW.mem
/-- a node without a second operand -/
theorem noY {f : List NV} {i : Nat} (hi : i < f.length) (hO : NodesOk f) {ts : List Tr} (hY : usY f[i].op = false) : tsX f f[i] ts = vkids (treeAt f i) ts ∧ nvX f f[i] ts = nodeOf (vkids (treeAt f i) ts) (treeAt f i) := by
  have hok := hO i hi
  have hy0 := hok.y0 hY
  rcases kids_node hi hO with ⟨h, ht⟩ | ⟨h, _, ht⟩ | ⟨h, _⟩
  · have hx0 := hok.x0 h
    rw [ht]
    constructor
    · simp [tsX, h, vkids]
    · simp only [nvX, h, nodeOf]
      simp [hx0, hy0]
  · rw [ht]
    constructor
    · simp [tsX, h, vkids]
    · simp only [nvX, h, nodeOf, tsX, if_true, vkids]
      simp [hy0]
  · rw [hY] at h; cases h
theorem withY {f : List NV} {i : Nat} (hi : i < f.length) (hO : NodesOk f) {ts : List Tr} (hc : Clo ts) (hn : ts.Nodup) (hY : usY f[i].op = true) :
    visit (treeAt f f[i].y.toNat) (tsX f f[i] ts) = vkids (treeAt f i) ts ∧ { nvX f f[i] ts with y := ((visit (treeAt f f[i].y.toNat) (tsX f f[i] ts)).idxOf (treeAt f f[i].y.toNat) : Int) } = nodeOf (vkids (treeAt f i) ts) (treeAt f i) := by
  have hX := usY_X hY
  rcases kids_node hi hO with ⟨h, ht⟩ | ⟨_, h, ht⟩ | ⟨_, ht⟩
  · rw [hX] at h; cases h
  · rw [hY] at h; cases h
  · have hV := visit_ok (treeAt f f[i].x.toNat) hc hn
    have hW := visit_ok (treeAt f f[i].y.toNat) hV.clo hV.nd
    rw [ht]
    constructor
    · simp [tsX, hX, vkids]
    · simp only [nvX, nodeOf, tsX, hX, if_true, vkids]
      rw [idx_pre hW.pre hV.mem]
end Go.Proofs.Wit
namespace Go.Proofs.Wit
open Go Go.RowKit
theorem GoH.seqJ {P : Program} {r : Option Nat} {f : FuncId} {R : Value → World → Prop} {w0 : World} {S : List Nat} {Y : List (Nat × Obj)} {n : Nat} {k : List Item} {l : Fl} {h : Hl} {x y : Code} {α : Type} (lf : α → Fl) (hf : α → Hl)
    (hK : ∀ a, GoH P r f R w0 S Y n (.code y :: k) (lf a) (hf a))
    (hg : (∀ a l h, SubF (lf a) l → (∀ w Y', St w0 S w h Y' → St w0 S w (hf a) Y') → GoH P r f R w0 S Y n (.code y :: k) l h) → GoH P r f R w0 S Y n (.code x :: .code y :: k) l h) : GoH P r f R w0 S Y n (.code x :: .code y :: k) l h :=
  hg (fun a _ _ hl hh => (hK a).sub' hl hh)
end Go.Proofs.Wit
namespace Go.Proofs.Wit
open Go Go.RowKit
/-! formulas that are built from formulas -/
/-- a tree of which every node is right -/
def Tr.ok : Tr → Prop
  | .leaf op i e g => (1 ≤ op ∧ op ≤ 21) ∧ usX op = false ∧ fldE op i e g = 0
  | .un op i e g a => (1 ≤ op ∧ op ≤ 21) ∧ usX op = true ∧ usY op = false ∧ fldE op i e g = 0 ∧ a.ok
  | .bin op i e g a b => (1 ≤ op ∧ op ≤ 21) ∧ usY op = true ∧ fldE op i e g = 0 ∧ a.ok ∧ b.ok
theorem Tr.ok.wf : ∀ {t : Tr}, t.ok → t.wf
  | .leaf _ _ _ _, h => h.2.1
  | .un _ _ _ _ _, h => ⟨h.2.1, h.2.2.1, h.2.2.2.2.wf⟩
  | .bin _ _ _ _ _ _, h => ⟨h.2.1, h.2.2.2.1.wf, h.2.2.2.2.wf⟩
theorem Tr.ok.kid {t c : Tr} (h : t.ok) (hc : c ∈ kids t) : c.ok := by
  cases t with
  | leaf => cases hc
  | un op i e g a => rw [List.mem_singleton.1 hc]; exact h.2.2.2.2
  | bin op i e g a b =>
    simp only [kids, List.mem_cons, List.not_mem_nil, or_false] at hc
    rcases hc with rfl | rfl
    · exact h.2.2.2.1
    · exact h.2.2.2.2
theorem mkT_ok {n : NV} {a b : Tr} (h1 : 1 ≤ n.op ∧ n.op ≤ 21) (h2 : fldE n.op n.i n.e n.g = 0) (ha : usX n.op = true → a.ok) (hb : usY n.op = true → b.ok) : (mkT n a b).ok := by
  by_cases hY : usY n.op = true
  · rw [mkT_bin hY]; exact ⟨h1, hY, h2, ha (usY_X hY), hb hY⟩
  · have hY' : usY n.op = false := by simpa using hY
    by_cases hX : usX n.op = true
    · rw [mkT_un hX hY']; exact ⟨h1, hX, hY', h2, ha hX⟩
    · have hX' : usX n.op = false := by simpa using hX
      rw [mkT_leaf hX']; exact ⟨h1, hX', h2⟩
theorem NodesOk.tree {f : List NV} (hf : NodesOk f) : ∀ (i : Nat), i < f.length → (treeAt f i).ok := by
  intro i
  induction i using Nat.strongRecOn with
  | _ i ih =>
    intro hi
    have h := hf i hi
    rw [treeAt_node hi (fun hu => by have := h.x hu; omega) (fun hu => by have := h.y hu; omega)]
    exact mkT_ok h.op h.fld (fun hu => ih _ (by have := h.x hu; omega) (by have := h.x hu; omega)) (fun hu => ih _ (by have := h.y hu; omega) (by have := h.y hu; omega))
theorem NodesOk.trees {f : List NV} (hf : NodesOk f) : ∀ t ∈ Wit.trees f, t.ok := fun t ht => by
  obtain ⟨i, hi, rfl⟩ := List.mem_iff_getElem.1 ht
  rw [trees_len] at hi
  rw [← treeAt_eq hi]; exact hf.tree i hi
theorem visit_all {p : Tr → Prop} (hp : ∀ t, p t → ∀ c ∈ kids t, p c) (t : Tr) : ∀ {ts : List Tr}, p t → (∀ u ∈ ts, p u) → ∀ u ∈ visit t ts, p u := by
  induction t with
  | leaf op i e g =>
    intro ts ht h u hu
    rw [visit] at hu
    split at hu
    · exact h u hu
    · rcases List.mem_append.1 hu with hu | hu
      · exact h u hu
      · rw [List.mem_singleton.1 hu]; exact ht
  | un op i e g a iha =>
    intro ts ht h u hu
    rw [visit] at hu
    split at hu
    · exact h u hu
    · rcases List.mem_append.1 hu with hu | hu
      · exact iha (hp _ ht a (by simp [kids])) h u hu
      · rw [List.mem_singleton.1 hu]; exact ht
  | bin op i e g a b iha ihb =>
    intro ts ht h u hu
    rw [visit] at hu
    split at hu
    · exact h u hu
    · rcases List.mem_append.1 hu with hu | hu
      · exact ihb (hp _ ht b (by simp [kids])) (iha (hp _ ht a (by simp [kids])) h) u hu
      · rw [List.mem_singleton.1 hu]; exact ht
theorem subT_all {t : Tr} (h : t.ok) : ∀ u ∈ subT t, u.ok := visit_all (fun _ ht _ hc => ht.kid hc) t h (fun u hu => by cases hu)
theorem idx_take {ts : List Tr} {c : Tr} {k : Nat} (h : c ∈ ts.take k) : ts.idxOf c < k := by
  have h1 := List.idxOf_lt_length_iff.2 h
  rw [← idx_pre (List.take_prefix k ts) h] at h1
  rw [List.length_take] at h1
  omega
theorem nodesOf_ok {ts : List Tr} (hc : Clo ts) (ho : ∀ u ∈ ts, u.ok) : NodesOk (nodesOf ts) := fun i hi => by
  rw [nodesOf_len] at hi
  have hg : (nodesOf ts)[i]'(by rw [nodesOf_len]; exact hi) = nodeOf ts ts[i] := by simp [nodesOf]
  rw [hg]
  have h := ho _ (List.getElem_mem hi)
  have hk := hc i hi
  cases ht : ts[i] with
  | leaf op j e g =>
    rw [ht] at h
    have hY : usY op = false := by
      cases e : usY op with
      | false => rfl
      | true => exact absurd ((usY_X e).symm.trans h.2.1) (by decide)
    exact ⟨h.1, fun hu => absurd ((h.2.1).symm.trans hu) (by decide), fun _ => rfl, fun hu => absurd ((hY).symm.trans hu) (by decide), fun _ => rfl, h.2.2⟩
  | un op j e g a =>
    rw [ht] at h hk
    have := idx_take (hk a (by simp [kids]))
    exact ⟨h.1, fun _ => ⟨by simp [nodeOf], by simp only [nodeOf]; omega⟩, fun hu => absurd ((h.2.1).symm.trans hu) (by decide), fun hu => absurd ((h.2.2.1).symm.trans hu) (by decide), fun _ => rfl, h.2.2.2.1⟩
  | bin op j e g a b =>
    rw [ht] at h hk
    have h1 := idx_take (hk a (by simp [kids]))
    have h2 := idx_take (hk b (by simp [kids]))
    exact ⟨h.1, fun _ => ⟨by simp [nodeOf], by simp only [nodeOf]; omega⟩, fun hu => absurd ((usY_X h.2.1).symm.trans hu) (by decide), fun _ => ⟨by simp [nodeOf], by simp only [nodeOf]; omega⟩, fun hu => absurd ((h.2.1).symm.trans hu) (by decide), h.2.2.1⟩
theorem canT_nodes {t : Tr} (h : t.ok) : NodesOk (canT t) := nodesOf_ok (subT_ok t).clo (subT_all h)
theorem canT_pos (t : Tr) : 0 < (canT t).length := by
  rw [canT_len]
  obtain ⟨l, hl⟩ := subT_last t
  rw [hl]; simp
theorem canT_okF {t : Tr} (h : t.ok) (hl : (canT t).length ≤ 200) : OkF (canT t) := ⟨canT_pos t, hl, fun i hi => nodeE_zero.2 (canT_nodes h i hi)⟩
/-- a node, moved behind d others -/
def shiftN (d : Nat) (n : NV) : NV := { n with x := if usX n.op = true then n.x + d else n.x, y := if usY n.op = true then n.y + d else n.y }
def catN (o g : List NV) : List NV := o ++ g.map (shiftN o.length)
theorem catN_len {o g : List NV} : (catN o g).length = o.length + g.length := by simp [catN]
theorem shift_ok {d : Nat} {n : NV} {a : Int} (h : OkN n a) : OkN (shiftN d n) (a + d) := by
  refine ⟨h.op, fun hu => ?_, fun hu => ?_, fun hu => ?_, fun hu => ?_, h.fld⟩
  · have hu' : usX n.op = true := hu
    have := h.x hu'
    simp only [shiftN, if_pos hu']; omega
  · have hu' : usX n.op = false := hu
    have := h.x0 hu'
    simp only [shiftN]; rw [if_neg (by rw [hu']; simp)]; exact this
  · have hu' : usY n.op = true := hu
    have := h.y hu'
    simp only [shiftN, if_pos hu']; omega
  · have hu' : usY n.op = false := hu
    have := h.y0 hu'
    simp only [shiftN]; rw [if_neg (by rw [hu']; simp)]; exact this
theorem catN_ok {o g : List NV} (ho : NodesOk o) (hg : NodesOk g) : NodesOk (catN o g) := fun i hi => by
  by_cases h : i < o.length
  · have : (catN o g)[i] = o[i] := by simp [catN, List.getElem_append_left h]
    rw [this]; exact ho i h
  · rw [catN_len] at hi
    have hj : i - o.length < g.length := by omega
    have : (catN o g)[i] = shiftN o.length g[i - o.length] := by simp [catN, List.getElem_append_right (Nat.le_of_not_lt h)]
    rw [this]
    have := shift_ok (d := o.length) (hg _ hj)
    rw [show ((i - o.length : Nat) : Int) + o.length = i from by omega] at this
    exact this
theorem snoc_ok {o : List NV} {n : NV} (ho : NodesOk o) (hn : OkN n o.length) : NodesOk (o ++ [n]) := fun i hi => by
  by_cases h : i < o.length
  · rw [List.getElem_append_left h]; exact ho i h
  · have : i = o.length := by simp at hi; omega
    subst this
    simp; exact hn
theorem OrdF.dropL {f : List NV} {n : NV} (h : OrdF (f ++ [n])) : OrdF f := fun i hi => by
  have := h i (by simp; omega)
  rwa [List.getElem_append_left hi] at this
theorem trees_cat {o g : List NV} (hg : OrdF g) : trees (catN o g) = trees o ++ trees g := by
  induction g using snoc_ind with
  | h0 => simp [catN, trees, trs]
  | h1 g m ih =>
    have h := ih hg.dropL
    have hm := hg g.length (by simp)
    simp only [List.getElem_concat_length] at hm
    have hcat : catN o (g ++ [m]) = catN o g ++ [shiftN o.length m] := by simp [catN]
    rw [hcat, trees_snoc, trees_snoc, h, ← List.append_assoc]
    congr 2
    have hget : ∀ v : Int, 0 ≤ v → (trees o ++ trees g).getD (v + o.length).toNat tr0 = (trees g).getD v.toNat tr0 := fun v hv => by
      rw [List.getD_eq_getElem?_getD, List.getElem?_append_right (by rw [trees_len]; omega), trees_len, List.getD_eq_getElem?_getD]
      congr 2; omega
    by_cases hY : usY m.op = true
    · have hX := usY_X hY
      have e1 : (shiftN o.length m).x = m.x + o.length := by simp [shiftN, hX]
      have e2 : (shiftN o.length m).y = m.y + o.length := by simp [shiftN, hY]
      rw [mkT_bin (n := shiftN o.length m) hY, mkT_bin hY, e1, e2, hget _ (hm.1 hX).1, hget _ (hm.2 hY).1]; rfl
    · have hY' : usY m.op = false := by simpa using hY
      by_cases hX : usX m.op = true
      · have e1 : (shiftN o.length m).x = m.x + o.length := by simp [shiftN, hX]
        rw [mkT_un (n := shiftN o.length m) hX hY', mkT_un hX hY', e1, hget _ (hm.1 hX).1]; rfl
      · have hX' : usX m.op = false := by simpa using hX
        rw [mkT_leaf (n := shiftN o.length m) hX', mkT_leaf hX']; rfl
/-- a formula's canonical list -/
def compF (f : List NV) : List NV := if chkF f ≠ 0 then [] else canT (topT f)
def outN : List (List NV) → List NV → List NV
  | [], o => o
  | g :: gs, o => outN gs (catN o (compF g))
theorem outN_snoc : ∀ {gs : List (List NV)} {o g : List NV}, outN (gs ++ [g]) o = catN (outN gs o) (compF g)
  | [], _, _ => rfl
  | h :: gs, o, g => by rw [List.cons_append, outN, outN_snoc, outN]
def outs (gs : List (List NV)) : List NV := outN gs []
/-- the node that is set on top of k formulas -/
def nodeK (n : NV) (gs : List (List NV)) : Nat → NV
  | 0 => n
  | k + 1 => if k = 0 then { nodeK n gs k with x := ((outs (gs.take (k + 1))).length : Int) - 1 } else { nodeK n gs k with y := ((outs (gs.take (k + 1))).length : Int) - 1 }
def bldF (n : NV) (gs : List (List NV)) : List NV :=
  if ∃ g ∈ gs, chkF g ≠ 0 then [] else if nodeE (nodeK n gs gs.length) (outs gs).length ≠ 0 then []
  else if 200 < (canT (treeAt (outs gs ++ [nodeK n gs gs.length]) (outs gs).length)).length then [] else canT (treeAt (outs gs ++ [nodeK n gs gs.length]) (outs gs).length)
theorem topT_treeAt {f : List NV} : topT f = treeAt f (f.length - 1) := rfl
theorem subF_top {f : List NV} : subF f ((f.length : Int) - 1) = compF f := by
  unfold subF compF
  by_cases h : chkF f = 0
  · have hp := (chkF_zero.1 h).pos
    rw [if_neg (by simp [h]; omega), if_neg (by simp [h]), topT_treeAt]
    congr 2; omega
  · rw [if_pos (.inl h), if_pos h]
theorem compF_eq {f : List NV} (h : chkF f = 0) : compF f = canT (topT f) := if_neg (by simp [h])
theorem OkF.top {f : List NV} (h : OkF f) : (topT f).ok := by
  rw [topT_treeAt]; exact h.nodes.tree _ (by have := h.pos; omega)
theorem OkF.topMem {f : List NV} (h : OkF f) : topT f ∈ trees f := by
  rw [topT_treeAt]; exact treeAt_mem (by have := h.pos; omega)
theorem compF_len {f : List NV} (h : chkF f = 0) : (compF f).length ≤ f.length := by
  have hok := chkF_zero.1 h
  rw [compF_eq h, topT_treeAt]
  have := canon_len hok.ord (i := f.length - 1) (by have := hok.pos; omega)
  have := hok.pos
  omega
theorem compF_ok {f : List NV} (h : chkF f = 0) : OkF (compF f) := by
  have hok := chkF_zero.1 h
  have hl := compF_len h
  have := hok.len
  rw [compF_eq h] at hl ⊢
  exact canT_okF hok.top (by omega)
theorem outs_ok : ∀ {gs : List (List NV)}, (∀ g ∈ gs, chkF g = 0) → NodesOk (outs gs) := by
  intro gs
  induction gs using snoc_ind with
  | h0 => intro _ i hi; exact absurd hi (Nat.not_lt_zero _)
  | h1 gs g ih =>
    intro h
    unfold outs
    rw [outN_snoc]
    exact catN_ok (ih (fun g' hg' => h g' (List.mem_append_left _ hg'))) (compF_ok (h g (by simp))).nodes
theorem outs_len {gs : List (List NV)} (h : ∀ g ∈ gs, chkF g = 0) : (outs gs).length ≤ 200 * gs.length := by
  induction gs using snoc_ind with
  | h0 => exact Nat.zero_le _
  | h1 gs g ih =>
    unfold outs
    rw [outN_snoc, catN_len]
    have h1 := ih (fun g' hg' => h g' (List.mem_append_left _ hg'))
    have h2 := (compF_ok (h g (by simp))).len
    unfold outs at h1
    simp
    omega
theorem outs_take {gs : List (List NV)} {k : Nat} (hk : k < gs.length) : outs (gs.take (k + 1)) = catN (outs (gs.take k)) (compF gs[k]) := by
  rw [List.take_succ_eq_append_getElem hk]; exact outN_snoc
/-- formulas in memory -/
structure FV where
  a : Option Addr
  c : Nat
  f : List NV
def FV.v (x : FV) : Value := .slice x.a x.f.length x.c
def SlG (w : World) (a : Option Addr) (gs : List FV) : Prop := Sl w a (gs.map FV.v)
theorem SlG.ex0 {w0 w : World} {a : Option Addr} {gs : List FV} (h : SlG w0 a gs) {S : List Nat} (e : Ex S w0 w) (hS : ∀ b o, a = some ⟨b, o, none⟩ → b ∉ S := by simp) : SlG w a gs := Sl.ex h e hS
theorem SlG.at {w : World} {a : Option Addr} {gs : List FV} (h : SlG w a gs) (k : Nat) (hk : k < gs.length) : w.cell? (adr a k) = some gs[k].v := by
  rw [Sl.cell h k (by simpa using hk)]
  simp [List.getD_eq_getElem?_getD, hk]
theorem nodeK_0 {n : NV} {gs : List (List NV)} : nodeK n gs 1 = { n with x := ((outs (gs.take 1)).length : Int) - 1 } := rfl
theorem nodeK_s {n : NV} {gs : List (List NV)} {k : Nat} (h : k ≠ 0) : nodeK n gs (k + 1) = { nodeK n gs k with y := ((outs (gs.take (k + 1))).length : Int) - 1 } := by rw [nodeK, if_neg h]
theorem cat_take {o c : List NV} {m : Nat} (hm : m < c.length) : catN o (c.take (m + 1)) = catN o (c.take m) ++ [shiftN o.length c[m]] := by
  unfold catN
  rw [List.take_succ_eq_append_getElem hm, List.map_append, List.append_assoc]; rfl
theorem cat_zero {o c : List NV} : catN o (c.take 0) = o := by simp [catN]
end Go.Proofs.Wit
namespace Go.Proofs.Wit
/-! lists of nodes and their trees; the axioms -/
structure LT (o : List NV) (ts : List Tr) : Prop where
  nodes : NodesOk o
  tr : trees o = ts
theorem LT.len {o : List NV} {ts : List Tr} (h : LT o ts) : ts.length = o.length := by rw [← h.tr, trees_len]
theorem LT.can {t : Tr} (h : t.ok) : LT (canT t) (subT t) := ⟨canT_nodes h, trees_canT h.wf⟩
theorem LT.cat {o g : List NV} {ts us : List Tr} (h : LT o ts) (k : LT g us) : LT (catN o g) (ts ++ us) := ⟨catN_ok h.nodes k.nodes, by rw [trees_cat k.nodes.ord, h.tr, k.tr]⟩
theorem LT.snoc {o : List NV} {ts : List Tr} (h : LT o ts) {n : NV} (hn : OkN n o.length) : LT (o ++ [n]) (ts ++ [mkT n (ts.getD n.x.toNat tr0) (ts.getD n.y.toNat tr0)]) := ⟨snoc_ok h.nodes hn, by rw [trees_snoc, h.tr]⟩
theorem LT.un {o : List NV} {ts : List Tr} (h : LT o ts) {n : NV} (hop : 1 ≤ n.op ∧ n.op ≤ 21) (hX : usX n.op = true) (hY : usY n.op = false) (hf : fldE n.op n.i n.e n.g = 0) (hy : n.y = 0) {k : Nat} {t : Tr} (hx : n.x = k) (ht : ts[k]? = some t) :
    LT (o ++ [n]) (ts ++ [.un n.op n.i n.e n.g t]) := by
  have hk := (List.getElem?_eq_some_iff.1 ht).1
  rw [h.len] at hk
  have hn : OkN n o.length := ⟨hop, fun _ => by omega, fun e => absurd (e.symm.trans hX) (by decide), fun e => absurd (hY.symm.trans e) (by decide), fun _ => hy, hf⟩
  have := h.snoc hn
  rw [mkT_un hX hY, hx, Int.toNat_natCast, List.getD_eq_getElem?_getD, ht] at this
  exact this
theorem LT.bin {o : List NV} {ts : List Tr} (h : LT o ts) {n : NV} (hop : 1 ≤ n.op ∧ n.op ≤ 21) (hY : usY n.op = true) (hf : fldE n.op n.i n.e n.g = 0) {k l : Nat} {t u : Tr} (hx : n.x = k) (ht : ts[k]? = some t) (hy : n.y = l) (hu : ts[l]? = some u) :
    LT (o ++ [n]) (ts ++ [.bin n.op n.i n.e n.g t u]) := by
  have hk := (List.getElem?_eq_some_iff.1 ht).1
  have hl := (List.getElem?_eq_some_iff.1 hu).1
  rw [h.len] at hk hl
  have hX := usY_X hY
  have hn : OkN n o.length := ⟨hop, fun _ => by omega, fun e => absurd (e.symm.trans hX) (by decide), fun _ => by omega, fun e => absurd (e.symm.trans hY) (by decide), hf⟩
  have := h.snoc hn
  rw [mkT_bin hY, hx, hy, Int.toNat_natCast, Int.toNat_natCast, List.getD_eq_getElem?_getD, ht, List.getD_eq_getElem?_getD, hu] at this
  exact this
theorem LT.leaf {o : List NV} {ts : List Tr} (h : LT o ts) {n : NV} (hop : 1 ≤ n.op ∧ n.op ≤ 21) (hX : usX n.op = false) (hf : fldE n.op n.i n.e n.g = 0) (hx : n.x = 0) (hy : n.y = 0) :
    LT (o ++ [n]) (ts ++ [.leaf n.op n.i n.e n.g]) := by
  have hY : usY n.op = false := by
    cases e : usY n.op with
    | false => rfl
    | true => exact absurd ((usY_X e).symm.trans hX) (by decide)
  have hn : OkN n o.length := ⟨hop, fun e => absurd (hX.symm.trans e) (by decide), fun _ => hx, fun e => absurd (hY.symm.trans e) (by decide), fun _ => hy, hf⟩
  have := h.snoc hn
  rw [mkT_leaf hX] at this
  exact this
theorem LT.treeAt {o : List NV} {ts : List Tr} (h : LT o ts) {k : Nat} {t : Tr} (ht : ts[k]? = some t) : treeAt o k = t := by
  rw [Wit.treeAt, h.tr, List.getD_eq_getElem?_getD, ht]; rfl
theorem LT.last {o : List NV} {ts : List Tr} {n : NV} {t : Tr} (h : LT (o ++ [n]) (ts ++ [t])) : Wit.treeAt (o ++ [n]) o.length = t := by
  have hl := h.len
  simp at hl
  exact h.treeAt (by rw [← hl]; simp)
theorem LT.top {o : List NV} {ts : List Tr} {t : Tr} (h : LT o (ts ++ [t])) : topT o = t := by
  have hl := h.len
  simp at hl
  rw [topT_treeAt]
  exact h.treeAt (by rw [← hl]; simp)
theorem LT.chk {o : List NV} {ts : List Tr} (h : LT o ts) (hp : 0 < o.length) (hl : o.length ≤ 200) : chkF o = 0 := chkF_zero.2 ⟨hp, hl, fun i hi => nodeE_zero.2 (h.nodes i hi)⟩
theorem subT_get {t : Tr} : (subT t)[(subT t).length - 1]? = some t := by
  obtain ⟨l, hl⟩ := subT_last t
  rw [hl]; simp
theorem visit_len (t : Tr) : ∀ {ts : List Tr}, Clo ts → ts.Nodup → (visit t ts).length ≤ ts.length + (subT t).length := fun {ts} hc hn => by
  have hV := visit_ok t hc hn
  have hsub : visit t ts ⊆ ts ++ subT t := by
    have : ∀ (t : Tr) {ts us : List Tr}, Clo us → t ∈ us → visit t ts ⊆ ts ++ us := by
      intro t
      induction t with
      | leaf op i e g =>
        intro ts us hc ht
        rw [visit]; split
        · exact List.subset_append_left _ _
        · exact List.append_subset.2 ⟨List.subset_append_left _ _, by simpa using .inr ht⟩
      | un op i e g a iha =>
        intro ts us hc ht
        rw [visit]; split
        · exact List.subset_append_left _ _
        · exact List.append_subset.2 ⟨iha hc (hc.mem ht a (by simp [kids])), by simpa using .inr ht⟩
      | bin op i e g a b iha ihb =>
        intro ts us hc ht
        rw [visit]; split
        · exact List.subset_append_left _ _
        · refine List.append_subset.2 ⟨fun u hu => ?_, by simpa using .inr ht⟩
          rcases List.mem_append.1 (ihb hc (hc.mem ht b (by simp [kids])) hu) with h | h
          · exact iha hc (hc.mem ht a (by simp [kids])) h
          · exact List.mem_append_right _ h
    exact this t (subT_ok t).clo (subT_ok t).mem
  have := hV.nd.length_le_of_subset hsub
  simpa using this
theorem canT_un {op i e g : Int} {a : Tr} : (canT (.un op i e g a)).length = (canT a).length + 1 := by
  rw [canT_len, canT_len]; simp [subT, visit]
theorem canT_bin {op i e g : Int} {a b : Tr} : (canT (.bin op i e g a b)).length ≤ (canT a).length + (canT b).length + 1 := by
  rw [canT_len, canT_len, canT_len]
  have := visit_len b (subT_ok a).clo (subT_ok a).nd
  simp only [subT, visit, List.not_mem_nil, if_false, List.length_append, List.length_singleton] at this ⊢
  omega
theorem canT_leaf {op i e g : Int} : (canT (.leaf op i e g)).length = 1 := by rw [canT_len]; simp [subT, visit]
/-- a tree as a formula, if it is not too great -/
def bT (t : Tr) : List NV := if 200 < (canT t).length then [] else canT t
theorem outs_one {g : List NV} (h : chkF g = 0) : LT (outs [g]) (subT (topT g)) := by
  have : LT ([] : List NV) [] := ⟨fun i hi => absurd hi (Nat.not_lt_zero _), rfl⟩
  have h2 := this.cat (LT.can (chkF_zero.1 h).top)
  rw [← compF_eq h] at h2
  exact h2
theorem outs_two {g h : List NV} (h1 : chkF g = 0) (h2 : chkF h = 0) : LT (outs [g, h]) (subT (topT g) ++ subT (topT h)) := by
  have := (outs_one h1).cat (LT.can (chkF_zero.1 h2).top)
  rw [← compF_eq h2] at this
  exact this
theorem bld0 {n : NV} (hop : 1 ≤ n.op ∧ n.op ≤ 21) (hX : usX n.op = false) (hf : fldE n.op n.i n.e n.g = 0) (hx : n.x = 0) (hy : n.y = 0) : bldF n [] = bT (.leaf n.op n.i n.e n.g) := by
  have h0 : LT ([] : List NV) [] := ⟨fun i hi => absurd hi (Nat.not_lt_zero _), rfl⟩
  have h1 := h0.leaf hop hX hf hx hy
  have e1 : nodeE n 0 = 0 := nodeE_zero.2 (by have := h1.nodes 0 (by simp); simpa using this)
  rw [bldF, if_neg (by simp), show outs [] = [] from rfl, show nodeK n [] ([] : List (List NV)).length = n from rfl, show ((([] : List NV).length : Nat) : Int) = 0 from rfl, if_neg (by simp [e1]), h1.last]
  rfl
theorem bld1 {n : NV} {g : List NV} (h : chkF g = 0) (hop : 1 ≤ n.op ∧ n.op ≤ 21) (hX : usX n.op = true) (hY : usY n.op = false) (hf : fldE n.op n.i n.e n.g = 0) (hy : n.y = 0) : bldF n [g] = bT (.un n.op n.i n.e n.g (topT g)) := by
  have h0 := outs_one h
  have hl := h0.len
  have hp : 0 < (subT (topT g)).length := by rw [← canT_len]; exact canT_pos _
  have hK : nodeK n [g] 1 = { n with x := ((outs [g]).length : Int) - 1 } := rfl
  have h1 := h0.un (n := { n with x := ((outs [g]).length : Int) - 1 }) hop hX hY hf hy (k := (subT (topT g)).length - 1) (by dsimp only; omega) subT_get
  have e1 : nodeE { n with x := ((outs [g]).length : Int) - 1 } ((outs [g]).length : Int) = 0 := nodeE_zero.2 (by have := h1.nodes (outs [g]).length (by simp); simpa using this)
  rw [bldF, if_neg (by simp [h]), show [g].length = 1 from rfl, hK, if_neg (by simp [e1]), h1.last]
  rfl
theorem bld2 {n : NV} {g k : List NV} (h : chkF g = 0) (h' : chkF k = 0) (hop : 1 ≤ n.op ∧ n.op ≤ 21) (hY : usY n.op = true) (hf : fldE n.op n.i n.e n.g = 0) : bldF n [g, k] = bT (.bin n.op n.i n.e n.g (topT g) (topT k)) := by
  have h0 := outs_two h h'
  have hl := h0.len
  have hl1 := (outs_one h).len
  have hp : 0 < (subT (topT g)).length := by rw [← canT_len]; exact canT_pos _
  have hp2 : 0 < (subT (topT k)).length := by rw [← canT_len]; exact canT_pos _
  rw [List.length_append] at hl
  have hK : nodeK n [g, k] 2 = { n with x := ((outs [g]).length : Int) - 1, y := ((outs [g, k]).length : Int) - 1 } := rfl
  have h1 := h0.bin (n := { n with x := ((outs [g]).length : Int) - 1, y := ((outs [g, k]).length : Int) - 1 }) hop hY hf (k := (subT (topT g)).length - 1) (by dsimp only; omega) (by rw [List.getElem?_append_left (by omega)]; exact subT_get) (l := (subT (topT g)).length + ((subT (topT k)).length - 1)) (by dsimp only; omega) (by rw [List.getElem?_append_right (by omega), Nat.add_sub_cancel_left]; exact subT_get)
  have e1 : nodeE { n with x := ((outs [g]).length : Int) - 1, y := ((outs [g, k]).length : Int) - 1 } ((outs [g, k]).length : Int) = 0 := nodeE_zero.2 (by have := h1.nodes (outs [g, k]).length (by simp); simpa using this)
  rw [bldF, if_neg (by simp [h, h']), show [g, k].length = 2 from rfl, hK, if_neg (by simp [e1]), h1.last]
  rfl
theorem bT_chk {t : Tr} (h : t.ok) (hl : (canT t).length ≤ 200) : bT t = canT t ∧ chkF (canT t) = 0 ∧ topT (canT t) = t := ⟨if_neg (by omega), chkF_zero.2 (canT_okF h hl), topT_canT h.wf⟩
/-- a list that is the formula t -/
structure FmT (f : List NV) (t : Tr) : Prop where
  chk : chkF f = 0
  top : topT f = t
theorem FmT.ok {f : List NV} {t : Tr} (h : FmT f t) : t.ok := by rw [← h.top]; exact (chkF_zero.1 h.chk).top
theorem FmT.len {f : List NV} {t : Tr} (h : FmT f t) : (canT t).length ≤ f.length := by rw [← h.top, ← compF_eq h.chk]; exact compF_len h.chk
theorem FmT.can {t : Tr} (h : t.ok) (hl : (canT t).length ≤ 200) : FmT (canT t) t := ⟨(bT_chk h hl).2.1, (bT_chk h hl).2.2⟩
theorem fld_ag {op i : Int} (h : op = 9 ∨ op = 10) (h1 : 0 ≤ i) (h2 : i < 4) : fldE op i 0 0 = 0 := by
  rcases h with rfl | rfl
  · rw [fldE, if_neg (by simp [iO, agO, grO]), if_neg (by simp [agO, grO]; omega)]
  · rw [fldE, if_neg (by simp [iO, agO, grO]), if_neg (by simp [agO, grO]; omega)]
theorem un_ok {op i : Int} {t : Tr} (h : op = 9 ∨ op = 10) (h1 : 0 ≤ i) (h2 : i < 4) (ht : t.ok) : (Tr.un op i 0 0 t).ok := ⟨by omega, by rcases h with rfl | rfl <;> rfl, by rcases h with rfl | rfl <;> rfl, fld_ag h h1 h2, ht⟩
theorem imp_ok {t u : Tr} (ht : t.ok) (hu : u.ok) : (Tr.bin 7 0 0 0 t u).ok := ⟨by omega, rfl, rfl, ht, hu⟩
theorem un_bld {op i : Int} {f : List NV} {t : Tr} (hf : FmT f t) (h : op = 9 ∨ op = 10) (h1 : 0 ≤ i) (h2 : i < 4) (hl : (canT t).length ≤ 199) : bldF ⟨op, i, 0, 0, 0, 0⟩ [f] = canT (.un op i 0 0 t) := by
  have hk := un_ok h h1 h2 hf.ok
  rw [bld1 (n := ⟨op, i, 0, 0, 0, 0⟩) hf.chk hk.1 hk.2.1 hk.2.2.1 hk.2.2.2.1 rfl, hf.top]
  exact if_neg (by rw [canT_un]; omega)
theorem imp_bld {f g : List NV} {t u : Tr} (hf : FmT f t) (hg : FmT g u) (hl : (canT t).length + (canT u).length ≤ 199) : bldF ⟨7, 0, 0, 0, 0, 0⟩ [f, g] = canT (.bin 7 0 0 0 t u) := by
  have hk := imp_ok hf.ok hg.ok
  rw [bld2 (n := ⟨7, 0, 0, 0, 0, 0⟩) hf.chk hg.chk hk.1 hk.2.1 hk.2.2.1, hf.top, hg.top]
  refine if_neg ?_
  dsimp only
  have := canT_bin (op := 7) (i := 0) (e := 0) (g := 0) (a := t) (b := u)
  omega
theorem all2 {α : Type} {p : α → Prop} {x y : α} (h1 : p x) (h2 : p y) : ∀ g ∈ [x, y], p g := fun g hg => by
  simp only [List.mem_cons, List.not_mem_nil, or_false] at hg
  rcases hg with rfl | rfl
  · exact h1
  · exact h2
theorem all1 {α : Type} {p : α → Prop} {x : α} (h1 : p x) : ∀ g ∈ [x], p g := fun g hg => by rw [List.mem_singleton.1 hg]; exact h1
/-- the axioms of the properties -/
def axT (p a : Int) (t : Tr) : Tr :=
  if p = 1 then .bin 7 0 0 0 (.un 9 a 0 0 t) (.un 10 a 0 0 t)
  else if p = 2 then .bin 7 0 0 0 (.un 9 a 0 0 t) t
  else if p = 3 then .bin 7 0 0 0 t (.un 9 a 0 0 (.un 10 a 0 0 t))
  else if p = 4 then .bin 7 0 0 0 (.un 9 a 0 0 t) (.un 9 a 0 0 (.un 9 a 0 0 t))
  else .bin 7 0 0 0 (.un 10 a 0 0 t) (.un 9 a 0 0 (.un 10 a 0 0 t))
def axE (p a : Int) (f : List NV) : Int := if chkF f ≠ 0 then chkF f else if p < 1 ∨ 5 < p then 1 else if a < 0 ∨ 4 ≤ a then 2 else 0
def axF (p a : Int) (f : List NV) : List NV := if axE p a f ≠ 0 then [] else canT (axT p a (topT f))
theorem axF_bad {p a : Int} {f : List NV} (h : axE p a f ≠ 0) : axF p a f = [] := if_pos h
theorem axE_chk {p a : Int} {f : List NV} (h : chkF f ≠ 0) : axE p a f = chkF f := if_pos h
theorem axE_p {p a : Int} {f : List NV} (h : chkF f = 0) (h1 : p < 1 ∨ 5 < p) : axE p a f = 1 := by rw [axE, if_neg (by simp [h]), if_pos h1]
theorem axE_a {p a : Int} {f : List NV} (h : chkF f = 0) (h1 : ¬ (p < 1 ∨ 5 < p)) (h2 : a < 0 ∨ 4 ≤ a) : axE p a f = 2 := by rw [axE, if_neg (by simp [h]), if_neg h1, if_pos h2]
theorem axE_0 {p a : Int} {f : List NV} (h : chkF f = 0) (h1 : ¬ (p < 1 ∨ 5 < p)) (h2 : ¬ (a < 0 ∨ 4 ≤ a)) : axE p a f = 0 := by rw [axE, if_neg (by simp [h]), if_neg h1, if_neg h2]
theorem axF_0 {p a : Int} {f : List NV} (h : axE p a f = 0) : axF p a f = canT (axT p a (topT f)) := if_neg (by simp [h])
theorem axF_len {p a : Int} {f : List NV} (h : f.length ≤ 60) : (axF p a f).length ≤ 200 := by
  unfold axF
  split
  · exact Nat.zero_le _
  · rename_i he
    have hF : FmT f (topT f) := ⟨Classical.byContradiction (fun h1 => he (by rw [axE_chk h1]; exact h1)), rfl⟩
    have h0 := hF.len
    have e1 : ∀ (op : Int) (t : Tr), (canT (.un op a 0 0 t)).length = (canT t).length + 1 := fun op t => canT_un
    have e2 : ∀ (t u : Tr), (canT (.bin 7 0 0 0 t u)).length ≤ (canT t).length + (canT u).length + 1 := fun t u => canT_bin
    unfold axT
    split
    · refine Nat.le_trans (e2 _ _) ?_; simp only [e1]; omega
    · split
      · refine Nat.le_trans (e2 _ _) ?_; simp only [e1]; omega
      · split
        · refine Nat.le_trans (e2 _ _) ?_; simp only [e1]; omega
        · split
          · refine Nat.le_trans (e2 _ _) ?_; simp only [e1]; omega
          · refine Nat.le_trans (e2 _ _) ?_; simp only [e1]; omega
/-! the lists that the reference makes -/
abbrev kn (op i x : Int) : NV := ⟨op, i, 0, 0, x, 0⟩
abbrev im (x y : Int) : NV := ⟨7, 0, 0, 0, x, y⟩
section
variable {i x y : Int} {T : Tr}
theorem rax_base (h : T.ok) : LT (canT T) (subT T) ∧ 0 < (subT T).length ∧ (subT T).length = (canT T).length := ⟨LT.can h, by rw [← canT_len]; exact canT_pos _, canT_len.symm⟩
theorem kn_lt {o : List NV} {ts : List Tr} (h : LT o ts) {op : Int} (ho : op = 9 ∨ op = 10) (h1 : 0 ≤ i) (h2 : i < 4) {k : Nat} {t : Tr} (hx : x = k) (ht : ts[k]? = some t) : LT (o ++ [kn op i x]) (ts ++ [.un op i 0 0 t]) :=
  h.un (n := kn op i x) (by dsimp only [kn]; omega) (by rcases ho with rfl | rfl <;> rfl) (by rcases ho with rfl | rfl <;> rfl) (fld_ag ho h1 h2) rfl hx ht
theorem im_lt {o : List NV} {ts : List Tr} (h : LT o ts) {k l : Nat} {t u : Tr} (hx : x = k) (ht : ts[k]? = some t) (hy : y = l) (hu : ts[l]? = some u) : LT (o ++ [⟨7, 0, 0, 0, x, y⟩]) (ts ++ [.bin 7 0 0 0 t u]) :=
  h.bin (n := ⟨7, 0, 0, 0, x, y⟩) (by dsimp only; omega) rfl rfl hx ht hy hu
theorem at0 {A B : List Tr} (h : A[A.length - 1]? = some T) (hA : 0 < A.length) : (A ++ B)[A.length - 1]? = some T := by rw [List.getElem?_append_left (by omega)]; exact h
theorem at1 {A B : List Tr} {u : Tr} : (A ++ [u] ++ B)[A.length]? = some u := by simp
theorem at2 {A B : List Tr} {u v : Tr} : (A ++ [u] ++ [v] ++ B)[A.length + 1]? = some v := by simp
theorem at1' {A : List Tr} {u : Tr} : (A ++ [u])[A.length]? = some u := by simp
theorem at2' {A : List Tr} {u v : Tr} : (A ++ [u] ++ [v])[A.length + 1]? = some v := by simp
theorem rax1 (h : T.ok) (h1 : 0 ≤ i) (h2 : i < 4) {x y z : Int} (hx : x = (canT T).length - 1) (hy : y = x + 1) (hz : z = x + 2) : LT (canT T ++ [kn 9 i x] ++ [kn 10 i x] ++ [⟨7, 0, 0, 0, y, z⟩]) (subT T ++ [.un 9 i 0 0 T] ++ [.un 10 i 0 0 T] ++ [axT 1 i T]) := by
  obtain ⟨h0, hp, hl⟩ := rax_base h
  exact im_lt (kn_lt (kn_lt h0 (.inl rfl) h1 h2 (by omega) subT_get) (.inr rfl) h1 h2 (k := (subT T).length - 1) (by omega) (at0 subT_get hp)) (k := (subT T).length) (by omega) at1 (l := (subT T).length + 1) (by omega) at2'
theorem rax2 (h : T.ok) (h1 : 0 ≤ i) (h2 : i < 4) {x y : Int} (hx : x = (canT T).length - 1) (hy : y = x + 1) : LT (canT T ++ [kn 9 i x] ++ [⟨7, 0, 0, 0, y, x⟩]) (subT T ++ [.un 9 i 0 0 T] ++ [axT 2 i T]) := by
  obtain ⟨h0, hp, hl⟩ := rax_base h
  exact im_lt (kn_lt h0 (.inl rfl) h1 h2 (by omega) subT_get) (k := (subT T).length) (by omega) at1' (l := (subT T).length - 1) (by omega) (at0 subT_get hp)
theorem rax3 (h : T.ok) (h1 : 0 ≤ i) (h2 : i < 4) {x y z : Int} (hx : x = (canT T).length - 1) (hy : y = x + 1) (hz : z = x + 2) : LT (canT T ++ [kn 10 i x] ++ [kn 9 i y] ++ [⟨7, 0, 0, 0, x, z⟩]) (subT T ++ [.un 10 i 0 0 T] ++ [.un 9 i 0 0 (.un 10 i 0 0 T)] ++ [axT 3 i T]) := by
  obtain ⟨h0, hp, hl⟩ := rax_base h
  exact im_lt (kn_lt (kn_lt h0 (.inr rfl) h1 h2 (by omega) subT_get) (.inl rfl) h1 h2 (k := (subT T).length) (by omega) at1') (k := (subT T).length - 1) (by omega) (by rw [List.append_assoc]; exact at0 subT_get hp) (l := (subT T).length + 1) (by omega) at2'
theorem rax4 (h : T.ok) (h1 : 0 ≤ i) (h2 : i < 4) {x y z : Int} (hx : x = (canT T).length - 1) (hy : y = x + 1) (hz : z = x + 2) : LT (canT T ++ [kn 9 i x] ++ [kn 9 i y] ++ [⟨7, 0, 0, 0, y, z⟩]) (subT T ++ [.un 9 i 0 0 T] ++ [.un 9 i 0 0 (.un 9 i 0 0 T)] ++ [axT 4 i T]) := by
  obtain ⟨h0, hp, hl⟩ := rax_base h
  exact im_lt (kn_lt (kn_lt h0 (.inl rfl) h1 h2 (by omega) subT_get) (.inl rfl) h1 h2 (k := (subT T).length) (by omega) at1') (k := (subT T).length) (by omega) at1 (l := (subT T).length + 1) (by omega) at2'
theorem rax5 (h : T.ok) (h1 : 0 ≤ i) (h2 : i < 4) {x y z p : Int} (hp1 : p ≠ 1) (hp2 : p ≠ 2) (hp3 : p ≠ 3) (hp4 : p ≠ 4) (hx : x = (canT T).length - 1) (hy : y = x + 1) (hz : z = x + 2) : LT (canT T ++ [kn 10 i x] ++ [kn 9 i y] ++ [⟨7, 0, 0, 0, y, z⟩]) (subT T ++ [.un 10 i 0 0 T] ++ [.un 9 i 0 0 (.un 10 i 0 0 T)] ++ [axT p i T]) := by
  obtain ⟨h0, hp, hl⟩ := rax_base h
  have he : axT p i T = .bin 7 0 0 0 (.un 10 i 0 0 T) (.un 9 i 0 0 (.un 10 i 0 0 T)) := by unfold axT; rw [if_neg hp1, if_neg hp2, if_neg hp3, if_neg hp4]
  rw [he]
  exact im_lt (kn_lt (kn_lt h0 (.inr rfl) h1 h2 (by omega) subT_get) (.inl rfl) h1 h2 (k := (subT T).length) (by omega) at1') (k := (subT T).length) (by omega) at1 (l := (subT T).length + 1) (by omega) at2'
end
end Go.Proofs.Wit
