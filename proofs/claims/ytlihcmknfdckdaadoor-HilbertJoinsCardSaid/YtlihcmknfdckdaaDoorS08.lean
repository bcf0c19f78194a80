/- Laws of walks, for any program, under the conditions that each theorem states. -/
import Derived.Test.YtlihcmknfdckdaaDoorS06
namespace Go.Proofs.Wit
open Go Go.RowKit
/-! the walk that makes a canonical list with maps -/
theorem mget_zip {κ : Type} [DecidableEq κ] {L : List κ} {m : κ} : ∀ {s : Nat}, mget (fun a b : κ => a == b) (L.zipIdx s) m = if m ∈ L then some (L.idxOf m + s) else none := by
 induction L with
 | nil => intro s; rfl
 | cons a L ih =>
  intro s
  rw [List.zipIdx_cons, mget]
  by_cases h : a = m
  ·subst h; simp
  ·have h2 : (m == a) = false := by simpa using Ne.symm h
   have h4 : (a == m) = false := by simpa using h
   rw [if_neg (by simpa using h2), ih]
   by_cases h3 : m ∈ L
   ·rw [if_pos h3, if_pos (by simp [h3]), List.idxOf_cons, h4]; simp; omega
   ·rw [if_neg h3, if_neg (by simp [h3, Ne.symm h])]
theorem idxOf_first {κ : Type} [DecidableEq κ] {m : κ} : ∀ {L : List κ} {k : Nat}, L[k]? = some m → (∀ j, j < k → L[j]? ≠ some m) → L.idxOf m = k
 | [], k, h1, _ => by simp at h1
 | a :: L, 0, h1, _ => by
  have : a = m := by simpa using h1
  subst this; simp
 | a :: L, k + 1, h1, h2 => by
  have hne : a ≠ m := fun e => h2 0 (by omega) (by simp [e])
  have h4 : (a == m) = false := by simpa using hne
  rw [List.idxOf_cons, h4]
  simp only [Bool.cond_false]
  rw [idxOf_first (L := L) (k := k) (by simpa using h1) (fun j hj => by simpa using h2 (j + 1) (by omega))]
theorem mget_old {ts : List Tr} (hc : Clo ts) (hn : ts.Nodup) (hw : ∀ u ∈ ts, u.wf) {t : Tr} (ht : t ∈ ts) : mget (fun a b : NV => a == b) (nodesOf ts).zipIdx (nodeOf ts t) = some (ts.idxOf t) := by
 obtain ⟨h1, h2⟩ := put_old hc hn hw ht
 rw [mget_zip, if_pos (List.mem_of_getElem? h1), idxOf_first h1 h2]; rfl
theorem mget_new {ts : List Tr} (hc : Clo ts) (hw : ∀ u ∈ ts, u.wf) {t : Tr} (htw : t.wf) (hk : ∀ c ∈ kids t, c ∈ ts) (ht : t ∉ ts) : mget (fun a b : NV => a == b) (nodesOf ts).zipIdx (nodeOf ts t) = none := by
 rw [mget_zip, if_neg]
 intro hm
 obtain ⟨k, hk2, he⟩ := List.mem_iff_getElem.1 hm
 exact put_new hc hw htw hk ht k (by rw [List.getElem?_eq_getElem hk2, he])
theorem zip_snoc {ts : List Tr} {t : Tr} (hc : Clo ts) (hk : ∀ c ∈ kids t, c ∈ ts) : (nodesOf (ts ++ [t])).zipIdx = (nodesOf ts).zipIdx ++ [(nodeOf ts t, (nodesOf ts).length)] := by
 rw [nodesOf_snoc hc hk, List.zipIdx_append]; simp
theorem mget_app {κ ν : Type} {q : κ → κ → Bool} {L : List (κ × ν)} {a : κ} {v : ν} {x : κ} : mget q (L ++ [(a, v)]) x = (mget q L x).or (if q x a = true then some v else none) := by
 induction L with
 | nil => simp [mget]
 | cons p L ih =>
  rw [List.cons_append, mget, mget, ih]
  split <;> simp
abbrev evM (v : Nat) : Value := .int .i64 v
structure DoneM (f : List NV) (ts : List Tr) (L : List (Int × Nat)) : Prop where
  at_ : ∀ (i v : Nat), mget (fun a b : Int => a == b) L (i : Int) = some v → treeAt f i ∈ ts ∧ v = ts.idxOf (treeAt f i)
theorem DoneM.nil {f : List NV} {ts : List Tr} : DoneM f ts [] := ⟨fun i v h => by cases h⟩
theorem DoneM.mono {f : List NV} {ts us : List Tr} {L : List (Int × Nat)} (h : DoneM f ts L) (hp : ts <+: us) : DoneM f us L :=
 ⟨fun i v hv => by
  obtain ⟨h1, h2⟩ := h.at_ i v hv
  exact ⟨hp.subset h1, by rw [h2, idx_pre hp h1]⟩⟩
theorem DoneM.ins {f : List NV} {ts : List Tr} {L : List (Int × Nat)} (h : DoneM f ts L) {i : Nat} (hm : treeAt f i ∈ ts) : DoneM f ts (L ++ [((i : Int), ts.idxOf (treeAt f i))]) :=
 ⟨fun j v hv => by
  rw [mget_app] at hv
  cases e : mget (fun a b : Int => a == b) L (j : Int) with
  | some u =>
   rw [e] at hv
   cases hv
   exact h.at_ j _ e
  | none =>
   rw [e] at hv
   by_cases hq : ((j : Int) == (i : Int)) = true
   ·have : i = j := by have := eq_of_beq hq; omega
    subst this
    simp at hv
    exact ⟨hm, hv.symm⟩
   ·rw [if_neg hq] at hv; cases hv⟩
theorem mget_ins_ne {L : List (Int × Nat)} {i j : Int} {v : Nat} (h : i ≠ j) : mget (fun a b : Int => a == b) (L ++ [(i, v)]) j = mget (fun a b : Int => a == b) L j := by
 rw [mget_app, if_neg (by simpa using Ne.symm h)]; simp
def tsX (f : List NV) (n : NV) (ts : List Tr) : List Tr := if usX n.op = true then visit (treeAt f n.x.toNat) ts else ts
def nvX (f : List NV) (n : NV) (ts : List Tr) : NV := { n with x := if usX n.op = true then ((tsX f n ts).idxOf (treeAt f n.x.toNat) : Int) else n.x }
theorem tsX_ok {f : List NV} {i : Nat} (hi : i < f.length) (hO : NodesOk f) {ts : List Tr} (hc : Clo ts) (hn : ts.Nodup) (hs : ts ⊆ trees f) :
  Clo (tsX f f[i] ts) ∧ (tsX f f[i] ts).Nodup ∧ ts <+: tsX f f[i] ts ∧ tsX f f[i] ts ⊆ trees f := by
 unfold tsX
 split
 ·rename_i h
  have hx := (hO i hi).x h
  have hV := visit_ok (treeAt f f[i].x.toNat) hc hn
  exact ⟨hV.clo, hV.nd, hV.pre, visit_sub _ hO.ord.clo (treeAt_mem (by omega)) hs⟩
 ·exact ⟨hc, hn, List.prefix_refl _, hs⟩
theorem tsY_ok {f : List NV} {i : Nat} (hi : i < f.length) (hO : NodesOk f) {ts : List Tr} (hc : Clo ts) (hn : ts.Nodup) (hs : ts ⊆ trees f) :
  Clo (vkids (treeAt f i) ts) ∧ (vkids (treeAt f i) ts).Nodup ∧ ts <+: vkids (treeAt f i) ts ∧ vkids (treeAt f i) ts ⊆ trees f ∧ ∀ c ∈ kids (treeAt f i), c ∈ vkids (treeAt f i) ts := by
 have hm : ∀ c ∈ kids (treeAt f i), c ∈ trees f := hO.ord.clo.mem (treeAt_mem hi)
 cases ht : treeAt f i with
 | leaf => exact ⟨hc, hn, List.prefix_refl _, hs, fun c h => by cases h⟩
 | un op j e g a =>
  rw [ht] at hm
  have hV := visit_ok a hc hn
  exact ⟨hV.clo, hV.nd, hV.pre, visit_sub _ hO.ord.clo (hm a (by simp [kids])) hs, fun c h => by rw [List.mem_singleton.1 h]; exact hV.mem⟩
 | bin op j e g a b =>
  rw [ht] at hm
  have hV := visit_ok a hc hn
  have hW := visit_ok b hV.clo hV.nd
  refine ⟨hW.clo, hW.nd, hV.pre.trans hW.pre, visit_sub _ hO.ord.clo (hm b (by simp [kids])) (visit_sub _ hO.ord.clo (hm a (by simp [kids])) hs), fun c h => ?_⟩
  simp only [kids, List.mem_cons, List.not_mem_nil, or_false] at h
  rcases h with rfl | rfl
  ·exact hW.pre.subset hV.mem
  ·exact hW.mem
theorem noY {f : List NV} {i : Nat} (hi : i < f.length) (hO : NodesOk f) {ts : List Tr} (hY : usY f[i].op = false) : tsX f f[i] ts = vkids (treeAt f i) ts ∧ nvX f f[i] ts = nodeOf (vkids (treeAt f i) ts) (treeAt f i) := by
 have hok := hO i hi
 have hy0 := hok.y0 hY
 rcases kids_node hi hO with ⟨h, ht⟩ | ⟨h, _, ht⟩ | ⟨h, _⟩
 ·have hx0 := hok.x0 h
  rw [ht]
  constructor
  ·simp [tsX, h, vkids]
  ·simp only [nvX, h, nodeOf]
   simp [hx0, hy0]
 ·rw [ht]
  constructor
  ·simp [tsX, h, vkids]
  ·simp only [nvX, h, nodeOf, tsX, if_true, vkids]
   simp [hy0]
 ·rw [hY] at h; cases h
theorem withY {f : List NV} {i : Nat} (hi : i < f.length) (hO : NodesOk f) {ts : List Tr} (hc : Clo ts) (hn : ts.Nodup) (hY : usY f[i].op = true) :
  visit (treeAt f f[i].y.toNat) (tsX f f[i] ts) = vkids (treeAt f i) ts ∧ { nvX f f[i] ts with y := ((visit (treeAt f f[i].y.toNat) (tsX f f[i] ts)).idxOf (treeAt f f[i].y.toNat) : Int) } = nodeOf (vkids (treeAt f i) ts) (treeAt f i) := by
 have hX := usY_X hY
 rcases kids_node hi hO with ⟨h, ht⟩ | ⟨_, h, ht⟩ | ⟨_, ht⟩
 ·rw [hX] at h; cases h
 ·rw [hY] at h; cases h
 ·have hV := visit_ok (treeAt f f[i].x.toNat) hc hn
  have hW := visit_ok (treeAt f f[i].y.toNat) hV.clo hV.nd
  rw [ht]
  constructor
  ·simp [tsX, hX, vkids]
  ·simp only [nvX, nodeOf, tsX, hX, if_true, vkids]
   rw [idx_pre hW.pre hV.mem]
end Go.Proofs.Wit
namespace Go.Proofs.Wit
open Go Go.RowKit
theorem GoH.seqJ {P : Program} {r : Option Nat} {f : FuncId} {R : Value → World → Prop} {w0 : World} {S : List Nat} {Y : List (Nat × Obj)} {n : Nat} {k : List Item} {l : Fl} {h : Hl} {x y : Code} {α : Type} (lf : α → Fl) (hf : α → Hl)
  (hK : ∀ a, GoH P r f R w0 S Y n (.code y :: k) (lf a) (hf a))
  (hg : (∀ a l h, SubF (lf a) l → (∀ w Y', St w0 S w h Y' → St w0 S w (hf a) Y') → GoH P r f R w0 S Y n (.code y :: k) l h) → GoH P r f R w0 S Y n (.code x :: .code y :: k) l h) : GoH P r f R w0 S Y n (.code x :: .code y :: k) l h :=
 hg (fun a _ _ hl hh => (hK a).sub' hl hh)
end Go.Proofs.Wit
