/- Laws of walks, for any program, under the conditions that each theorem states. -/
import Derived.Test.YtlihcmknfdckdaaDoorS21
namespace Go.Proofs.Wit
open Go Go.RowKit
/-! the walk of the reference to the atoms: a stack -/
structure Tk (c : List NV) (r : Nat) (s : List Bool) (o st : List Nat) : Prop where
  len : s.length = c.length
  nd : o.Nodup
  mem : ∀ j, j ∈ o ↔ sB s j = true
  lt : ∀ j ∈ st, j < c.length
  sub : ∀ j, j ∈ o ∨ j ∈ st → ∀ u ∈ atT (treeAt c j), u ∈ atT (treeAt c r)
  root : r ∈ o ∨ r ∈ st
  cl : ∀ j ∈ o, ∀ hj : j < c.length, lfB c[j].op = false → (usX c[j].op = true → c[j].x.toNat ∈ o ∨ c[j].x.toNat ∈ st) ∧ (usY c[j].op = true → c[j].y.toNat ∈ o ∨ c[j].y.toNat ∈ st)
section
variable {c : List NV} {r i : Nat} {s : List Bool} {o st st' : List Nat}
theorem Tk.init (hr : r < c.length) : Tk c r (List.replicate c.length false) [] [r] :=
 ⟨by simp, List.nodup_nil, fun j => ⟨fun h => (by cases h), fun h => (by
  unfold sB at h
  rw [List.getD_eq_getElem?_getD, List.getElem?_replicate] at h
  split at h <;> cases h)⟩, fun j hj => (by rw [List.mem_singleton.1 hj]; exact hr), fun j hj u hu => (by
  rcases hj with h | h
  ·cases h
  ·rw [List.mem_singleton.1 h] at hu; exact hu), .inr (List.mem_singleton.2 rfl), fun j hj => by cases hj⟩
theorem Tk.olt (h : Tk c r s o st) {j : Nat} (hj : j ∈ o) : j < c.length := by
 have h1 := (h.mem j).1 hj
 rw [← h.len]
 rcases Nat.lt_or_ge j s.length with h2 | h2
 ·exact h2
 ·unfold sB at h1
  rw [List.getD_eq_getElem?_getD, List.getElem?_eq_none h2] at h1; cases h1
theorem Tk.ole (h : Tk c r s o st) : o.length ≤ c.length := by
 have := h.nd.length_le_of_subset (fun j hj => List.mem_range.2 (h.olt hj) : o ⊆ List.range c.length)
 simpa using this
theorem Tk.skip (h : Tk c r s o (st ++ [i])) (hs : sB s i = true) : Tk c r s o st := by
 have hi := (h.mem i).2 hs
 have k : ∀ j, (j ∈ o ∨ j ∈ st ++ [i]) → j ∈ o ∨ j ∈ st := fun j hj => by
  rcases hj with hj | hj
  ·exact .inl hj
  ·rcases List.mem_append.1 hj with hj | hj
   ·exact .inr hj
   ·rw [List.mem_singleton.1 hj]; exact .inl hi
 refine ⟨h.len, h.nd, h.mem, fun j hj => h.lt j (List.mem_append_left _ hj), fun j hj => h.sub j ?_, k r h.root, fun j hj hjl hlf => ⟨fun hx => k _ ((h.cl j hj hjl hlf).1 hx), fun hy => k _ ((h.cl j hj hjl hlf).2 hy)⟩⟩
 rcases hj with hj | hj
 ·exact .inl hj
 ·exact .inr (List.mem_append_left _ hj)
theorem Tk.lt_top (h : Tk c r s o (st ++ [i])) : i < c.length := h.lt i (List.mem_append_right _ (List.mem_singleton.2 rfl))
theorem Tk.olt1 (h : Tk c r s o (st ++ [i])) (hs : sB s i = false) : o.length < c.length := by
 have hi := h.lt_top
 have hn : (i :: o).Nodup := List.nodup_cons.2 ⟨fun hm => (by rw [(h.mem i).1 hm] at hs; cases hs), h.nd⟩
 have := hn.length_le_of_subset (fun j hj => List.mem_range.2 (by
  rcases List.mem_cons.1 hj with e | hj
  ·rw [e]; exact hi
  ·exact h.olt hj) : i :: o ⊆ List.range c.length)
 rw [List.length_cons, List.length_range] at this
 exact this
theorem Tk.go (h : Tk c r s o (st ++ [i])) (hs : sB s i = false) (h1 : ∀ j ∈ st, j ∈ st') (h2 : ∀ j ∈ st', j ∈ st ∨ (j < c.length ∧ ∀ u ∈ atT (treeAt c j), u ∈ atT (treeAt c i)))
  (h3 : ∀ hi : i < c.length, lfB c[i].op = false → (usX c[i].op = true → c[i].x.toNat ∈ st') ∧ (usY c[i].op = true → c[i].y.toNat ∈ st')) : Tk c r (s.set i true) (o ++ [i]) st' := by
 have hi := h.lt_top
 have his : i < s.length := by rw [h.len]; exact hi
 have hio : i ∉ o := fun hm => by rw [(h.mem i).1 hm] at hs; cases hs
 have hsub : ∀ u ∈ atT (treeAt c i), u ∈ atT (treeAt c r) := h.sub i (.inr (List.mem_append_right _ (List.mem_singleton.2 rfl)))
 have k : ∀ j, (j ∈ o ∨ j ∈ st ++ [i]) → j ∈ o ++ [i] ∨ j ∈ st' := fun j hj => by
  rcases hj with hj | hj
  ·exact .inl (List.mem_append_left _ hj)
  ·rcases List.mem_append.1 hj with hj | hj
   ·exact .inr (h1 j hj)
   ·exact .inl (List.mem_append_right _ hj)
 refine ⟨by rw [List.length_set]; exact h.len, ?_, fun j => ?_, fun j hj => ?_, fun j hj => ?_, k r h.root, fun j hj hjl hlf => ?_⟩
 ·refine List.nodup_append.2 ⟨h.nd, by simp, fun a ha b hb e => ?_⟩
  rw [List.mem_singleton.1 hb] at e
  exact hio (e ▸ ha)
 ·rw [List.mem_append, List.mem_singleton, sB_set his, h.mem j]
  by_cases e : j = i
  ·rw [if_pos e]; simp [e]
  ·rw [if_neg e]; simp [e]
 ·rcases h2 j hj with h' | ⟨h', _⟩
  ·exact h.lt j (List.mem_append_left _ h')
  ·exact h'
 ·rcases hj with hj | hj
  ·rcases List.mem_append.1 hj with hj | hj
   ·exact h.sub j (.inl hj)
   ·rw [List.mem_singleton.1 hj]; exact hsub
  ·rcases h2 j hj with h' | ⟨_, h'⟩
   ·exact h.sub j (.inr (List.mem_append_left _ h'))
   ·exact fun u hu => hsub u (h' u hu)
 ·rcases List.mem_append.1 hj with hj | hj
  ·exact ⟨fun hx => k _ ((h.cl j hj hjl hlf).1 hx), fun hy => k _ ((h.cl j hj hjl hlf).2 hy)⟩
  ·obtain rfl := List.mem_singleton.1 hj
   exact ⟨fun hx => .inr ((h3 hjl hlf).1 hx), fun hy => .inr ((h3 hjl hlf).2 hy)⟩
def lfs (c : List NV) (o : List Nat) : List Nat := o.filter (fun j => lfB (c.getD j (⟨0, 0, 0, 0, 0, 0⟩ : NV)).op)
theorem lf_get {j : Nat} (hj : j < c.length) : (c.getD j (⟨0, 0, 0, 0, 0, 0⟩ : NV)) = c[j] := by simp [List.getD_eq_getElem?_getD, hj]
theorem Tk.done (h : Tk c r s o []) (hO : NodesOk c) : ∀ u, u ∈ (lfs c o).map (treeAt c) ↔ u ∈ atT (treeAt c r) := by
 have key : ∀ j, j ∈ o → ∀ u ∈ atT (treeAt c j), u ∈ (lfs c o).map (treeAt c) := by
  intro j
  induction j using Nat.strongRecOn with
  | _ j ih =>
   intro hj u hu
   have hjl := h.olt hj
   have ht : topO (treeAt c j) = c[j].op := treeAt_op hjl hO
   cases hl : lfB c[j].op with
   | true =>
    rw [atT_self (by rw [ht]; exact hl), List.mem_singleton] at hu
    rw [hu]
    exact List.mem_map_of_mem (List.mem_filter.2 ⟨hj, by rw [lf_get hjl]; exact hl⟩)
   | false =>
    have kx : usX c[j].op = true → c[j].x.toNat ∈ o := fun hx => by
     rcases (h.cl j hj hjl hl).1 hx with h' | h'
     ·exact h'
     ·cases h'
    have ky : usY c[j].op = true → c[j].y.toNat ∈ o := fun hx => by
     rcases (h.cl j hj hjl hl).2 hx with h' | h'
     ·exact h'
     ·cases h'
    have hord := hO.ord j hjl
    rcases kids_node hjl hO with ⟨h1, h2⟩ | ⟨h1, h1', h2⟩ | ⟨h1, h2⟩
    ·rw [h2] at hu
     unfold atT at hu
     rw [hl] at hu; cases hu
    ·rw [h2] at hu
     unfold atT at hu
     rw [hl] at hu
     have hx := hord.1 h1
     exact ih _ (by omega) (kx h1) u hu
    ·rw [h2] at hu
     unfold atT at hu
     rw [hl] at hu
     have hx := hord.1 (usY_X h1)
     have hy := hord.2 h1
     rcases List.mem_append.1 hu with hu | hu
     ·exact ih _ (by omega) (kx (usY_X h1)) u hu
     ·exact ih _ (by omega) (ky h1) u hu
 have hr : r ∈ o := by
  rcases h.root with h' | h'
  ·exact h'
  ·cases h'
 refine fun u => ⟨fun hu => ?_, key r hr u⟩
 obtain ⟨j, hj, rfl⟩ := List.mem_map.1 hu
 obtain ⟨hj, hl⟩ := List.mem_filter.1 hj
 have hjl := h.olt hj
 rw [lf_get hjl] at hl
 have ht : topO (treeAt c j) = c[j].op := treeAt_op hjl hO
 exact h.sub j (.inl hj) _ (by rw [atT_self (by rw [ht]; exact hl)]; exact List.mem_singleton.2 rfl)
theorem lfs_lt (h : Tk c r s o []) : ∀ j ∈ lfs c o, j < c.length := fun _ hj => h.olt (List.mem_filter.1 hj).1
theorem lfs_nd (h : Tk c r s o []) : (lfs c o).Nodup := h.nd.filter _
theorem lfs_snoc {j : Nat} (hj : j < c.length) : lfs c (o ++ [j]) = if lfB c[j].op = true then lfs c o ++ [j] else lfs c o := by
 unfold lfs
 rw [List.filter_append]
 by_cases hl : lfB c[j].op = true
 ·rw [if_pos hl, List.filter_cons_of_pos (by rw [lf_get hj]; exact hl)]; rfl
 ·rw [if_neg hl, List.filter_cons_of_neg (by rw [lf_get hj]; exact hl)]; simp
def atK (L : List Tr) (u : Tr) (k : Nat) : Int := if L.idxOf u < k then (L.idxOf u : Int) else -1
def rLv (L : List Tr) (v : Nat) (u : Tr) : Bool := if u ∈ L then v.testBit (L.idxOf u) else false
theorem atK_yes {L : List Tr} {u : Tr} {k : Nat} (hn : L.Nodup) (hk : k < L.length) (h : L[k] = u) : atK L u (k + 1) = (k : Int) := by
 have : L.idxOf u = k := by rw [← h]; exact hn.idxOf_getElem k hk
 rw [atK, this, if_pos (Nat.lt_succ_self _)]
theorem atK_no {L : List Tr} {u : Tr} {k : Nat} (hk : k < L.length) (h : L[k] ≠ u) : atK L u (k + 1) = atK L u k := by
 have hne : L.idxOf u ≠ k := fun e => by
  have hlt : L.idxOf u < L.length := by omega
  have h2 := List.getElem_idxOf hlt
  apply h
  rw [← h2]
  congr 1
  exact e.symm
 unfold atK
 by_cases h1 : L.idxOf u < k
 ·rw [if_pos h1, if_pos (by omega)]
 ·rw [if_neg h1, if_neg (by omega)]
theorem atK_in {L : List Tr} {u : Tr} (h : u ∈ L) : atK L u L.length = (L.idxOf u : Int) := if_pos (List.idxOf_lt_length_of_mem h)
theorem atK_out {L : List Tr} {u : Tr} (h : u ∉ L) : atK L u L.length = -1 := if_neg (fun hl => h (List.idxOf_lt_length_iff.1 hl))
theorem atK_ge {L : List Tr} {u : Tr} : 0 ≤ atK L u L.length ↔ u ∈ L := by
 by_cases h : u ∈ L
 ·rw [atK_in h]; simp [h]
 ·rw [atK_out h]; simp [h]
theorem rLv_bit {L : List Tr} {v : Nat} {u : Tr} (h : u ∈ L) : rLv L v u = v.testBit (L.idxOf u) := if_pos h
theorem rLv_out {L : List Tr} {v : Nat} {u : Tr} (h : u ∉ L) : rLv L v u = false := if_neg h
theorem mapR_get {α : Type} {g : Nat → α} {k j : Nat} {d : α} (h : j < k) : ((List.range k).map g).getD j d = g j := by simp [List.getD_eq_getElem?_getD, h]
theorem mapR_snoc {α : Type} {g : Nat → α} {k : Nat} : (List.range (k + 1)).map g = (List.range k).map g ++ [g k] := by rw [List.range_succ, List.map_append]; rfl
theorem mapR_len {α : Type} {g : Nat → α} {k : Nat} : ((List.range k).map g).length = k := by simp
theorem lfB_prop {op : Int} (h : 1 ≤ op ∧ op ≤ 21) : lfB op = false ↔ (1 ≤ op ∧ op ≤ 8) ∧ op ≠ 3 := by
 unfold lfB
 simp only [Bool.or_eq_false_iff, decide_eq_false_iff_not, beq_eq_false_iff_ne]
 omega
theorem atT_lf : ∀ {t u : Tr}, u ∈ atT t → lfB (topO u) = true
 | .leaf op i e g, u, h => by
  unfold atT at h
  split at h
  ·rename_i hl; rw [List.mem_singleton.1 h]; exact hl
  ·cases h
 | .un op i e g a, u, h => by
  unfold atT at h
  split at h
  ·rename_i hl; rw [List.mem_singleton.1 h]; exact hl
  ·exact atT_lf h
 | .bin op i e g a b, u, h => by
  unfold atT at h
  split at h
  ·rename_i hl; rw [List.mem_singleton.1 h]; exact hl
  ·rcases List.mem_append.1 h with h | h
   ·exact atT_lf h
   ·exact atT_lf h
end
end Go.Proofs.Wit
