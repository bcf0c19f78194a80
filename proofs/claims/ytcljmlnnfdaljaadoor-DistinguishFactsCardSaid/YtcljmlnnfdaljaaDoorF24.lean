/- Laws of walks, for any program, under the conditions that each theorem states. -/
import Derived.Test.YtcljmlnnfdaljaaDoorF10
import Derived.Test.YtcljmlnnfdaljaaDoorF06
namespace Go.Proofs.Wit
/-! formulas: nodes, trees, canonical lists -/
structure NV where
  op : Int
  i : Int
  e : Int
  g : Int
  x : Int
  y : Int
deriving DecidableEq
def NV.cells (n : NV) : List Value := [I64 n.op, I64 n.i, I64 n.e, I64 n.g, I64 n.x, I64 n.y]
def usX (op : Int) : Bool := decide (4 ≤ op) && decide (op ≤ 21)
def usY (op : Int) : Bool := decide (5 ≤ op) && decide (op ≤ 8) || op == 13 || op == 14 || op == 16 || op == 19 || op == 21
def agO (op : Int) : Bool := op == 9 || op == 10 || op == 14 || op == 15
def grO (op : Int) : Bool := decide (11 ≤ op) && decide (op ≤ 13)
theorem usY_X {op : Int} (h : usY op = true) : usX op = true := by
  simp only [usY, usX, Bool.or_eq_true, Bool.and_eq_true, decide_eq_true_eq, beq_iff_eq] at h ⊢
  omega
/-- trees -/
inductive Tr where
  | leaf (op i e g : Int)
  | un (op i e g : Int) (a : Tr)
  | bin (op i e g : Int) (a b : Tr)
deriving DecidableEq
def Tr.op : Tr → Int
  | .leaf op _ _ _ => op
  | .un op _ _ _ _ => op
  | .bin op _ _ _ _ _ => op
def kids : Tr → List Tr
  | .leaf .. => []
  | .un _ _ _ _ a => [a]
  | .bin _ _ _ _ a b => [a, b]
/-- the shape fits the operator -/
def Tr.wf : Tr → Prop
  | .leaf op _ _ _ => usX op = false
  | .un op _ _ _ a => usX op = true ∧ usY op = false ∧ a.wf
  | .bin op _ _ _ a b => usY op = true ∧ a.wf ∧ b.wf
def tr0 : Tr := .leaf 0 0 0 0
def mkT (n : NV) (a b : Tr) : Tr := if usY n.op = true then .bin n.op n.i n.e n.g a b else if usX n.op = true then .un n.op n.i n.e n.g a else .leaf n.op n.i n.e n.g
theorem mkT_leaf {n : NV} {a b : Tr} (h : usX n.op = false) : mkT n a b = .leaf n.op n.i n.e n.g := by
  unfold mkT
  rw [if_neg (by intro h2; rw [usY_X h2] at h; cases h), if_neg (by rw [h]; simp)]
theorem mkT_un {n : NV} {a b : Tr} (h : usX n.op = true) (h2 : usY n.op = false) : mkT n a b = .un n.op n.i n.e n.g a := by
  unfold mkT
  rw [if_neg (by rw [h2]; simp), if_pos h]
theorem mkT_bin {n : NV} {a b : Tr} (h : usY n.op = true) : mkT n a b = .bin n.op n.i n.e n.g a b := by
  unfold mkT
  rw [if_pos h]
theorem mkT_wf {n : NV} {a b : Tr} (ha : a.wf) (hb : b.wf) : (mkT n a b).wf := by
  unfold mkT
  split
  · rename_i h; exact ⟨h, ha, hb⟩
  · rename_i h
    split
    · rename_i h2; exact ⟨h2, by simpa using h, ha⟩
    · rename_i h2; show usX n.op = false; simpa using h2
theorem tr0_wf : tr0.wf := by show usX 0 = false; decide
def trs (acc : List Tr) : List NV → List Tr
  | [] => acc
  | n :: ns => trs (acc ++ [mkT n (acc.getD n.x.toNat tr0) (acc.getD n.y.toNat tr0)]) ns
/-- the trees of the nodes of a list -/
def trees (f : List NV) : List Tr := trs [] f
theorem trs_snoc : ∀ {ns : List NV} {acc : List Tr} {n : NV}, trs acc (ns ++ [n]) = trs acc ns ++ [mkT n ((trs acc ns).getD n.x.toNat tr0) ((trs acc ns).getD n.y.toNat tr0)]
  | [], _, _ => rfl
  | m :: ns, acc, n => by rw [List.cons_append, trs, trs_snoc, trs]
theorem trees_snoc {f : List NV} {n : NV} : trees (f ++ [n]) = trees f ++ [mkT n ((trees f).getD n.x.toNat tr0) ((trees f).getD n.y.toNat tr0)] := trs_snoc
theorem snoc_ind {α : Type} {p : List α → Prop} (h0 : p []) (h1 : ∀ l a, p l → p (l ++ [a])) (l : List α) : p l := by
  have : ∀ n (l : List α), l.length = n → p l := by
    intro n
    induction n with
    | zero => intro l hl; rw [List.eq_nil_of_length_eq_zero hl]; exact h0
    | succ n ih =>
      intro l hl
      have hne : l ≠ [] := by rintro rfl; simp at hl
      rw [← List.dropLast_concat_getLast hne]
      exact h1 _ _ (ih _ (by simp [hl]))
  exact this _ l rfl
theorem trees_len (f : List NV) : (trees f).length = f.length := by
  induction f using snoc_ind with
  | h0 => rfl
  | h1 f n ih => rw [trees_snoc]; simp [ih]
theorem trees_take (f : List NV) (k : Nat) : (trees f).take k = trees (f.take k) := by
  induction f using snoc_ind with
  | h0 => simp [trees, trs]
  | h1 f n ih =>
    by_cases hk : k ≤ f.length
    · rw [trees_snoc, List.take_append_of_le_length (by rw [trees_len]; exact hk), List.take_append_of_le_length hk, ih]
    · rw [List.take_of_length_le (by rw [trees_len]; simp; omega), List.take_of_length_le (by simp; omega)]
theorem trees_get {f : List NV} {k : Nat} (hk : k < f.length) : (trees f)[k]'(by rw [trees_len]; exact hk) = mkT f[k] (((trees f).take k).getD f[k].x.toNat tr0) (((trees f).take k).getD f[k].y.toNat tr0) := by
  have h1 : f.take (k + 1) = f.take k ++ [f[k]] := List.take_succ_eq_append_getElem hk
  have h2 := trees_take f (k + 1)
  rw [h1, trees_snoc, ← trees_take] at h2
  have h3 : ((trees f).take (k + 1))[k]? = some (mkT f[k] (((trees f).take k).getD f[k].x.toNat tr0) (((trees f).take k).getD f[k].y.toNat tr0)) := by
    rw [h2, List.getElem?_append_right (by rw [List.length_take, trees_len]; omega), List.length_take, trees_len, Nat.min_eq_left (by omega), Nat.sub_self]; rfl
  rw [List.getElem?_take, if_pos (by omega), List.getElem?_eq_getElem (by rw [trees_len]; exact hk)] at h3
  exact Option.some.inj h3
theorem trees_wf (f : List NV) : ∀ t ∈ trees f, t.wf := by
  induction f using snoc_ind with
  | h0 => intro t h; cases h
  | h1 f n ih =>
    have hd : ∀ k, ((trees f).getD k tr0).wf := fun k => by
      by_cases hk : k < (trees f).length
      · rw [show (trees f).getD k tr0 = (trees f)[k] from by simp [List.getD_eq_getElem?_getD, hk]]
        exact ih _ (List.getElem_mem hk)
      · rw [show (trees f).getD k tr0 = tr0 from by simp [List.getD_eq_getElem?_getD, List.getElem?_eq_none (Nat.le_of_not_lt hk)]]
        exact tr0_wf
    intro t h
    rw [trees_snoc] at h
    rcases List.mem_append.1 h with h | h
    · exact ih t h
    · rw [List.mem_singleton.1 h]; exact mkT_wf (hd _) (hd _)
/-- distinct subtrees in postorder, behind those that are there -/
def visit : Tr → List Tr → List Tr
  | .leaf op i e g, ts => if Tr.leaf op i e g ∈ ts then ts else ts ++ [.leaf op i e g]
  | .un op i e g a, ts => if Tr.un op i e g a ∈ ts then ts else visit a ts ++ [.un op i e g a]
  | .bin op i e g a b, ts => if Tr.bin op i e g a b ∈ ts then ts else visit b (visit a ts) ++ [.bin op i e g a b]
/-- with a tree its parts, before it -/
def Clo (ts : List Tr) : Prop := ∀ (k : Nat) (hk : k < ts.length), ∀ c ∈ kids ts[k], c ∈ ts.take k
theorem Clo.nil : Clo [] := fun _k hk => absurd hk (Nat.not_lt_zero _)
theorem Clo.snoc {ts : List Tr} {t : Tr} (h : Clo ts) (ht : ∀ c ∈ kids t, c ∈ ts) : Clo (ts ++ [t]) := fun k hk c hc => by
  rw [List.length_append, List.length_singleton] at hk
  by_cases hlt : k < ts.length
  · rw [List.getElem_append_left hlt] at hc
    rw [List.take_append_of_le_length (by omega)]
    exact h k hlt c hc
  · obtain rfl : k = ts.length := by omega
    rw [List.getElem_append_right (Nat.le_refl _)] at hc
    simp only [Nat.sub_self, List.getElem_cons_zero] at hc
    rw [List.take_left']
    · exact ht c hc
    · rfl
theorem Clo.mem {ts : List Tr} (h : Clo ts) {t : Tr} (ht : t ∈ ts) : ∀ c ∈ kids t, c ∈ ts := fun c hc => by
  obtain ⟨k, hk, rfl⟩ := List.mem_iff_getElem.1 ht
  exact List.mem_of_mem_take (h k hk c hc)
/-- t is a part of u, or u itself -/
def size : Tr → Nat
  | .leaf .. => 1
  | .un _ _ _ _ a => size a + 1
  | .bin _ _ _ _ a b => size a + size b + 1
theorem visit_new (t : Tr) : ∀ {ts : List Tr} {u : Tr}, u ∈ visit t ts → u ∈ ts ∨ size u ≤ size t := by
  induction t with
  | leaf op i e g =>
    intro ts u h
    rw [visit] at h
    split at h
    · exact .inl h
    · rcases List.mem_append.1 h with h | h
      · exact .inl h
      · rw [List.mem_singleton.1 h]; exact .inr (Nat.le_refl _)
  | un op i e g a iha =>
    intro ts u h
    rw [visit] at h
    split at h
    · exact .inl h
    · rcases List.mem_append.1 h with h | h
      · rcases iha h with h | h
        · exact .inl h
        · exact .inr (by simp only [size]; omega)
      · rw [List.mem_singleton.1 h]; exact .inr (Nat.le_refl _)
  | bin op i e g a b iha ihb =>
    intro ts u h
    rw [visit] at h
    split at h
    · exact .inl h
    · rcases List.mem_append.1 h with h | h
      · rcases ihb h with h | h
        · rcases iha h with h | h
          · exact .inl h
          · exact .inr (by simp only [size]; omega)
        · exact .inr (by simp only [size]; omega)
      · rw [List.mem_singleton.1 h]; exact .inr (Nat.le_refl _)
structure Vis (t : Tr) (ts us : List Tr) : Prop where
  clo : Clo us
  nd : us.Nodup
  pre : ts <+: us
  mem : t ∈ us
theorem nodup_snoc {ts : List Tr} {t : Tr} (h : ts.Nodup) (ht : t ∉ ts) : (ts ++ [t]).Nodup := by
  rw [List.nodup_append]
  exact ⟨h, by simp, fun a ha b hb => by rw [List.mem_singleton.1 hb]; rintro rfl; exact ht ha⟩
theorem visit_ok (t : Tr) : ∀ {ts : List Tr}, Clo ts → ts.Nodup → Vis t ts (visit t ts) := by
  induction t with
  | leaf op i e g =>
    intro ts hc hn
    rw [visit]
    split
    · rename_i h; exact ⟨hc, hn, List.prefix_refl _, h⟩
    · rename_i h; exact ⟨hc.snoc (fun c hc => by cases hc), nodup_snoc hn h, List.prefix_append _ _, by simp⟩
  | un op i e g a iha =>
    intro ts hc hn
    rw [visit]
    split
    · rename_i h; exact ⟨hc, hn, List.prefix_refl _, h⟩
    · rename_i h
      obtain ⟨h1, h2, h3, h4⟩ := iha hc hn
      have hnew : Tr.un op i e g a ∉ visit a ts := fun hm => by
        rcases visit_new a hm with h5 | h5
        · exact h h5
        · simp only [size] at h5; omega
      exact ⟨h1.snoc (fun c hc => by rw [List.mem_singleton.1 hc]; exact h4), nodup_snoc h2 hnew, h3.trans (List.prefix_append _ _), by simp⟩
  | bin op i e g a b iha ihb =>
    intro ts hc hn
    rw [visit]
    split
    · rename_i h; exact ⟨hc, hn, List.prefix_refl _, h⟩
    · rename_i h
      obtain ⟨h1, h2, h3, h4⟩ := iha hc hn
      obtain ⟨k1, k2, k3, k4⟩ := ihb h1 h2
      have hnew : Tr.bin op i e g a b ∉ visit b (visit a ts) := fun hm => by
        rcases visit_new b hm with h5 | h5
        · rcases visit_new a h5 with h5 | h5
          · exact h h5
          · simp only [size] at h5; omega
        · simp only [size] at h5; omega
      refine ⟨k1.snoc (fun c hc => ?_), nodup_snoc k2 hnew, (h3.trans k3).trans (List.prefix_append _ _), by simp⟩
      simp only [kids, List.mem_cons, List.not_mem_nil, or_false] at hc
      rcases hc with rfl | rfl
      · exact k3.subset h4
      · exact k4
/-- a tree as a node of the list of the trees ts -/
def nodeOf (ts : List Tr) : Tr → NV
  | .leaf op i e g => ⟨op, i, e, g, 0, 0⟩
  | .un op i e g a => ⟨op, i, e, g, (ts.idxOf a : Int), 0⟩
  | .bin op i e g a b => ⟨op, i, e, g, (ts.idxOf a : Int), (ts.idxOf b : Int)⟩
def nodesOf (ts : List Tr) : List NV := ts.map (nodeOf ts)
theorem nodesOf_len {ts : List Tr} : (nodesOf ts).length = ts.length := by simp [nodesOf]
theorem idx_pre {ts us : List Tr} (h : ts <+: us) {t : Tr} (ht : t ∈ ts) : us.idxOf t = ts.idxOf t := by
  obtain ⟨vs, rfl⟩ := h
  rw [List.idxOf_append, if_pos ht]
theorem nodeOf_pre {ts us : List Tr} (h : ts <+: us) {t : Tr} (ht : ∀ c ∈ kids t, c ∈ ts) : nodeOf us t = nodeOf ts t := by
  cases t with
  | leaf => rfl
  | un op i e g a => simp only [nodeOf]; rw [idx_pre h (ht a (by simp [kids]))]
  | bin op i e g a b => simp only [nodeOf]; rw [idx_pre h (ht a (by simp [kids])), idx_pre h (ht b (by simp [kids]))]
theorem nodesOf_snoc {ts : List Tr} (hc : Clo ts) {t : Tr} (ht : ∀ c ∈ kids t, c ∈ ts) : nodesOf (ts ++ [t]) = nodesOf ts ++ [nodeOf ts t] := by
  unfold nodesOf
  rw [List.map_append, List.map_singleton, nodeOf_pre (List.prefix_append _ _) ht]
  congr 1
  exact List.map_congr_left (fun u hu => nodeOf_pre (List.prefix_append _ _) (hc.mem hu))
theorem idx_inj {ts : List Tr} {a b : Tr} (ha : a ∈ ts) (hb : b ∈ ts) (h : ts.idxOf a = ts.idxOf b) : a = b := by
  have h1 := List.getElem_idxOf (List.idxOf_lt_length_iff.2 ha)
  have h2 := List.getElem_idxOf (List.idxOf_lt_length_iff.2 hb)
  rw [← h1, ← h2]
  congr 1
theorem nodeOf_inj {ts : List Tr} {t u : Tr} (ht : t.wf) (hu : u.wf) (h1 : ∀ c ∈ kids t, c ∈ ts) (h2 : ∀ c ∈ kids u, c ∈ ts) (h : nodeOf ts t = nodeOf ts u) : t = u := by
  cases t with
  | leaf op i e g =>
    cases u with
    | leaf op' i' e' g' => simp only [nodeOf, NV.mk.injEq] at h; obtain ⟨rfl, rfl, rfl, rfl, _⟩ := h; rfl
    | un op' i' e' g' a' => simp only [nodeOf, NV.mk.injEq] at h; obtain ⟨rfl, _⟩ := h; simp only [Tr.wf] at ht hu; rw [ht] at hu; cases hu.1
    | bin op' i' e' g' a' b' => simp only [nodeOf, NV.mk.injEq] at h; obtain ⟨rfl, _⟩ := h; simp only [Tr.wf] at ht hu; rw [usY_X hu.1] at ht; cases ht
  | un op i e g a =>
    cases u with
    | leaf op' i' e' g' => simp only [nodeOf, NV.mk.injEq] at h; obtain ⟨rfl, _⟩ := h; simp only [Tr.wf] at ht hu; rw [ht.1] at hu; cases hu
    | un op' i' e' g' a' =>
      simp only [nodeOf, NV.mk.injEq] at h; obtain ⟨rfl, rfl, rfl, rfl, hx, _⟩ := h
      rw [idx_inj (h1 a (by simp [kids])) (h2 a' (by simp [kids])) (by omega)]
    | bin op' i' e' g' a' b' => simp only [nodeOf, NV.mk.injEq] at h; obtain ⟨rfl, _⟩ := h; simp only [Tr.wf] at ht hu; rw [hu.1] at ht; cases ht.2.1
  | bin op i e g a b =>
    cases u with
    | leaf op' i' e' g' => simp only [nodeOf, NV.mk.injEq] at h; obtain ⟨rfl, _⟩ := h; simp only [Tr.wf] at ht hu; rw [usY_X ht.1] at hu; cases hu
    | un op' i' e' g' a' => simp only [nodeOf, NV.mk.injEq] at h; obtain ⟨rfl, _⟩ := h; simp only [Tr.wf] at ht hu; rw [ht.1] at hu; cases hu.2.1
    | bin op' i' e' g' a' b' =>
      simp only [nodeOf, NV.mk.injEq] at h; obtain ⟨rfl, rfl, rfl, rfl, hx, hy⟩ := h
      rw [idx_inj (h1 a (by simp [kids])) (h2 a' (by simp [kids])) (by omega), idx_inj (h1 b (by simp [kids])) (h2 b' (by simp [kids])) (by omega)]
/-- a node that is put into the list: where it stands, or that it is new -/
theorem put_old {ts : List Tr} (hc : Clo ts) (hn : ts.Nodup) (hw : ∀ u ∈ ts, u.wf) {t : Tr} (ht : t ∈ ts) :
    (nodesOf ts)[ts.idxOf t]? = some (nodeOf ts t) ∧ ∀ k, k < ts.idxOf t → (nodesOf ts)[k]? ≠ some (nodeOf ts t) := by
  have hlt := List.idxOf_lt_length_iff.2 ht
  refine ⟨by rw [nodesOf, List.getElem?_map, List.getElem?_eq_getElem hlt, List.getElem_idxOf hlt]; rfl, fun k hk h => ?_⟩
  have hkl : k < ts.length := by omega
  rw [nodesOf, List.getElem?_map, List.getElem?_eq_getElem hkl, Option.map_some, Option.some.injEq] at h
  have h1 := nodeOf_inj (hw _ (List.getElem_mem hkl)) (hw t ht) (hc.mem (List.getElem_mem hkl)) (hc.mem ht) h
  have h2 : ts.idxOf t = k := by rw [← h1]; exact hn.idxOf_getElem k hkl
  omega
theorem put_new {ts : List Tr} (hc : Clo ts) (hw : ∀ u ∈ ts, u.wf) {t : Tr} (htw : t.wf) (hk : ∀ c ∈ kids t, c ∈ ts) (ht : t ∉ ts) : ∀ k : Nat, (nodesOf ts)[k]? ≠ some (nodeOf ts t) := fun k h => by
  rw [nodesOf, List.getElem?_map] at h
  obtain ⟨u, hu, he⟩ := Option.map_eq_some_iff.1 h
  have hm := List.mem_of_getElem? hu
  rw [nodeOf_inj (hw u hm) htw (hc.mem hm) hk he] at hm
  exact ht hm
theorem visit_wf (t : Tr) (ht : t.wf) : ∀ {ts : List Tr}, (∀ u ∈ ts, u.wf) → ∀ u ∈ visit t ts, u.wf := by
  induction t with
  | leaf op i e g =>
    intro ts h u hu
    rw [visit] at hu
    split at hu
    · exact h u hu
    · rcases List.mem_append.1 hu with hu | hu
      · exact h u hu
      · rw [List.mem_singleton.1 hu]; exact ht
  | un op i e g a iha =>
    intro ts h u hu
    rw [visit] at hu
    split at hu
    · exact h u hu
    · rcases List.mem_append.1 hu with hu | hu
      · exact iha ht.2.2 h u hu
      · rw [List.mem_singleton.1 hu]; exact ht
  | bin op i e g a b iha ihb =>
    intro ts h u hu
    rw [visit] at hu
    split at hu
    · exact h u hu
    · rcases List.mem_append.1 hu with hu | hu
      · exact ihb ht.2.2 (iha ht.2.1 h) u hu
      · rw [List.mem_singleton.1 hu]; exact ht
/-- the trees of the nodes of closed trees are these trees -/
theorem trees_nodesOf {ts : List Tr} (hc : Clo ts) (hw : ∀ u ∈ ts, u.wf) : trees (nodesOf ts) = ts := by
  induction ts using snoc_ind with
  | h0 => rfl
  | h1 ts t ih =>
    have hk : ∀ c ∈ kids t, c ∈ ts := fun c h => by
      have := hc ts.length (by simp) c (by simpa using h)
      rwa [List.take_left' rfl] at this
    have hc' : Clo ts := fun k hk c h => by
      have := hc k (by simp; omega) c (by rw [List.getElem_append_left hk]; exact h)
      rwa [List.take_append_of_le_length (by omega)] at this
    rw [nodesOf_snoc hc' hk, trees_snoc, ih hc' (fun u hu => hw u (List.mem_append_left _ hu))]
    congr 2
    have htw := hw t (by simp)
    have hg : ∀ c ∈ ts, ts.getD ((ts.idxOf c : Int)).toNat tr0 = c := fun c h => by
      have hlt := List.idxOf_lt_length_iff.2 h
      rw [Int.toNat_natCast, List.getD_eq_getElem?_getD, List.getElem?_eq_getElem hlt, List.getElem_idxOf hlt]; rfl
    cases t with
    | leaf op i e g => exact (mkT_leaf (n := ⟨op, i, e, g, 0, 0⟩) htw)
    | un op i e g a =>
      refine (mkT_un (n := ⟨op, i, e, g, (ts.idxOf a : Int), 0⟩) htw.1 htw.2.1).trans ?_
      dsimp only [nodeOf]
      rw [hg a (hk a (by simp [kids]))]
    | bin op i e g a b =>
      refine (mkT_bin (n := ⟨op, i, e, g, (ts.idxOf a : Int), (ts.idxOf b : Int)⟩) htw.1).trans ?_
      dsimp only [nodeOf]
      rw [hg a (hk a (by simp [kids])), hg b (hk b (by simp [kids]))]
/-- what is visited lies in any closed list that has the tree -/
theorem visit_sub (t : Tr) : ∀ {ts us : List Tr}, Clo us → t ∈ us → ts ⊆ us → visit t ts ⊆ us := by
  induction t with
  | leaf op i e g =>
    intro ts us hc ht hs
    rw [visit]
    split
    · exact hs
    · exact List.append_subset.2 ⟨hs, by simpa using ht⟩
  | un op i e g a iha =>
    intro ts us hc ht hs
    rw [visit]
    split
    · exact hs
    · exact List.append_subset.2 ⟨iha hc (hc.mem ht a (by simp [kids])) hs, by simpa using ht⟩
  | bin op i e g a b iha ihb =>
    intro ts us hc ht hs
    rw [visit]
    split
    · exact hs
    · exact List.append_subset.2 ⟨ihb hc (hc.mem ht b (by simp [kids])) (iha hc (hc.mem ht a (by simp [kids])) hs), by simpa using ht⟩
/-- the canonical list of a tree -/
def subT (t : Tr) : List Tr := visit t []
def canT (t : Tr) : List NV := nodesOf (subT t)
theorem subT_ok (t : Tr) : Vis t [] (subT t) := visit_ok t Clo.nil List.nodup_nil
theorem subT_wf {t : Tr} (h : t.wf) : ∀ u ∈ subT t, u.wf := visit_wf t h (fun u hu => by cases hu)
theorem trees_canT {t : Tr} (h : t.wf) : trees (canT t) = subT t := trees_nodesOf (subT_ok t).clo (subT_wf h)
theorem canT_len {t : Tr} : (canT t).length = (subT t).length := nodesOf_len
theorem subT_last (t : Tr) : ∃ l, subT t = l ++ [t] := by
  cases t with
  | leaf op i e g => exact ⟨[], by simp [subT, visit]⟩
  | un op i e g a => exact ⟨visit a [], by simp [subT, visit]⟩
  | bin op i e g a b => exact ⟨visit b (visit a []), by simp [subT, visit]⟩
/-- the tree of a list's last node -/
def topT (f : List NV) : Tr := (trees f).getD (f.length - 1) tr0
theorem topT_canT {t : Tr} (h : t.wf) : topT (canT t) = t := by
  unfold topT
  rw [trees_canT h, canT_len]
  obtain ⟨l, hl⟩ := subT_last t
  rw [hl]
  simp
end Go.Proofs.Wit
namespace Go.Proofs.Wit
/-! what Check says of a formula -/
def nv0 : NV := ⟨0, 0, 0, 0, 0, 0⟩
def opB (used : Bool) (v at_ : Int) : Bool := used && decide (0 ≤ v) && decide (v < at_) || !used && v == 0
def iO (op : Int) : Bool := op == 3 || agO op || op == 17
/-- the fields other than operands -/
def fldE (op i e g : Int) : Int :=
  if (!iO op && i != 0 || op != 17 && e != 0 || !grO op && g != 0) = true then 3
  else if (op == 3 && !(decide (0 ≤ i) && decide (i < 8)) || agO op && !(decide (0 ≤ i) && decide (i < 4)) || op == 17 && !(decide (0 ≤ i) && decide (i < 8) && decide (0 ≤ e) && decide (e < 8)) || grO op && !(decide (1 ≤ g) && decide (g < 16))) = true then 2 else 0
def nodeE (n : NV) (at_ : Int) : Int :=
  if ¬ (1 ≤ n.op ∧ n.op ≤ 21) then 10
  else if ¬ (opB (usX n.op) n.x at_ = true ∧ opB (usY n.op) n.y at_ = true) then 3 else fldE n.op n.i n.e n.g
def firstE (e : Nat → Int) : Nat → Int
  | 0 => 0
  | n + 1 => if firstE e n ≠ 0 then firstE e n else e n
theorem firstE_zero {e : Nat → Int} : ∀ {n : Nat}, firstE e n = 0 ↔ ∀ i, i < n → e i = 0
  | 0 => by simp [firstE]
  | n + 1 => by
    rw [firstE]
    constructor
    · intro h i hi
      split at h
      · rename_i h2; exact absurd h h2
      · rename_i h2
        rcases Nat.lt_succ_iff_lt_or_eq.1 hi with hi | rfl
        · exact firstE_zero.1 (Classical.not_not.1 h2) i hi
        · exact h
    · intro h
      have h1 : firstE e n = 0 := firstE_zero.2 (fun i hi => h i (Nat.lt_succ_of_lt hi))
      rw [if_neg (by simp [h1])]
      exact h n (Nat.lt_succ_self n)
theorem firstE_keep {e : Nat → Int} {n : Nat} (h : firstE e n ≠ 0) : ∀ m, n ≤ m → firstE e m = firstE e n := fun m hm => by
  obtain ⟨k, rfl⟩ : ∃ k, m = n + k := ⟨m - n, by omega⟩
  clear hm
  induction k with
  | zero => rfl
  | succ k ih => rw [← Nat.add_assoc, firstE, if_pos (by rw [ih]; exact h), ih]
theorem firstE_hit {e : Nat → Int} {n m : Nat} (h : firstE e n = 0) (he : e n ≠ 0) (hm : n < m) : firstE e m = e n := by
  have h1 : firstE e (n + 1) = e n := by rw [firstE, if_neg (by simp [h])]
  rw [firstE_keep (n := n + 1) (by rw [h1]; exact he) m hm, h1]
def errF (f : List NV) (i : Nat) : Int := nodeE (f.getD i nv0) i
def chkF (f : List NV) : Int := if f.length = 0 then 3 else if 200 < f.length then 8 else firstE (errF f) f.length
structure OkF (f : List NV) : Prop where
  pos : 0 < f.length
  len : f.length ≤ 200
  node : ∀ (i : Nat) (hi : i < f.length), nodeE f[i] i = 0
theorem chkF_zero {f : List NV} : chkF f = 0 ↔ OkF f := by
  unfold chkF
  have hg : ∀ (i : Nat) (hi : i < f.length), errF f i = nodeE f[i] i := fun i hi => by simp [errF, List.getD_eq_getElem?_getD, hi]
  constructor
  · intro h
    split at h
    · cases h
    · rename_i h1
      split at h
      · cases h
      · rename_i h2
        exact ⟨by omega, by omega, fun i hi => by rw [← hg i hi]; exact firstE_zero.1 h i hi⟩
  · rintro ⟨h1, h2, h3⟩
    rw [if_neg (by omega), if_neg (by omega)]
    exact firstE_zero.2 (fun i hi => by rw [hg i hi]; exact h3 i hi)
structure OkN (n : NV) (at_ : Int) : Prop where
  op : 1 ≤ n.op ∧ n.op ≤ 21
  x : usX n.op = true → 0 ≤ n.x ∧ n.x < at_
  x0 : usX n.op = false → n.x = 0
  y : usY n.op = true → 0 ≤ n.y ∧ n.y < at_
  y0 : usY n.op = false → n.y = 0
  fld : fldE n.op n.i n.e n.g = 0
theorem opB_true {used : Bool} {v at_ : Int} : opB used v at_ = true ↔ (used = true → 0 ≤ v ∧ v < at_) ∧ (used = false → v = 0) := by
  cases used <;> simp [opB]
theorem nodeE_zero {n : NV} {at_ : Int} : nodeE n at_ = 0 ↔ OkN n at_ := by
  unfold nodeE
  constructor
  · intro h
    split at h
    · cases h
    · rename_i h1
      split at h
      · cases h
      · rename_i h2
        obtain ⟨h3, h4⟩ := Classical.not_not.1 h2
        obtain ⟨a1, a2⟩ := opB_true.1 h3
        obtain ⟨b1, b2⟩ := opB_true.1 h4
        exact ⟨Classical.not_not.1 h1, a1, a2, b1, b2, h⟩
  · rintro ⟨h1, a1, a2, b1, b2, h⟩
    rw [if_neg (by simp [h1]), if_neg (by simp [opB_true.2 ⟨a1, a2⟩, opB_true.2 ⟨b1, b2⟩])]
    exact h
theorem OkF.at {f : List NV} (h : OkF f) (i : Nat) (hi : i < f.length) : OkN f[i] i := nodeE_zero.1 (h.node i hi)
/-- the tree at a node, from those at its operands -/
def treeAt (f : List NV) (i : Nat) : Tr := (trees f).getD i tr0
theorem treeAt_eq {f : List NV} {i : Nat} (hi : i < f.length) : treeAt f i = (trees f)[i]'(by rw [trees_len]; exact hi) := by
  simp [treeAt, List.getD_eq_getElem?_getD, show i < (trees f).length from by rw [trees_len]; exact hi]
theorem treeAt_node {f : List NV} {i : Nat} (hi : i < f.length) (hx : usX f[i].op = true → f[i].x.toNat < i) (hy : usY f[i].op = true → f[i].y.toNat < i) :
    treeAt f i = mkT f[i] (treeAt f f[i].x.toNat) (treeAt f f[i].y.toNat) := by
  rw [treeAt_eq hi, trees_get hi]
  have ht : ∀ k, k < i → ((trees f).take i).getD k tr0 = treeAt f k := fun k hk => by
    unfold treeAt
    simp [List.getD_eq_getElem?_getD, hk]
  by_cases h1 : usY f[i].op = true
  · rw [mkT_bin h1, mkT_bin h1, ht _ (hx (usY_X h1)), ht _ (hy h1)]
  · by_cases h2 : usX f[i].op = true
    · rw [mkT_un h2 (by simpa using h1), mkT_un h2 (by simpa using h1), ht _ (hx h2)]
    · rw [mkT_leaf (by simpa using h2), mkT_leaf (by simpa using h2)]
theorem treeAt_wf (f : List NV) (i : Nat) : (treeAt f i).wf := by
  unfold treeAt
  by_cases hi : i < (trees f).length
  · rw [show (trees f).getD i tr0 = (trees f)[i] from by simp [List.getD_eq_getElem?_getD, hi]]; exact trees_wf f _ (List.getElem_mem hi)
  · rw [show (trees f).getD i tr0 = tr0 from by simp [List.getD_eq_getElem?_getD, List.getElem?_eq_none (Nat.le_of_not_lt hi)]]; exact tr0_wf
/-- operands stand before their nodes -/
def OrdF (f : List NV) : Prop := ∀ (i : Nat) (hi : i < f.length), (usX f[i].op = true → 0 ≤ f[i].x ∧ f[i].x < i) ∧ (usY f[i].op = true → 0 ≤ f[i].y ∧ f[i].y < i)
theorem OkF.ord {f : List NV} (h : OkF f) : OrdF f := fun i hi => ⟨(h.at i hi).x, (h.at i hi).y⟩
theorem OrdF.clo {f : List NV} (h : OrdF f) : Clo (trees f) := fun k hk c hc => by
  rw [trees_len] at hk
  obtain ⟨hx, hy⟩ := h k hk
  have h1 := treeAt_node hk (fun hu => by have := hx hu; omega) (fun hu => by have := hy hu; omega)
  rw [← treeAt_eq hk, h1] at hc
  have ht : ∀ j, j < k → treeAt f j ∈ (trees f).take k := fun j hj => by
    rw [treeAt_eq (by omega : j < f.length)]
    rw [List.mem_take_iff_getElem]
    exact ⟨j, by rw [trees_len]; omega, rfl⟩
  by_cases h2 : usY f[k].op = true
  · rw [mkT_bin h2] at hc
    simp only [kids, List.mem_cons, List.not_mem_nil, or_false] at hc
    rcases hc with rfl | rfl
    · exact ht _ (by have := hx (usY_X h2); omega)
    · exact ht _ (by have := hy h2; omega)
  · by_cases h3 : usX f[k].op = true
    · rw [mkT_un h3 (by simpa using h2)] at hc
      rw [List.mem_singleton.1 hc]
      exact ht _ (by have := hx h3; omega)
    · rw [mkT_leaf (by simpa using h3)] at hc; cases hc
/-- the canonical list of a list's node is not longer than the list -/
theorem canon_len {f : List NV} (h : OrdF f) {i : Nat} (hi : i < f.length) : (canT (treeAt f i)).length ≤ i + 1 := by
  have hclo : Clo ((trees f).take (i + 1)) := fun k hk c hc => by
    rw [List.length_take] at hk
    rw [List.getElem_take] at hc
    have := h.clo k (by omega) c hc
    rw [List.take_take, Nat.min_eq_left (by omega)]; exact this
  have hm : treeAt f i ∈ (trees f).take (i + 1) := by
    rw [treeAt_eq hi, List.mem_take_iff_getElem]
    exact ⟨i, by rw [trees_len]; omega, rfl⟩
  have hs := visit_sub (treeAt f i) (ts := []) hclo hm (List.nil_subset _)
  have hn := (subT_ok (treeAt f i)).nd
  rw [canT_len]
  have hle := hn.length_le_of_subset hs
  rw [List.length_take] at hle
  omega
end Go.Proofs.Wit
namespace Go.Proofs.Wit
theorem nodeE_op {n : NV} {a : Int} (h : ¬ (1 ≤ n.op ∧ n.op ≤ 21)) : nodeE n a = 10 := if_pos h
theorem nodeE_x {n : NV} {a : Int} (h : 1 ≤ n.op ∧ n.op ≤ 21) (hb : opB (usX n.op) n.x a = false) : nodeE n a = 3 := by
  rw [nodeE, if_neg (by simp [h]), if_pos (by rw [hb]; simp)]
theorem nodeE_y {n : NV} {a : Int} (h : 1 ≤ n.op ∧ n.op ≤ 21) (hb : opB (usY n.op) n.y a = false) : nodeE n a = 3 := by
  rw [nodeE, if_neg (by simp [h]), if_pos (by rw [hb]; simp)]
theorem nodeE_f {n : NV} {a : Int} (h : 1 ≤ n.op ∧ n.op ≤ 21) (hx : opB (usX n.op) n.x a = true) (hy : opB (usY n.op) n.y a = true) : nodeE n a = fldE n.op n.i n.e n.g := by
  rw [nodeE, if_neg (by simp [h]), if_neg (by rw [hx, hy]; simp)]
theorem fldE_3 {op i e g : Int} (h : (!iO op && i != 0 || op != 17 && e != 0 || !grO op && g != 0) = true) : fldE op i e g = 3 := if_pos h
theorem fldE_2 {op i e g : Int} (h : (!iO op && i != 0 || op != 17 && e != 0 || !grO op && g != 0) = false) (h2 : (op == 3 && !(decide (0 ≤ i) && decide (i < 8)) || agO op && !(decide (0 ≤ i) && decide (i < 4)) || op == 17 && !(decide (0 ≤ i) && decide (i < 8) && decide (0 ≤ e) && decide (e < 8)) || grO op && !(decide (1 ≤ g) && decide (g < 16))) = true) : fldE op i e g = 2 := by
  rw [fldE, if_neg (by rw [h]; simp), if_pos h2]
theorem fldE_0 {op i e g : Int} (h : (!iO op && i != 0 || op != 17 && e != 0 || !grO op && g != 0) = false) (h2 : (op == 3 && !(decide (0 ≤ i) && decide (i < 8)) || agO op && !(decide (0 ≤ i) && decide (i < 4)) || op == 17 && !(decide (0 ≤ i) && decide (i < 8) && decide (0 ≤ e) && decide (e < 8)) || grO op && !(decide (1 ≤ g) && decide (g < 16))) = false) : fldE op i e g = 0 := by
  rw [fldE, if_neg (by rw [h]; simp), if_neg (by rw [h2]; simp)]
end Go.Proofs.Wit
namespace Go.Proofs.Wit
open Go Go.RowKit
/-! a region that draws its order and in which one operation turns memory: the others read what it does not turn -/
def drawMOk (ops : Array Oper) (_l : Fl) (c : Nat) : Bool :=
  Nat.blt c ops.size &&
  (List.range ops.size).all (fun i => (dirs ops i).all (fun j => Nat.blt j i)) &&
  (List.range (c + 1)).all (fun i => match ops[i]? with
    | none => false
    | some o => notSel o.op && match o.dst with
      | none => false
      | some d => (List.range (c + 1)).all (fun j => Nat.beq j i || !(dstOf ops j == some d)) &&
        (eyes ops o).all (fun s => (List.range (c + 1)).all (fun j => !(dstOf ops j == some s) || (dirs ops i).contains j))) &&
  (List.range' (c + 1) (ops.size - (c + 1))).all (fun i => (List.range (c + 1)).all (fun j => (dirs ops i).contains j) || (dirs ops i).any (fun j => Nat.blt c j)) &&
  forced ops (List.range (c + 1)) (List.range' (c + 1) (ops.size - (c + 1)))
section
variable {P : Program} {r : Option Nat} {f : FuncId} {R : Value → World → Prop} {w0 : World} {S : List Nat} {Y : List (Nat × Obj)} {n : Nat} {k : List Item} {l : Fl} {h : Hl} {ops : Array Oper}
structure DrawMFacts (ops : Array Oper) (c : Nat) : Prop where
  size : c < ops.size
  lt : ∀ i, i < ops.size → ∀ j ∈ dirs ops i, j < i
  sel : ∀ i, i ≤ c → ∀ o, ops[i]? = some o → notSel o.op = true
  inj : ∀ i j d, i ≤ c → j ≤ c → dstOf ops i = some d → dstOf ops j = some d → i = j
  eye : ∀ i, i ≤ c → ∀ o, ops[i]? = some o → ∀ s ∈ eyes ops o, ∀ j, j ≤ c → dstOf ops j = some s → j ∈ dirs ops i
  late : ∀ i, c < i → i < ops.size → (∀ j, j ≤ c → j ∈ dirs ops i) ∨ ∃ j ∈ dirs ops i, c < j
  forc : forced ops (List.range (c + 1)) (List.range' (c + 1) (ops.size - (c + 1))) = true
theorem mfacts_of {c : Nat} (hc : drawMOk ops l c = true) : DrawMFacts ops c := by
  simp only [drawMOk, Bool.and_eq_true, List.all_eq_true, List.mem_range, Nat.blt_eq, Bool.or_eq_true, List.contains_iff_mem, List.any_eq_true, List.mem_range'_1] at hc
  obtain ⟨⟨⟨⟨hsz, hlt⟩, hr⟩, hla⟩, hfo⟩ := hc
  have hat : ∀ i, i ≤ c → ∃ o d, ops[i]? = some o ∧ o.dst = some d ∧ notSel o.op = true ∧ (∀ j, j ≤ c → j = i ∨ dstOf ops j ≠ some d) ∧ (∀ s ∈ eyes ops o, ∀ j, j ≤ c → dstOf ops j ≠ some s ∨ j ∈ dirs ops i) := by
    intro i hi
    have := hr i (by omega)
    cases ho : ops[i]? with
    | none => simp [ho] at this
    | some o =>
      cases hd : o.dst with
      | none => simp [ho, hd] at this
      | some d =>
        simp only [ho, hd, Bool.and_eq_true, List.all_eq_true, List.mem_range, Bool.or_eq_true, Nat.beq_eq, Bool.not_eq_true', beq_eq_false_iff_ne, List.contains_iff_mem] at this
        exact ⟨o, d, rfl, hd, this.1, fun j hj => this.2.1 j (by omega), fun s hs j hj => this.2.2 s hs j (by omega)⟩
  refine ⟨hsz, hlt, fun i hi o ho => ?_, fun i j d hi hj h1 h2 => ?_, fun i hi o ho s hs j hj hd => ?_, fun i h1 h2 => ?_, hfo⟩
  · obtain ⟨o', d, e1, _, e3, _⟩ := hat i hi
    rw [ho] at e1; cases e1; exact e3
  · obtain ⟨o, d', e1, e2, _, e5, _⟩ := hat i hi
    have : d' = d := by simp [dstOf, e1, e2] at h1; exact h1
    subst this
    rcases e5 j hj with e | e
    · exact e.symm
    · exact absurd h2 e
  · obtain ⟨o', d, e1, _, _, _, e6⟩ := hat i hi
    rw [ho] at e1; cases e1
    rcases e6 s hs j hj with e | e
    · exact absurd hd e
    · exact e
  · rcases hla i ⟨by omega, by omega⟩ with e | ⟨j, e1, e2⟩
    · exact .inl (fun j hj => e j (by omega))
    · exact .inr ⟨j, e1, e2⟩
def RdS2 (P : Program) (w0 : World) (S : List Nat) (n : Nat) (Hs : Hl → Prop) (ops : Array Oper) (F : Array Value → Prop) : Nat → Nat → Array Value → Prop
  | _, 0, t => F t
  | i, m + 1, t => ∃ d v, (∀ h', Hs h' → Outc P w0 S n h' ops i t d v) ∧ RdS2 P w0 S n Hs ops F (i + 1) m (t.setIfInBounds d v)
theorem RdS2.seq {Hs : Hl → Prop} {F : Array Value → Prop} : ∀ {m i : Nat} {t : Array Value}, RdS2 P w0 S n Hs ops F i m t → ∃ (D : Nat → Nat) (V : Nat → Value), (∀ j, j < m → ∀ h', Hs h' → Outc P w0 S n h' ops (i + j) (tsq D V t j) (D j) (V j)) ∧ F (tsq D V t m)
  | 0, _, t, hF => ⟨fun _ => 0, fun _ => undef, fun j hj => by omega, hF⟩
  | m + 1, i, t, ⟨d, v, ho, hr⟩ => by
    obtain ⟨D, V, h1, h2⟩ := RdS2.seq hr
    refine ⟨fun j => match j with | 0 => d | j + 1 => D j, fun j => match j with | 0 => v | j + 1 => V j, fun j hj => ?_, ?_⟩
    · cases j with
      | zero => exact ho
      | succ j =>
        have := h1 j (by omega)
        rw [show i + (j + 1) = i + 1 + j from by omega, tsq_shift]
        exact this
    · rw [tsq_shift]; exact h2
/-- the reads, in the order of the text; Hs: what memory may be -/
def RdM (P : Program) (w0 : World) (S : List Nat) (n : Nat) (Hs : Hl → Prop) (ops : Array Oper) (F : Fl → Prop) (i m : Nat) (l : Fl) : Prop :=
  ∀ t, Frm n t l → RdS2 P w0 S n Hs ops (fun t' => ∃ l', Frm n t' l' ∧ F l') i m t
theorem RdM.nil {Hs : Hl → Prop} {F : Fl → Prop} {i : Nat} (hg : F l) : RdM P w0 S n Hs ops F i 0 l := fun _ hF => ⟨l, hF, hg⟩
theorem RdM.v {Hs : Hl → Prop} {F : Fl → Prop} {i m : Nat} (d : Nat) (v : Value) (hd : Nat.blt d n = true) (hv : ∀ h', Hs h' → Vop P w0 S n h' ops i l d v) (hg : RdM P w0 S n Hs ops F (i + 1) m ((d, v) :: l)) : RdM P w0 S n Hs ops F i (m + 1) l := by
  intro t hF
  refine ⟨d, v, fun h' hh => ?_, hg _ (hF.put v hd)⟩
  obtain ⟨o, ho, hw, hdst, hnd, hd, hr⟩ := hv h' hh
  exact ⟨o, ho, hdst, by simpa [Nat.blt_eq] using hd, hnd, .inl ⟨want_of hF hw, fun w Ds Y' hS => by obtain ⟨nx, h1, rfl⟩ := hr t w Ds Y' hF hS; exact .inl h1⟩⟩
theorem mut_core {c : Nat} (hf : DrawMFacts ops c) {Hs : Hl → Prop} (hh0 : Hs h) {D : Nat → Nat} {V : Nat → Value} {t0 : Array Value} (ht0 : t0.size = n) {l' : Fl} {d : Nat} {K : Value → Hl → Prop}
    (hout : ∀ j, j < c → ∀ h', Hs h' → Outc P w0 S n h' ops j (tsq D V t0 j) (D j) (V j)) (hFr : Frm n (tsq D V t0 c) l') (hm : Mop P w0 S n h ops c l' d K)
    (hK : ∀ v h', K v h' → Hs h' ∧ GoH P r f R w0 S Y n (.inRegion ops (List.range' (c + 1) (ops.size - (c + 1))) :: k) ((d, v) :: l') h') :
    ∀ (fuel τ : Nat) (arr : Array Bool) (t : Array Value), arr.size = ops.size → (∀ j, arr.getD j false = true → ∀ e ∈ dirs ops j, arr.getD e false = true) → (∀ j, c < j → arr.getD j false = false) → t.size = n →
      (∀ j, j < c → arr.getD j false = true → t.getD (D j) undef = V j) → (∀ s, (∀ j, j < c → arr.getD j false = true → D j ≠ s) → (arr.getD c false = true → d ≠ s) → t.getD s undef = t0.getD s undef) →
      (List.range ops.size).countP (fun j => !arr.getD j false) ≤ fuel → ∀ w Ds,
      (arr.getD c false = false ∧ St w0 S w h (mkY Ds ++ Y) ∨ arr.getD c false = true ∧ ∃ v h', K v h' ∧ t.getD d undef = v ∧ St w0 S w h' (mkY Ds ++ Y)) →
      Gos P r f R (.inRegion ops (Region.linearise.go .any ops fuel τ arr []) :: k) t (Ds.map mark) w := by
  have hDst : ∀ j, j < c → dstOf ops j = some (D j) := fun j hj => by
    obtain ⟨o, h1, h2, _⟩ := hout j hj h hh0
    simp [dstOf, h1, h2]
  have hdst : dstOf ops c = some d := by
    obtain ⟨o, h1, h2, _⟩ := hm
    simp [dstOf, h1, h2]
  have hdn : d < n := by
    obtain ⟨o, _, _, _, _, h5, _⟩ := hm
    simpa [Nat.blt_eq] using h5
  have hDlt : ∀ j, j < c → D j < t0.size := fun j hj => by
    obtain ⟨o, _, _, h3, _⟩ := hout j hj h hh0; omega
  have hDinj : ∀ i j, i < c → j < c → D i = D j → i = j := fun i j hi hj e => hf.inj i j (D i) (by omega) (by omega) (hDst i hi) (by rw [hDst j hj, e])
  have hDd : ∀ j, j < c → D j ≠ d := fun j hj e => by
    have := hf.inj j c d (by omega) (Nat.le_refl _) (by rw [hDst j hj, e]) hdst
    omega
  -- all are listed
  have fin : ∀ (fuel τ : Nat) (arr : Array Bool) (t : Array Value), arr.size = ops.size → (∀ j, c < j → arr.getD j false = false) → t.size = n → (∀ j, j ≤ c → arr.getD j false = true) →
      (∀ j, j < c → arr.getD j false = true → t.getD (D j) undef = V j) → (∀ s, (∀ j, j < c → arr.getD j false = true → D j ≠ s) → (arr.getD c false = true → d ≠ s) → t.getD s undef = t0.getD s undef) →
      (List.range ops.size).countP (fun j => !arr.getD j false) ≤ fuel → ∀ w Ds v h', K v h' → t.getD d undef = v → St w0 S w h' (mkY Ds ++ Y) →
      Gos P r f R (.inRegion ops (Region.linearise.go .any ops fuel τ arr []) :: k) t (Ds.map mark) w := by
    intro fuel τ arr t has hno hts hall h1 h2 hc w Ds v h' hKv hv hS
    have harr : ∀ j, arr.getD j false = (List.range (c + 1)).contains j := fun j => by
      by_cases hj : j ≤ c
      · rw [hall j hj]; symm; rw [List.contains_iff_mem, List.mem_range]; omega
      · rw [hno j (by omega)]; symm; rw [← Bool.not_eq_true, List.contains_iff_mem, List.mem_range]; omega
    have hlen := forced_len hf.forc
    have hcnt : (List.range ops.size).countP (fun j => !(List.range (c + 1)).contains j) = (List.range ops.size).countP (fun j => !arr.getD j false) := by
      congr 1; funext j; rw [harr j]
    rw [forced_go hf.forc has harr (by omega)]
    have ht : t = (tsq D V t0 c).setIfInBounds d v := by
      obtain ⟨g1, g2⟩ := tsq_get hDlt hDinj c (Nat.le_refl _)
      have hdT : d < (tsq D V t0 c).size := by rw [tsq_size]; omega
      refine Array.ext_getElem? (fun s => opt_of_getD (by rw [hts, Array.size_setIfInBounds, tsq_size, ht0]) ?_)
      rw [getD_set hdT]
      by_cases hs : d = s
      · subst hs; rw [if_pos rfl, hv]
      · rw [if_neg hs]
        by_cases hx : ∃ j, j < c ∧ D j = s
        · obtain ⟨j, hj, rfl⟩ := hx
          rw [h1 j hj (hall j (by omega)), g1 j hj]
        · rw [h2 s (fun j hj _ e => hx ⟨j, hj, e⟩) (fun _ => hs), g2 s (fun j hj e => hx ⟨j, hj, e⟩)]
    rw [ht]
    exact (hK v h' hKv).2 _ w Ds (hFr.put v (by simpa [Nat.blt_eq] using hdn)) hS
  intro fuel
  induction fuel with
  | zero =>
    intro τ arr t has hcl hno hts h1 h2 hc w Ds hmem
    have hl : ∀ j, j < ops.size → arr.getD j false = true := fun j hj => by
      have := List.countP_eq_zero.1 (Nat.le_zero.1 hc) j (by simpa using hj)
      simpa using this
    have hsz := hf.size
    rcases hmem with ⟨h3, _⟩ | ⟨_, v, h', h4, h5, h6⟩
    · rw [hl c hsz] at h3; cases h3
    · exact fin 0 τ arr t has hno hts (fun j hj => hl j (by omega)) h1 h2 hc w Ds v h' h4 h5 h6
  | succ fuel ih =>
    intro τ arr t has hcl hno hts h1 h2 hc w Ds hmem
    have hsz := hf.size
    by_cases hall : ∀ j, j ≤ c → arr.getD j false = true
    · rcases hmem with ⟨h3, _⟩ | ⟨_, v, h', h4, h5, h6⟩
      · rw [hall c (Nat.le_refl _)] at h3; cases h3
      · exact fin (fuel + 1) τ arr t has hno hts hall h1 h2 hc w Ds v h' h4 h5 h6
    · obtain ⟨j0, hj0⟩ := Classical.not_forall.1 hall
      obtain ⟨hj0c, hj0u⟩ := Classical.not_imp.1 hj0
      rw [Bool.not_eq_true] at hj0u
      have hready : Region.ready .any ops arr ≠ [] := by
        have key : ∀ q, q < ops.size → arr.getD q false = false → Region.ready .any ops arr ≠ [] := by
          intro q
          induction q using Nat.strongRecOn with
          | _ q ihq =>
            intro hq hqu
            by_cases hb : ∃ e ∈ dirs ops q, arr.getD e false = false
            · obtain ⟨e, he, heu⟩ := hb
              have hlt := hf.lt q hq e he
              exact ihq e hlt (by omega) heu
            · obtain ⟨o, ho⟩ : ∃ o, ops[q]? = some o := ⟨ops[q], Array.getElem?_eq_getElem hq⟩
              have : q ∈ Region.ready .any ops arr := by
                rw [mem_ready]
                refine ⟨by rw [getD_tf (by omega)]; exact hqu, o, ho, fun e he hbd => ?_⟩
                cases hx : arr.getD e.on false with
                | true => rfl
                | false => exact absurd ⟨e.on, (mem_dirs ho).2 ⟨e, he, hbd, rfl⟩, hx⟩ hb
              exact List.ne_nil_of_mem this
        exact key j0 (by omega) hj0u
      simp only [Region.linearise.go]
      change Gos P r f R (.inRegion ops (match (Region.ready .any ops arr)[τ % (Region.ready .any ops arr).length]? with
        | some i => Region.linearise.go .any ops fuel (τ / (Region.ready .any ops arr).length) (arr.setIfInBounds i true) [i]
        | none => [].reverse) :: k) t (Ds.map mark) w
      cases hi : (Region.ready .any ops arr)[τ % (Region.ready .any ops arr).length]? with
      | none =>
        exfalso
        cases hr : Region.ready .any ops arr with
        | nil => exact hready hr
        | cons x xs =>
          rw [hr] at hi
          have hlt : τ % (x :: xs).length < (x :: xs).length := Nat.mod_lt _ (by simp)
          rw [List.getElem?_eq_getElem hlt] at hi; cases hi
      | some i =>
        have hmemi := List.mem_of_getElem? hi
        rw [mem_ready] at hmemi
        obtain ⟨hu, o, ho, hdep⟩ := hmemi
        have hiN : i < ops.size := (Array.getElem?_eq_some_iff.1 ho).1
        rw [getD_tf (by omega)] at hu
        simp only []
        rw [linearise_go_acc, List.reverse_singleton, List.singleton_append]
        have hdl : ∀ e ∈ dirs ops i, arr.getD e false = true := fun e he => by
          obtain ⟨e', he', hb, rfl⟩ := (mem_dirs ho).1 he
          exact hdep e' he' hb
        have hic : i ≤ c := by
          apply Classical.byContradiction
          intro hgt
          rcases hf.late i (by omega) hiN with e | ⟨j, e1, e2⟩
          · have := hdl j0 (e j0 hj0c); rw [hj0u] at this; cases this
          · have := hdl j e1; rw [hno j e2] at this; cases this
        have hcl' : ∀ j, (arr.setIfInBounds i true).getD j false = true → ∀ e ∈ dirs ops j, (arr.setIfInBounds i true).getD e false = true := by
          intro j hj e he
          rw [getD_listed (by omega)] at hj ⊢
          split
          · rfl
          · split at hj
            · rename_i hij; subst hij; exact hdl e he
            · exact hcl j hj e he
        have hno' : ∀ j, c < j → (arr.setIfInBounds i true).getD j false = false := fun j hj => by
          rw [getD_listed (by omega), if_neg (by omega)]; exact hno j hj
        have hcnt := count_set (listed := arr) has hiN hu
        have heyes : ∀ o', ops[i]? = some o' → ∀ s ∈ eyes ops o', t.getD s undef = (tsq D V t0 i).getD s undef := fun o' ho' s hs => by
          obtain ⟨g1, g2⟩ := tsq_get hDlt hDinj i hic
          by_cases hx : ∃ j, j < c ∧ D j = s
          · obtain ⟨j, hj, rfl⟩ := hx
            have hjd := hf.eye i hic o' ho' (D j) hs j (by omega) (hDst j hj)
            rw [h1 j hj (hdl j hjd), g1 j (hf.lt i hiN j hjd)]
          · have hsd : arr.getD c false = true → d ≠ s := fun _ e => by
              subst e
              have := hf.lt i hiN c (hf.eye i hic o' ho' d hs c (Nat.le_refl _) hdst)
              omega
            rw [h2 s (fun j hj _ e => hx ⟨j, hj, e⟩) hsd, g2 s (fun j hj e => hx ⟨j, by omega, e⟩)]
        by_cases him : i < c
        · -- a read
          have hOut : ∀ h', Hs h' → Outc P w0 S n h' ops i t (D i) (V i) := fun h' hh =>
            (hout i him h' hh).congr (hf.sel i hic) (by rw [hts, tsq_size, ht0]) heyes
          have hDi : D i < t.size := by rw [hts, ← ht0]; exact hDlt i him
          have hcc : (arr.setIfInBounds i true).getD c false = arr.getD c false := by rw [getD_listed (by omega), if_neg (by omega)]
          have next : ∀ w', (arr.getD c false = false ∧ St w0 S w' h (mkY Ds ++ Y) ∨ arr.getD c false = true ∧ ∃ v h', K v h' ∧ t.getD d undef = v ∧ St w0 S w' h' (mkY Ds ++ Y)) →
              Gos P r f R (.inRegion ops (Region.linearise.go .any ops fuel (τ / (Region.ready .any ops arr).length) (arr.setIfInBounds i true) []) :: k) (t.setIfInBounds (D i) (V i)) (Ds.map mark) w' := fun w' hmem' => by
            refine ih _ _ _ (by simpa using has) hcl' hno' (by simpa using hts) (fun j hj hlj => ?_) (fun s hs hsd => ?_) (by omega) w' Ds ?_
            · rw [getD_set hDi]
              split
              · rename_i e; rw [hDinj i j him hj e]
              · rename_i e
                rw [getD_listed (by omega)] at hlj
                split at hlj
                · rename_i e2; subst e2; exact absurd rfl e
                · exact h1 j hj hlj
            · rw [getD_set hDi, if_neg (hs i him (by rw [getD_listed (by omega), if_pos rfl]))]
              refine h2 s (fun j hj hlj => hs j hj ?_) (fun hx => hsd (by rw [hcc]; exact hx))
              rw [getD_listed (by omega)]; split
              · rfl
              · exact hlj
            · rw [hcc, getD_set hDi, if_neg (hDd i him)]; exact hmem'
          rcases hmem with ⟨h3, hS⟩ | ⟨h3, v, h', h4, h5, hS⟩
          · exact (hOut h hh0).go hS (fun w' hS' => next w' (.inl ⟨h3, hS'⟩))
          · exact (hOut h' (hK v h' h4).1).go hS (fun w' hS' => next w' (.inr ⟨h3, v, h', h4, h5, hS'⟩))
        · -- the operation that turns memory
          obtain rfl : i = c := by omega
          rcases hmem with ⟨h3, hS⟩ | ⟨h3, _⟩
          · refine Mop.go hm hFr (by rw [hts, tsq_size, ht0]) heyes hS (fun v w' h' hKv hS' => ?_)
            have hdt : d < t.size := by omega
            refine ih _ _ _ (by simpa using has) hcl' hno' (by simpa using hts) (fun j hj hlj => ?_) (fun s hs hsd => ?_) (by omega) w' Ds ?_
            · rw [getD_set hdt, if_neg (fun e => hDd j hj e.symm)]
              rw [getD_listed (by omega), if_neg (by omega)] at hlj
              exact h1 j hj hlj
            · rw [getD_set hdt, if_neg (hsd (by rw [getD_listed (by omega), if_pos rfl]))]
              refine h2 s (fun j hj hlj => hs j hj ?_) (fun hx => by rw [h3] at hx; cases hx)
              rw [getD_listed (by omega), if_neg (by omega)]; exact hlj
            · refine .inr ⟨by rw [getD_listed (by omega), if_pos rfl], v, h', hKv, ?_, hS'⟩
              rw [getD_set hdt, if_pos rfl]
          · rw [hu] at h3; cases h3
/-- **a region that draws its order: c turns memory, what stands before it reads, what stands behind it comes behind** -/
theorem GoH.drawM {id : Nat} (c : Nat) (Hs : Hl → Prop) (hmix : P.follows .mixedOrders = true) (hc : drawMOk ops l c = true) (hh0 : Hs h)
    (hg : RdM P w0 S n Hs ops (fun l' => ∃ d K, Mop P w0 S n h ops c l' d K ∧ ∀ v h', K v h' → Hs h' ∧ GoH P r f R w0 S Y n (.inRegion ops (List.range' (c + 1) (ops.size - (c + 1))) :: k) ((d, v) :: l') h') 0 c l) : GoH P r f R w0 S Y n (.code (.region id ops true) :: k) l h := by
  intro t w Ds hF hS
  have hf := mfacts_of hc
  refine .regionDraw (fun τ => ?_)
  obtain ⟨D, V, hout, l', hFr, d, K, hm, hK⟩ := (hg t hF).seq
  simp only [Nat.zero_add] at hout
  simp only [Region.schedule, hmix, Bool.true_or, if_true, Region.linearise]
  have h0 : ∀ j, (Array.replicate ops.size false).getD j false = false := fun j => by
    simp [Array.getD_eq_getD_getElem?, Array.getElem?_replicate]; split <;> simp
  refine mut_core hf hh0 hF.1 hout hFr hm hK ops.size τ _ t (by simp) (fun j hj => ?_) (fun j _ => h0 j) hF.1 (fun j _ hj => ?_) (fun s _ _ => rfl) ?_ _ Ds (.inl ⟨h0 c, hS.drew⟩)
  · rw [h0 j] at hj; cases hj
  · rw [h0 j] at hj; cases hj
  · exact Nat.le_trans (List.countP_le_length) (by simp)
/-- as drawT; what the reads look at is a part hb of what is known -/
theorem GoH.drawTs {id : Nat} (m q : Nat) (hb : Hl) (hsub : hb.Sublist h) (hmix : P.follows .mixedOrders = true) (hc : tailOk ops l m = true) (hg : RdT P w0 S n ops hb (fun l' => Tl P r f R w0 S Y n k ops m hb q [] l' h) 0 m l) : GoH P r f R w0 S Y n (.code (.region id ops true) :: k) l h := by
  intro t w Ds hF hS
  have hf := tailFacts_of hc
  refine .regionDraw (fun τ => ?_)
  obtain ⟨D, V, hout, l', hF', htl⟩ := (hg t hF).seq
  simp only [Nat.zero_add] at hout
  simp only [Region.schedule, hmix, Bool.true_or, if_true, Region.linearise]
  have hDst : ∀ j, j < m → dstOf ops j = some (D j) := fun j hj => by
    obtain ⟨o, h1, h2, _⟩ := hout j hj
    simp [dstOf, h1, h2]
  have hDlt : ∀ j, j < m → D j < t.size := fun j hj => by
    obtain ⟨o, _, _, h3, _⟩ := hout j hj
    rw [hF.1]; exact h3
  have hmN := hf.size
  have hDinj : ∀ i j, i < m → j < m → D i = D j → i = j := fun i j hi hj e => hf.inj i j (D i) hi (by omega) (hDst i hi) (by rw [hDst j hj, e])
  obtain ⟨g1, g2⟩ := tsq_get hDlt hDinj m (Nat.le_refl _)
  have harr : ∀ j, (Array.replicate ops.size false).getD j false = false := fun j => by
    simp [Array.getD_eq_getD_getElem?, Array.getElem?_replicate]; split <;> simp
  refine tail_core hf hF.1 hout ops.size τ _ [] q l' h t _ (by simp) (fun j hj => ?_) (fun j _ => ?_) (by simp) hF' htl hsub hF.1 g1 (fun s hs => ?_) (fun s hs _ => ?_) ?_ _ Ds hS.drew
  · rw [harr] at hj; cases hj
  · rw [harr]; simp
  · rw [g2 s (fun j hj => hs j hj (harr j))]
  · exact g2 s (fun j hj e => hs j hj e)
  · exact Nat.le_trans (List.countP_le_length) (by simp)
/-- append, within such a region -/
theorem Mop.app {i d : Nat} {ty : TypeId} {pos : String} {aft : Array Edge} {g : Option (Nat × Bool)} {K : Value → Hl → Prop} {t e : TypeId} {x y : Operand} {inf : TypeInfo} {z : Value} {q : Option Nat} {xs sp : List Value} {nx cap : Nat} {bn m c : Nat} {news spn : List Value} {en : TypeId} {frn : Nat × Nat} (size : Nat)
    (ho : ops[i]? = some ⟨some d, .call ⟨.builtin .append, #[x, y], #[t, t]⟩, ty, pos, aft, g⟩) (hw : wantL ops l g = true) (hx : opd l x = some (osv q nx cap)) (hy : opd l y = some (.slice (some ⟨bn, 0, none⟩) m c)) (hd : Nat.blt d n = true)
    (hu : P.underlying t = some (.slice e)) (hi : P.info? e = some inf) (hz : inf.zero = some z) (hsz : inf.size = size) (hz1 : z.cells.size = size)
    (hq : q = none → nx = 0 ∧ cap = 0) (j : Nat) (hj : h[j]? = some (q, .cells (xs ++ sp).toArray e (0, 0))) (jn : Nat) (hjn : h[jn]? = some (some bn, .cells (news ++ spn).toArray en frn))
    (hnx : xs.length = nx * size) (hcap : (xs ++ sp).length = cap * size) (hl : news.length = m * size) (hm0 : 0 < m) (h1 : ∀ u ∈ news, u.oneCell' = true) (hmx : nx + m ≤ maxLen) (hbytes : (nx + m) * inf.bytes ≤ 140737488355328)
    (hk : ∀ b' sp' cap', (xs ++ news ++ sp').length = cap' * size → K (osv (some b') (nx + m) cap') (h.set j (some b', .cells (xs ++ news ++ sp').toArray e (0, 0)))) : Mop P w0 S n h ops i l d K :=
  ⟨_, ho, rfl, rfl, rfl, hd, .inl ⟨hw, fun t' w Ds Y' hF hS => .inl (by
    have hbn := hS.get hjn
    have hnews : ∀ j u, news[j]? = some u → w.cell? ((⟨bn, 0, none⟩ : Addr).add j) = some u := by
      intro j u hv
      have hjl := (List.getElem?_eq_some_iff.1 hv).1
      have e1 : (⟨bn, 0, none⟩ : Addr).add j = ⟨bn, j, none⟩ := by unfold Addr.add; split; (rename_i h0; rw [h0]); simp
      rw [e1]
      rw [List.getElem?_eq_getElem hjl] at hv; cases hv
      simp [World.cell?, hbn, List.getElem?_append, hjl]
    obtain ⟨b', sp', cap', w', hrun, hlen, hS'⟩ := app_run hu hi hz hsz hz1 hS hnx hcap hq hj (c := c) hl hm0 hnews h1 hmx hbytes ty
    refine ⟨_, w', _, ?_, hS', hk b' sp' cap' hlen⟩
    have e1 : (#[x, y] : Array Operand).map (Act.eval ⟨t', Ds.map mark⟩) = #[osv q nx cap, .slice (some ⟨bn, 0, none⟩) m c] := by simp [hF.opd hx, hF.opd hy]
    simp only [execOp, resolve, e1, Sem.run_bind, Sem.run_pure, Result.andThen_ok, invoke, builtin, hrun])⟩⟩
end
end Go.Proofs.Wit
namespace Go.Proofs.Wit
open Go Go.RowKit
/-! functions that turn given blocks -/
def blks (h : Hl) : List Nat := h.filterMap (·.1)
theorem mem_blks {h : Hl} {b : Nat} : b ∈ blks h ↔ ∃ o, (some b, o) ∈ h := by
  simp only [blks, List.mem_filterMap]
  constructor
  · rintro ⟨⟨q, o⟩, h1, h2⟩; dsimp only at h2; subst h2; exact ⟨o, h1⟩
  · rintro ⟨o, h1⟩; exact ⟨_, h1, rfl⟩
structure HasH (w : World) (h : Hl) : Prop where
  own : ∀ p ∈ h, ∀ b, p.1 = some b → w.heap[b]? = some p.2 ∧ isSys p.2 = false
  apart : h.Pairwise apartH
theorem St.has {w0 w : World} {S : List Nat} {h : Hl} {Y : List (Nat × Obj)} (s : St w0 S w h Y) : HasH w h := ⟨fun p hp b hb => ⟨(s.own p hp b hb).1, (s.own p hp b hb).2.1⟩, s.apart⟩
theorem HasH.st {w : World} {h : Hl} (g : HasH w h) : St w (blks h) w h [] :=
  ⟨Ex.refl _ _, fun p hp b hb => ⟨(g.own p hp b hb).1, (g.own p hp b hb).2, .inr (mem_blks.2 ⟨p.2, by rw [← hb]; exact hp⟩)⟩, g.apart, (fun p hp => by cases hp), List.nodup_nil⟩
theorem HasH.sub {w : World} {h h' : Hl} (g : HasH w h) (hs : h'.Sublist h) : HasH w h' := ⟨fun p hp => g.own p (hs.subset hp), g.apart.sublist hs⟩
/-- what a callee leaves that turned the blocks h alone -/
theorem St.frame {w0 w w' : World} {S : List Nat} {h h' hF : Hl} {Y : List (Nat × Obj)} (s : St w0 S w (h ++ hF) Y) (g : St w (blks h) w' h' []) : St w0 S w' (h' ++ hF) Y := by
  have hown : ∀ b ∈ blks h, w0.heap.size ≤ b ∨ b ∈ S := fun b hb => by
    obtain ⟨o, ho⟩ := mem_blks.1 hb
    exact (s.own _ (List.mem_append_left _ ho) b rfl).2.2
  have hap := List.pairwise_append.1 s.apart
  have hkeep : ∀ b o, w.heap[b]? = some o → b ∉ blks h → w'.heap[b]? = some o := fun b o ho hb => by
    rw [g.ext.block b (Array.getElem?_eq_some_iff.1 ho).1 hb]; exact ho
  have hsz := g.ext.size
  have hsz0 := s.ext.size
  refine ⟨s.ext.trans g.ext (fun x hx => (hown x hx).symm), fun p hp b hb => ?_, List.pairwise_append.2 ⟨g.apart, hap.2.1, fun p hp q hq b hb hqb => ?_⟩, fun p hp => ?_, s.ynd⟩
  · rcases List.mem_append.1 hp with hp | hp
    · obtain ⟨h1, h2, h3⟩ := g.own p hp b hb
      refine ⟨h1, h2, ?_⟩
      rcases h3 with h3 | h3
      · exact .inl (by omega)
      · exact hown b h3
    · obtain ⟨h1, h2, h3⟩ := s.own p (List.mem_append_right _ hp) b hb
      refine ⟨hkeep b _ h1 (fun hm => ?_), h2, h3⟩
      obtain ⟨o, ho⟩ := mem_blks.1 hm
      exact hap.2.2 _ ho p hp b rfl hb
  · obtain ⟨h1, h2, h3⟩ := g.own p hp b hb
    obtain ⟨k1, k2, k3⟩ := s.own q (List.mem_append_right _ hq) b hqb
    rcases h3 with h3 | h3
    · have := (Array.getElem?_eq_some_iff.1 k1).1; omega
    · obtain ⟨o, ho⟩ := mem_blks.1 h3
      exact hap.2.2 _ ho q hq b rfl hqb
  · obtain ⟨h1, h2, h3⟩ := s.sys p hp
    refine ⟨h1, hkeep p.1 _ h2 (fun hm => ?_), h3⟩
    obtain ⟨o, ho⟩ := mem_blks.1 hm
    obtain ⟨k1, k2, _⟩ := s.own _ (List.mem_append_left _ ho) p.1 rfl
    rw [h2] at k1
    cases k1
    dsimp only at k2
    rw [h3] at k2; cases k2
def CnS (P : Program) (gf : FuncId) (args : List Value) (w : World) (h : Hl) (Rc : Value → Hl → Prop) : Prop :=
  Calls P gf args.toArray w fun e w' => ∃ v h', e = .returned v ∧ Rc v h' ∧ St w (blks h) w' h' []
section
variable {P : Program} {r : Option Nat} {f : FuncId} {R : Value → World → Prop} {w0 : World} {S : List Nat} {Y : List (Nat × Obj)} {n : Nat} {k : List Item} {l : Fl} {h : Hl} {ops : Array Oper} {i d : Nat} {rest : List Nat} {ty : TypeId} {pos : String} {aft : Array Edge} {g : Option (Nat × Bool)}
theorem CnS.of {gf : FuncId} {fn : Func} {c : Code} {args : List Value} {w : World} {Rc : Value → Hl → Prop} (hh : HasH w h) (hf : P.funcs[gf]? = some fn) (hb : fn.body = some c) (hn : Nat.ble args.length fn.ntmps = true)
    (hgo : GoH P none gf (fun v w' => ∃ h', Rc v h' ∧ St w (blks h) w' h' []) w (blks h) [] fn.ntmps [.code c] (parL 0 args) h) : CnS P gf args w h Rc := by
  unfold CnS
  refine Calls.mono (calls_of hf hb hn h hh.st hgo) ?_
  rintro e w' ⟨v, rfl, h', h1, h2⟩
  exact ⟨v, h', rfl, h1, h2⟩
theorem CnS.mono {gf : FuncId} {args : List Value} {w : World} {Rc Rc' : Value → Hl → Prop} (hc : CnS P gf args w h Rc) (hr : ∀ v h', Rc v h' → Rc' v h') : CnS P gf args w h Rc' :=
  Calls.mono hc (fun _ _ ⟨v, h', e, h1, h2⟩ => ⟨v, h', e, hr v h' h1, h2⟩)
/-- the call of such a function -/
theorem GoH.callS {hF : Hl} {az : Array Operand} {ts : Array TypeId} {cal : Operand} {gf : FuncId} {fs cs vs : List Value} (Rc : World → Value → Hl → Prop) (ho : ops[i]? = some ⟨some d, .call ⟨.value cal, az, ts⟩, ty, pos, aft, g⟩) (hw : wantL ops l g = true)
    (hc : opd l cal = some (.func (.func gf) fs.toArray cs.toArray)) (hx : opds l az.toList = some vs) (hd : Nat.blt d n = true) (hcf : ∀ args w, (callFunc gf args).run P w = .ok (.enter gf args) w)
    (hcall : ∀ w Y', St w0 S w (h ++ hF) Y' → CnS P gf (fs ++ vs ++ cs) w h (Rc w))
    (hk : ∀ w v h', Rc w v h' → GoH P r f R w0 S Y n (.inRegion ops rest :: k) ((d, v) :: l) (h' ++ hF)) : GoH P r f R w0 S Y n (.inRegion ops (i :: rest) :: k) l (h ++ hF) :=
  .callG ho hw hc hx hd hcf (fun w Y' hS => ⟨fun v w' => ∃ h', Rc w v h' ∧ St w (blks h) w' h' [], by
    have := hcall w Y' hS
    unfold CnS at this
    simp only [List.append_toArray]
    exact Calls.mono this (fun e w' ⟨v, h', e1, e2, e3⟩ => ⟨v, e1, h', e2, e3⟩), fun v w' ⟨h', h1, h2⟩ => ⟨h' ++ hF, hS.frame h2, hk w v h' h1⟩⟩)
/-- the same, within a region that draws its order -/
theorem Mop.callS {hF : Hl} {az : Array Operand} {ts : Array TypeId} {cal : Operand} {gf : FuncId} {fs cs vs : List Value} {K : Value → Hl → Prop} (ho : ops[i]? = some ⟨some d, .call ⟨.value cal, az, ts⟩, ty, pos, aft, g⟩) (hw : wantL ops l g = true)
    (hc : opd l cal = some (.func (.func gf) fs.toArray cs.toArray)) (hx : opds l az.toList = some vs) (hd : Nat.blt d n = true) (hcf : ∀ args w, (callFunc gf args).run P w = .ok (.enter gf args) w)
    (hcall : ∀ w Y', St w0 S w (h ++ hF) Y' → CnS P gf (fs ++ vs ++ cs) w h (fun v h' => K v (h' ++ hF))) : Mop P w0 S n (h ++ hF) ops i l d K := by
  refine ⟨_, ho, rfl, rfl, rfl, hd, .inl ⟨hw, fun t w Ds Y' hF' hS => .inr ⟨gf, (fs ++ vs ++ cs).toArray, fun v w' => ∃ h', K v (h' ++ hF) ∧ St w (blks h) w' h' [], ?_, ?_, fun v w' ⟨h', h1, h2⟩ => ⟨h' ++ hF, hS.frame h2, h1⟩⟩⟩⟩
  · have e1 := resolve_run (P := P) (ty := ty) (ts := ts) (Ds := Ds) (w := w) hF' hc hx
    simp only [execOp, Sem.run_bind, e1, Result.andThen_ok, invoke, hcf]
    simp
  · exact Calls.mono (hcall w Y' hS) (fun e w' ⟨v, h', e1, e2, e3⟩ => ⟨v, e1, h', e2, e3⟩)
end
end Go.Proofs.Wit
namespace Go.Proofs.Wit
open Go Go.RowKit
/-! nodes in memory: loads, equality, keys of maps -/
def NV.v (n : NV) : Value := .agg #[I64 n.op, I64 n.i, I64 n.e, I64 n.g, I64 n.x, I64 n.y]
/-- the nodes of a list in memory -/
structure FA (w : World) (a : Option Addr) (f : List NV) : Prop where
  at_ : Sl w a (f.flatMap NV.cells)
theorem FA.ex0 {w0 w : World} {a : Option Addr} {f : List NV} (h : FA w0 a f) {S : List Nat} (e : Ex S w0 w) (hS : ∀ b o, a = some ⟨b, o, none⟩ → b ∉ S := by simp) : FA w a f := ⟨Sl.ex h.at_ e hS⟩
abbrev obN (e : TypeId) (ns : List NV) (sp : List Value) : Obj := .cells (ns.flatMap NV.cells ++ sp).toArray e (0, 0)
theorem flatN {ns : List NV} : (ns.flatMap NV.cells).length = ns.length * 6 := flat_len (enc := NV.cells) (sz := 6) (fun _ => rfl)
theorem faAt {w0 w : World} {S : List Nat} {h : Hl} {Y : List (Nat × Obj)} (s : St w0 S w h Y) (j : Nat) {q : Option Nat} {ns : List NV} {e : TypeId} {sp : List Value} (hj : h[j]? = some (q, obN e ns sp)) (hq : q = none → ns.length = 0) : FA w (q.map (fun b => ⟨b, 0, none⟩)) ns := by
  cases q with
  | none => rw [List.eq_nil_of_length_eq_zero (hq rfl)]; exact ⟨Sl.nil _ _⟩
  | some b => exact ⟨Sl.blk (s.get hj)⟩
/-- a list in a block of one's own, or nil -/
def OwnN (e : TypeId) (w w' : World) (v : Value) (ns : List NV) : Prop :=
  ∃ q cap sp, v = osv q ns.length cap ∧ (q = none → ns.length = 0 ∧ cap = 0) ∧ (ns.flatMap NV.cells ++ sp).length = cap * 6 ∧ ∀ b, q = some b → w.heap.size ≤ b ∧ w'.heap[b]? = some (obN e ns sp)
theorem gainN {t : TypeId} {w0 w w' : World} {S : List Nat} {h : Hl} {Y : List (Nat × Obj)} (s : St w0 S w h Y) (e : Ex [] w w') {v : Value} {ns : List NV} (ho : OwnN t w w' v ns) :
    ∃ q cap sp, v = osv q ns.length cap ∧ (q = none → ns.length = 0 ∧ cap = 0) ∧ (ns.flatMap NV.cells ++ sp).length = cap * 6 ∧ St w0 S w' ((q, obN t ns sp) :: h) Y := by
  obtain ⟨q, cap, sp, h1, h2, h3, h4⟩ := ho
  refine ⟨q, cap, sp, h1, h2, h3, ?_⟩
  cases q with
  | none => exact (s.later e).none _
  | some b => exact s.gain e (h4 b rfl).2 rfl (h4 b rfl).1
theorem OwnN.mk {t : TypeId} {w0 w : World} {h : Hl} {Y : List (Nat × Obj)} (s : St w0 [] w h Y) (j : Nat) {q : Option Nat} {ns : List NV} {sp : List Value} {cap m : Nat} (hj : h[j]? = some (q, obN t ns sp)) (hm : m = ns.length)
    (hq : q = none → ns.length = 0 ∧ cap = 0) (hcap : (ns.flatMap NV.cells ++ sp).length = cap * 6) : OwnN t w0 w (osv q m cap) ns := by
  subst hm
  refine ⟨q, cap, sp, rfl, hq, hcap, fun b hb => ?_⟩
  subst hb
  exact ⟨s.fresh hj, s.get hj⟩
theorem OwnN.nil0 {t : TypeId} {w w' : World} : OwnN t w w' (.slice none 0 0) [] := ⟨none, 0, [], rfl, fun _ => ⟨rfl, rfl⟩, rfl, fun _ e => by cases e⟩
section
variable {P : Program} {r : Option Nat} {f : FuncId} {R : Value → World → Prop} {w0 : World} {S : List Nat} {Y : List (Nat × Obj)} {n : Nat} {k : List Item} {l : Fl} {h : Hl}
variable {ops : Array Oper} {i d : Nat} {rest : List Nat} {ty : TypeId} {pos : String} {aft : Array Edge} {g : Option (Nat × Bool)}
/-- a pointer that is not nil -/
theorem Vop.nilCk {x : Operand} {a : Addr} (ho : ops[i]? = some ⟨some d, .nilCheck x, ty, pos, aft, g⟩) (hw : wantL ops l g = true) (hx : opd l x = some (.pointer (some a))) (hd : Nat.blt d n = true) : Vop P w0 S n h ops i l d (.pointer (some a)) :=
  .of ho hw rfl rfl hd (fun t' w Ds _ hF hS => ⟨.value (.pointer (some a)), by simp only [execOp, hF.opd hx]; rfl, rfl⟩)
end
/-- the fields of a node, all of them of a type of ints -/
def nodeFs (fs : Array Field) (it : TypeId) : Prop := ∃ f0 f1 f2 f3 f4 f5 : Field, fs = #[f0, f1, f2, f3, f4, f5] ∧
  (f0.name ≠ "_" ∧ f0.type = it ∧ f0.offset = 0) ∧ (f1.name ≠ "_" ∧ f1.type = it ∧ f1.offset = 1) ∧ (f2.name ≠ "_" ∧ f2.type = it ∧ f2.offset = 2) ∧
  (f3.name ≠ "_" ∧ f3.type = it ∧ f3.offset = 3) ∧ (f4.name ≠ "_" ∧ f4.type = it ∧ f4.offset = 4) ∧ (f5.name ≠ "_" ∧ f5.type = it ∧ f5.offset = 5)
theorem eqIn_node {P : Program} {t it : TypeId} {fs : Array Field} (hu : P.underlying t = some (.struct fs)) (hfs : nodeFs fs it) (hi : P.underlying it = some (.int .i64)) (ha : ∀ w, (isAgg it).run P w = .ok false w) (hst : P.stoodInHeld t = false) (m : Nat) (a b : NV) (w : World) :
    (Op.equalIn (m + 2) t a.v b.v).run P w = .ok (a == b) w := by
  obtain ⟨f0, f1, f2, f3, f4, f5, rfl, ⟨n0, t0, o0⟩, ⟨n1, t1, o1⟩, ⟨n2, t2, o2⟩, ⟨n3, t3, o3⟩, ⟨n4, t4, o4⟩, ⟨n5, t5, o5⟩⟩ := hfs
  have hp : ∀ (c : NV) (w : World), (part it c.v.cells 0).run P w = .ok (I64 c.op) w ∧ (part it c.v.cells 1).run P w = .ok (I64 c.i) w ∧ (part it c.v.cells 2).run P w = .ok (I64 c.e) w ∧ (part it c.v.cells 3).run P w = .ok (I64 c.g) w ∧ (part it c.v.cells 4).run P w = .ok (I64 c.x) w ∧ (part it c.v.cells 5).run P w = .ok (I64 c.y) w := fun c w =>
    ⟨part1 ha rfl w, part1 ha rfl w, part1 ha rfl w, part1 ha rfl w, part1 ha rfl w, part1 ha rfl w⟩
  obtain ⟨a0, a1, a2, a3, a4, a5⟩ := hp a w
  obtain ⟨b0, b1, b2, b3, b4, b5⟩ := hp b w
  have hq : ∀ p q : Int, (Op.equalIn (m + 1) it (.int .i64 p) (.int .i64 q)).run P w = .ok (p == q) w := fun p q => eqIn_int m hi w
  have hv : ∀ c : NV, c.v = .agg c.v.cells := fun c => rfl
  rw [hv a, hv b, show m + 2 = (m + 1) + 1 from rfl, Op.equalIn]
  have hprog : (program : Sem Program).run P w = .ok P w := rfl
  simp only [Sem.run_bind, run_underlying hu, Result.andThen_ok, hprog, hst, ← Array.forIn_toList]
  have hab : (a == b) = (a.op == b.op && (a.i == b.i && (a.e == b.e && (a.g == b.g && (a.x == b.x && a.y == b.y))))) := by
    rw [Bool.eq_iff_iff]
    simp only [beq_iff_eq, Bool.and_eq_true]
    obtain ⟨_, _, _, _, _, _⟩ := a
    obtain ⟨_, _, _, _, _, _⟩ := b
    simp [NV.mk.injEq]
  rw [hab]
  cases h0 : a.op == b.op
  · simp [n0, t0, o0, a0, b0, hq, h0]
  cases h1 : a.i == b.i
  · simp [n0, t0, o0, a0, b0, hq, h0, n1, t1, o1, a1, b1, h1]
  cases h2 : a.e == b.e
  · simp [n0, t0, o0, a0, b0, hq, h0, n1, t1, o1, a1, b1, h1, n2, t2, o2, a2, b2, h2]
  cases h3 : a.g == b.g
  · simp [n0, t0, o0, a0, b0, hq, h0, n1, t1, o1, a1, b1, h1, n2, t2, o2, a2, b2, h2, n3, t3, o3, a3, b3, h3]
  cases h4 : a.x == b.x
  · simp [n0, t0, o0, a0, b0, hq, h0, n1, t1, o1, a1, b1, h1, n2, t2, o2, a2, b2, h2, n3, t3, o3, a3, b3, h3, n4, t4, o4, a4, b4, h4]
  cases h5 : a.y == b.y
  · simp [n0, t0, o0, a0, b0, hq, h0, n1, t1, o1, a1, b1, h1, n2, t2, o2, a2, b2, h2, n3, t3, o3, a3, b3, h3, n4, t4, o4, a4, b4, h4, n5, t5, o5, a5, b5, h5]
  · simp [n0, t0, o0, a0, b0, hq, h0, n1, t1, o1, a1, b1, h1, n2, t2, o2, a2, b2, h2, n3, t3, o3, a3, b3, h3, n4, t4, o4, a4, b4, h4, n5, t5, o5, a5, b5, h5]
theorem chk_node {P : Program} {t it : TypeId} {fs : Array Field} (hu : P.underlying t = some (.struct fs)) (hfs : nodeFs fs it) (hi : P.underlying it = some (.int .i64)) (ha : ∀ w, (isAgg it).run P w = .ok false w) (e : Bool) (m : Nat) (a : NV) (w : World) :
    (Instr.checkKey e (m + 2) t a.v).run P w = .ok () w := by
  obtain ⟨f0, f1, f2, f3, f4, f5, rfl, ⟨n0, t0, o0⟩, ⟨n1, t1, o1⟩, ⟨n2, t2, o2⟩, ⟨n3, t3, o3⟩, ⟨n4, t4, o4⟩, ⟨n5, t5, o5⟩⟩ := hfs
  have a0 : (part it a.v.cells 0).run P w = .ok (I64 a.op) w := part1 ha rfl w
  have a1 : (part it a.v.cells 1).run P w = .ok (I64 a.i) w := part1 ha rfl w
  have a2 : (part it a.v.cells 2).run P w = .ok (I64 a.e) w := part1 ha rfl w
  have a3 : (part it a.v.cells 3).run P w = .ok (I64 a.g) w := part1 ha rfl w
  have a4 : (part it a.v.cells 4).run P w = .ok (I64 a.x) w := part1 ha rfl w
  have a5 : (part it a.v.cells 5).run P w = .ok (I64 a.y) w := part1 ha rfl w
  have hk : ∀ p : Int, (Instr.checkKey e (m + 1) it (.int .i64 p)).run P w = .ok () w := fun p => Go.MapKept.run_checkKey hi (by simp [Go.MapKept.IsKey]) e m
  rw [show a.v = .agg a.v.cells from rfl, show m + 2 = (m + 1) + 1 from rfl, Instr.checkKey]
  simp only [Sem.run_bind, run_underlying hu, Result.andThen_ok, ← Array.forIn_toList]
  simp [n0, t0, o0, a0, hk, n1, t1, o1, a1, n2, t2, o2, a2, n3, t3, o3, a3, n4, t4, o4, a4, n5, t5, o5, a5]
theorem KeyOk.node {P : Program} {t it : TypeId} {fs : Array Field} (hu : P.underlying t = some (.struct fs)) (hfs : nodeFs fs it) (hi : P.underlying it = some (.int .i64)) (ha : ∀ w, (isAgg it).run P w = .ok false w) (hst : P.stoodInHeld t = false) : KeyOk P t NV.v (fun a b => a == b) := by
  refine ⟨fun e a w => chk_node hu hfs hi ha e 9998 a w, fun ev L k w => ?_⟩
  have hq : ∀ a b : NV, (Op.equal t a.v b.v).run P w = .ok (a == b) w := fun a b => eqIn_node hu hfs hi ha hst 9998 a b w
  simp only [Instr.findKey, Sem.run_bind, run_underlying hu, Result.andThen_ok]
  cases L with
  | nil => rfl
  | cons p L =>
    have h0 : Instr.findNow (.struct fs) k.v (ents NV.v ev (p :: L) 0) 0 = none := rfl
    rw [h0]
    exact findAsk_eq (q := fun a b : NV => a == b) hq
theorem bEqNode {P : Program} {t it : TypeId} {fs : Array Field} (hu : P.underlying t = some (.struct fs)) (hfs : nodeFs fs it) (hi : P.underlying it = some (.int .i64)) (ha : ∀ w, (isAgg it).run P w = .ok false w) (hst : P.stoodInHeld t = false) (hg : P.eqGuardType P.depth t = false) {a b : NV} :
    Bin P .eql t a.v b.v (.bool (a == b)) := by
  intro x y w
  have h1 : (Op.equal t a.v b.v).run P w = .ok (a == b) w := eqIn_node hu hfs hi ha hst 9998 a b w
  have hprog : (program : Sem Program).run P w = .ok P w := rfl
  have h2 : (eqGuard .eql t x y a.v b.v).run P w = .ok () w := by
    unfold eqGuard
    simp only [NV.v]
    simp [hg]
  have h3 : (binOp .eql t a.v b.v).run P w = .ok (.bool (a == b)) w := by
    show (do pure (Value.bool (← Op.equal t a.v b.v)) : Sem Value).run P w = _
    simp only [Sem.run_bind, h1, Result.andThen_ok]; rfl
  simp only [Sem.run_bind, h2, Result.andThen_ok, h3]
end Go.Proofs.Wit
namespace Go.Proofs.Wit
/-! the walk that makes a canonical list -/
theorem visit_mem {t : Tr} {ts : List Tr} (h : t ∈ ts) : visit t ts = ts := by
  cases t with
  | leaf => rw [visit, if_pos h]
  | un => rw [visit, if_pos h]
  | bin => rw [visit, if_pos h]
def vkids : Tr → List Tr → List Tr
  | .leaf .., ts => ts
  | .un _ _ _ _ a, ts => visit a ts
  | .bin _ _ _ _ a b, ts => visit b (visit a ts)
def putT (t : Tr) (ts : List Tr) : List Tr := if t ∈ ts then ts else ts ++ [t]
theorem visit_put {t : Tr} {ts : List Tr} (hc : Clo ts) (_hn : ts.Nodup) : putT t (vkids t ts) = visit t ts := by
  unfold putT
  by_cases h : t ∈ ts
  · rw [visit_mem h]
    have hk : vkids t ts = ts := by
      cases t with
      | leaf => rfl
      | un op i e g a => exact visit_mem (hc.mem h a (by simp [kids]))
      | bin op i e g a b =>
        show visit b (visit a ts) = ts
        rw [visit_mem (hc.mem h a (by simp [kids])), visit_mem (hc.mem h b (by simp [kids]))]
    rw [hk, if_pos h]
  · have hnew : t ∉ vkids t ts := fun hm => by
      cases t with
      | leaf => exact h hm
      | un op i e g a =>
        rcases visit_new a hm with h5 | h5
        · exact h h5
        · simp only [size] at h5; omega
      | bin op i e g a b =>
        rcases visit_new b hm with h5 | h5
        · rcases visit_new a h5 with h5 | h5
          · exact h h5
          · simp only [size] at h5; omega
        · simp only [size] at h5; omega
    rw [if_neg hnew]
    cases t with
    | leaf => rw [visit, if_neg h]; rfl
    | un => rw [visit, if_neg h]; rfl
    | bin => rw [visit, if_neg h]; rfl
/-- nodes that are right where they stand -/
def NodesOk (f : List NV) : Prop := ∀ (i : Nat) (hi : i < f.length), OkN f[i] i
theorem OkF.nodes {f : List NV} (h : OkF f) : NodesOk f := fun i hi => h.at i hi
theorem NodesOk.ord {f : List NV} (h : NodesOk f) : OrdF f := fun i hi => ⟨(h i hi).x, (h i hi).y⟩
structure DoneOk (f : List NV) (ts : List Tr) (ds : List Int) : Prop where
  len : ds.length = f.length
  at_ : ∀ i, i < f.length → ds.getD i 0 = -1 ∨ treeAt f i ∈ ts ∧ ds.getD i 0 = (ts.idxOf (treeAt f i) : Int)
theorem DoneOk.mono {f : List NV} {ts us : List Tr} {ds : List Int} (h : DoneOk f ts ds) (hp : ts <+: us) : DoneOk f us ds :=
  ⟨h.len, fun i hi => by
    rcases h.at_ i hi with h1 | ⟨h1, h2⟩
    · exact .inl h1
    · exact .inr ⟨hp.subset h1, by rw [h2, idx_pre hp h1]⟩⟩
theorem DoneOk.set {f : List NV} {ts : List Tr} {ds : List Int} (h : DoneOk f ts ds) {i : Nat} (hi : i < f.length) (hm : treeAt f i ∈ ts) : DoneOk f ts (ds.set i (ts.idxOf (treeAt f i) : Int)) :=
  ⟨by simp [h.len], fun j hj => by
    have hl := h.len
    by_cases e : j = i
    · subst e
      exact .inr ⟨hm, by simp [List.getD_eq_getElem?_getD, hl, hj]⟩
    · rcases h.at_ j hj with h1 | ⟨h1, h2⟩
      · exact .inl (by rw [← h1]; simp [List.getD_eq_getElem?_getD, Ne.symm e])
      · exact .inr ⟨h1, by rw [← h2]; simp [List.getD_eq_getElem?_getD, Ne.symm e]⟩⟩
theorem DoneOk.start {f : List NV} : DoneOk f [] (List.replicate f.length (-1)) := ⟨by simp, fun i hi => .inl (by simp [List.getD_eq_getElem?_getD, hi])⟩
theorem treeAt_mem {f : List NV} {i : Nat} (hi : i < f.length) : treeAt f i ∈ trees f := by
  rw [treeAt_eq hi]; exact List.getElem_mem _
theorem sub_len {f : List NV} {ts : List Tr} (hn : ts.Nodup) (hs : ts ⊆ trees f) : ts.length ≤ f.length := by
  have := hn.length_le_of_subset hs
  rwa [trees_len] at this
/-- a list that lies outside what is turned -/
theorem sepOf {w w' : World} {h h' : Hl} {Y : List (Nat × Obj)} {a : Option Addr} {f : List NV} (ha : FA w a f) (hf : 0 < f.length) (hsep : ∀ b o, a = some ⟨b, o, none⟩ → b ∉ blks h) (s : St w (blks h) w' h' Y) : ∀ b o, a = some ⟨b, o, none⟩ → b ∉ blks h' := fun b o e hm => by
  obtain ⟨b1, o1, e1, h1⟩ := ha.at_.isSome (by rw [flatN]; omega)
  rw [e] at e1
  cases e1
  obtain ⟨ob, hob⟩ := mem_blks.1 hm
  rcases (s.own _ hob b rfl).2.2 with h2 | h2
  · omega
  · exact hsep b o e h2
theorem kids_node {f : List NV} {i : Nat} (hi : i < f.length) (hO : NodesOk f) :
    (usX f[i].op = false ∧ treeAt f i = .leaf f[i].op f[i].i f[i].e f[i].g) ∨
    (usX f[i].op = true ∧ usY f[i].op = false ∧ treeAt f i = .un f[i].op f[i].i f[i].e f[i].g (treeAt f f[i].x.toNat)) ∨
    (usY f[i].op = true ∧ treeAt f i = .bin f[i].op f[i].i f[i].e f[i].g (treeAt f f[i].x.toNat) (treeAt f f[i].y.toNat)) := by
  have h := hO i hi
  have ht := treeAt_node hi (fun hu => by have := h.x hu; omega) (fun hu => by have := h.y hu; omega)
  by_cases h1 : usY f[i].op = true
  · exact .inr (.inr ⟨h1, by rw [ht, mkT_bin h1]⟩)
  · by_cases h2 : usX f[i].op = true
    · exact .inr (.inl ⟨h2, by simpa using h1, by rw [ht, mkT_un h2 (by simpa using h1)]⟩)
    · exact .inl ⟨by simpa using h2, by rw [ht, mkT_leaf (by simpa using h2)]⟩
end Go.Proofs.Wit
namespace Go.Proofs.Wit
open Go
/-- a list of nodes that lies outside S -/
structure FAS (S : List Nat) (w : World) (a : Option Addr) (f : List NV) : Prop where
  at_ : Sl w a (f.flatMap NV.cells)
  sep : ∀ b o, a = some ⟨b, o, none⟩ → b ∉ S
theorem FAS.ex0 {S : List Nat} {w0 w : World} {a : Option Addr} {f : List NV} (h : FAS S w0 a f) (e : Ex S w0 w) : FAS S w a f := ⟨Sl.ex h.at_ e h.sep, h.sep⟩
end Go.Proofs.Wit
namespace Go.Proofs.Wit
open Go Go.RowKit
/-- the list of one of a list's nodes -/
def subF (f : List NV) (i : Int) : List NV := if chkF f ≠ 0 ∨ i < 0 ∨ (f.length : Int) ≤ i then [] else canT (treeAt f i.toNat)
/-- what the program says of an operator -/
def frO (op : Int) : Int := if op = 9 ∨ op = 10 then 1 else if op = 11 then 2 else if op = 12 then 4 else if op = 13 then 8 else if op = 14 then 16 else if op = 15 then 32 else if op = 16 then 64 else if op = 17 then 128 else if 18 ≤ op ∧ op ≤ 21 then 256 else 0
def usV (op : Int) : Value := .agg #[.bool (usX op), .bool (usY op), .bool (op == 3), .bool (agO op), .bool (grO op), .bool (op == 17), .int .i64 (frO op)]
def okO (op : Int) : Bool := decide (1 ≤ op) && decide (op ≤ 21)
def rngB (u : Bool) (x lo hi : Int) : Bool := u && (decide (x < lo) || decide (hi < x))
theorem okO_out {op : Int} (h : ¬ (1 ≤ op ∧ op ≤ 21)) : okO op = false := by
  simp only [okO, Bool.and_eq_false_iff, decide_eq_false_iff_not]; omega
theorem usV_out {op : Int} (h : ¬ (1 ≤ op ∧ op ≤ 21)) : usV op = .agg #[.bool false, .bool false, .bool false, .bool false, .bool false, .bool false, .int .i64 0] := by
  have h1 : usX op = false := by simp only [usX, Bool.and_eq_false_iff, decide_eq_false_iff_not]; omega
  have h2 : usY op = false := by
    cases e : usY op with
    | false => rfl
    | true => rw [usY_X e] at h1; cases h1
  have h3 : (op == 3) = false := by simp; omega
  have h4 : agO op = false := by simp [agO]; omega
  have h5 : grO op = false := by simp [grO]; omega
  have h6 : (op == 17) = false := by simp; omega
  have h7 : frO op = 0 := by
    unfold frO
    repeat (rw [if_neg (by omega)])
  rw [usV, h1, h2, h3, h4, h5, h6, h7]
end Go.Proofs.Wit
