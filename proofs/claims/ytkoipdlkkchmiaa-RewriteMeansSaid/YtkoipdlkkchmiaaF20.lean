/- Laws of walks, for any program, under the conditions that each theorem states. -/
import Derived.Test.YtkoipdlkkchmiaaF16
namespace Go.Proofs.Wit
open Go Go.RowKit
/-! closures -/
def addU (l : List Tr) (t : Tr) : List Tr := if t ∈ l then l else l ++ [t]
def clF (us : List Tr) (l : List Tr) : List Tr := us.foldl (fun l u => addU (addU l u) (negT u)) l
def clos (t : Tr) : List Tr := clF (subT t) []
theorem clF_snoc {us l : List Tr} {u : Tr} : clF (us ++ [u]) l = addU (addU (clF us l) u) (negT u) := by simp [clF]
theorem subT_tr {t u : Tr} (h : u ∈ subT t) : subT u ⊆ subT t := visit_sub u (ts := []) (subT_ok t).clo h (List.nil_subset _)
theorem neg_len {t : Tr} : (canT (negT t)).length ≤ (canT t).length + 1 := by
  unfold negT
  cases hs : strT t with
  | none =>
    rw [Option.getD_none, canT_len, canT_len]
    have : subT (ntT t) = subT t ++ [ntT t] ∨ subT (ntT t) = subT t := by
      unfold subT ntT
      rw [visit]
      split
      · rename_i h; cases h
      · exact .inl rfl
    rcases this with h | h <;> rw [h] <;> simp
  | some c =>
    rw [Option.getD_some]
    exact Nat.le_succ_of_le (canT_kid (kid_in hs))
/-- what a closure is: its formulas -/
def ClP (f : List NV) (gs : List (List NV)) (e : Int) : Prop :=
  (chkF f ≠ 0 ∧ gs = [] ∧ e = chkF f) ∨ (chkF f = 0 ∧ (∃ u ∈ subT (topT f), bT (negT u) = []) ∧ gs = [] ∧ e = 8) ∨ (chkF f = 0 ∧ (∀ u ∈ subT (topT f), bT (negT u) ≠ []) ∧ gs = (clos (topT f)).map bT ∧ e = 0)
/-- the subformulas whose operator is neither propositional nor a fact -/
def topO : Tr → Int
  | .leaf op _ _ _ => op
  | .un op _ _ _ _ => op
  | .bin op _ _ _ _ _ => op
/-! formulas that are known by their trees -/
theorem bT_eq_can {t : Tr} (h : bT t ≠ []) : bT t = canT t := bT_ok (by have := bT_ne.1 h; omega)
/-- the nodes of a canonical list and the parts of its tree -/
theorem canAt_mem {t : Tr} (h : t.ok) {k : Nat} (hk : k < (canT t).length) : treeAt (canT t) k ∈ subT t := by
  rw [← trees_canT h.wf, treeAt_eq hk]; exact List.getElem_mem _
theorem mem_canAt {t u : Tr} (h : t.ok) (hu : u ∈ subT t) : ∃ k, k < (canT t).length ∧ treeAt (canT t) k = u := by
  rw [← trees_canT h.wf] at hu
  obtain ⟨k, hk, e⟩ := List.mem_iff_getElem.1 hu
  rw [trees_len] at hk
  exact ⟨k, hk, by rw [treeAt_eq hk]; exact e⟩
theorem canAt_top {t : Tr} (h : t.ok) : treeAt (canT t) ((canT t).length - 1) = t := by rw [← topT_treeAt]; exact topT_canT h.wf
theorem getD_lt {gs : List FV} {k : Nat} (h : k < gs.length) : gs.getD k FV.z = gs[k] := by simp [List.getD_eq_getElem?_getD, h]
theorem getD_in {gs : List FV} {k : Nat} (h : k < gs.length) : gs.getD k FV.z ∈ gs := by rw [getD_lt h]; exact List.getElem_mem _
theorem upT_kids {r : Rul} (hr : RulOk r) {f : List NV} {i : Nat} (hi : i < f.length) (hO : NodesOk f) : (upT r (treeAt f i)).ok := upT_ok hr (hO.tree i hi)
/-- a list that is a formula, not too long -/
structure Cf (f : List NV) (t : Tr) : Prop where
  eq : f = bT t
  ne : f ≠ []
  ok : t.ok
theorem Cf.can {f : List NV} {t : Tr} (h : Cf f t) : f = canT t ∧ (canT t).length ≤ 200 := by
  have h1 : ¬ 200 < (canT t).length := fun hl => h.ne (h.eq.trans (bT_nil.2 hl))
  exact ⟨h.eq.trans (bT_ok h1), by omega⟩
theorem Cf.okF {f : List NV} {t : Tr} (h : Cf f t) : OkF f := by rw [h.can.1]; exact canT_okF h.ok h.can.2
theorem Cf.chk {f : List NV} {t : Tr} (h : Cf f t) : chkF f = 0 := chkF_zero.2 h.okF
theorem Cf.top {f : List NV} {t : Tr} (h : Cf f t) : topT f = t := by rw [h.can.1]; exact topT_canT h.ok.wf
theorem Cf.ofB {t : Tr} (h : t.ok) (hl : bT t ≠ []) : Cf (bT t) t := ⟨rfl, hl, h⟩
theorem Cf.pos {f : List NV} {t : Tr} (h : Cf f t) : 0 < f.length := h.okF.pos
theorem Cf.le {f : List NV} {t : Tr} (h : Cf f t) : f.length ≤ 200 := h.okF.len
theorem Cf.small {f : List NV} {t c : Tr} (h : Cf f t) (hc : c.ok) (hl : (canT c).length ≤ (canT t).length) : Cf (bT c) c := Cf.ofB hc (bT_ne.2 (by have := h.can.2; omega))
theorem Cf.inj {f g : List NV} {s t : Tr} (h : Cf f s) (h' : Cf g t) : f = g ↔ s = t := ⟨fun e => by rw [← h.top, e, h'.top], fun e => by rw [h.eq, e, ← h'.eq]⟩
theorem Cf.last {f : List NV} {t : Tr} (h : Cf f t) (hl : f.length - 1 < f.length) : f[f.length - 1].op = topO t ∧ (f[f.length - 1].op = 4 → strT t = some (treeAt f f[f.length - 1].x.toNat) ∧ 0 ≤ f[f.length - 1].x ∧ f[f.length - 1].x < f.length) := by
  have ht : treeAt f (f.length - 1) = t := by rw [← topT_treeAt]; exact h.top
  have hn := h.okF.nodes
  have hO := hn _ hl
  rcases kids_node hl hn with ⟨h1, h2⟩ | ⟨h1, h1', h2⟩ | ⟨h1, h2⟩
  · rw [ht] at h2
    refine ⟨by rw [h2]; rfl, fun e => ?_⟩
    rw [e] at h1; exact absurd h1 (by decide)
  · rw [ht] at h2
    refine ⟨by rw [h2]; rfl, fun e => ?_⟩
    have := hO.x h1
    refine ⟨?_, this.1, by omega⟩
    rw [h2, strT, if_pos e]
  · rw [ht] at h2
    refine ⟨by rw [h2]; rfl, fun e => ?_⟩
    rw [e] at h1; exact absurd h1 (by decide)
theorem strT_none {t : Tr} (h : t.ok) (ho : topO t ≠ 4) : strT t = none := by
  cases t with
  | leaf => rfl
  | bin => rfl
  | un op i e g a => exact if_neg ho
def isF (f : List NV) (o : Int) : Bool := decide (f.length = 1) && (f.getD 0 nv0).op == o
theorem Cf.is {f : List NV} {t : Tr} (h : Cf f t) (o : Int) : isF f o = isT t o := by
  have h1 := h.can.1
  cases t with
  | leaf op i e g =>
    have : f = [⟨op, i, e, g, 0, 0⟩] := by rw [h1]; rfl
    rw [this]; simp [isF, isT]
  | un op i e g a =>
    have h2 : 2 ≤ f.length := by
      rw [h1, canT_len]
      have hs : a ∈ subT (.un op i e g a) := subT_kid (c := a) (by simp [kids]) (mem_subT a)
      have hs2 := mem_subT (.un op i e g a)
      have hne : a ≠ .un op i e g a := fun h => by have := congrArg SizeOf.sizeOf h; simp at this
      have h3 : [a, .un op i e g a].Nodup := by simp [hne]
      exact h3.length_le_of_subset (fun x hx => by
        rcases List.mem_cons.1 hx with rfl | hx
        · exact hs
        · rw [List.mem_singleton.1 hx]; exact hs2)
    rw [isF, decide_eq_false (by omega)]; rfl
  | bin op i e g a b =>
    have h2 : 2 ≤ f.length := by
      rw [h1, canT_len]
      have hs : a ∈ subT (.bin op i e g a b) := subT_kid (c := a) (by simp [kids]) (mem_subT a)
      have hs2 := mem_subT (.bin op i e g a b)
      have hne : a ≠ .bin op i e g a b := fun h => by have := congrArg SizeOf.sizeOf h; simp only [Tr.bin.sizeOf_spec] at this; omega
      have h3 : [a, .bin op i e g a b].Nodup := by simp [hne]
      exact h3.length_le_of_subset (fun x hx => by
        rcases List.mem_cons.1 hx with rfl | hx
        · exact hs
        · rw [List.mem_singleton.1 hx]; exact hs2)
    rw [isF, decide_eq_false (by omega)]; rfl
theorem Cf.opp {f g : List NV} {s t : Tr} (h : Cf f s) (h' : Cf g t) : ∀ c, strT s = some c → (decide (bT c = g) = (strT s == some t)) := fun c hc => by
  have h1 := h.small (strT_ok h.ok hc) (canT_kid (kid_in hc))
  rw [hc, decide_eq_decide.2 (h1.inj h')]
  by_cases e : c = t
  · simp [e]
  · rw [decide_eq_false e]
    symm
    rw [beq_eq_false_iff_ne]
    intro e2; exact e (Option.some.inj e2)
/-! substitution -/
def frsE : List (List NV) → Int
  | [] => 0
  | g :: gs => if chkF g ≠ 0 then chkF g else frsE gs
theorem frsE_zero : ∀ {gs : List (List NV)}, frsE gs = 0 ↔ ∀ g ∈ gs, chkF g = 0
  | [] => by simp [frsE]
  | g :: gs => by
    rw [frsE]
    by_cases h : chkF g = 0
    · rw [if_neg (by simp [h]), frsE_zero]; simp [h]
    · rw [if_pos h]; simp [h]
theorem frsE_at : ∀ {gs : List (List NV)} {k : Nat} (hk : k < gs.length), (∀ g ∈ gs.take k, chkF g = 0) → chkF gs[k] ≠ 0 → frsE gs = chkF gs[k]
  | g :: gs, 0, _, _, h => by rw [frsE]; exact if_pos h
  | g :: gs, k + 1, hk, h0, h => by
    rw [frsE, if_neg (by simp [h0 g (by simp)])]
    exact frsE_at (k := k) (by simpa using hk) (fun x hx => h0 x (by simp [hx])) h
/-- what a substitution returns -/
def SbP (f : List NV) (to : List (List NV)) (o : List NV) (e : Int) : Prop :=
  (chkF f ≠ 0 ∧ o = [] ∧ e = chkF f) ∨ (chkF f = 0 ∧ frsE to ≠ 0 ∧ o = [] ∧ e = frsE to) ∨ (chkF f = 0 ∧ frsE to = 0 ∧ UpP (subR (to.map topT)) f o e)
theorem tops_ok {to : List (List NV)} (h : frsE to = 0) : ∀ t ∈ to.map topT, t.ok := fun t ht => by
  obtain ⟨g, hg, rfl⟩ := List.mem_map.1 ht
  exact (chkF_zero.1 (frsE_zero.1 h g hg)).top
theorem comp_bT {g : List NV} (h : chkF g = 0) : compF g = bT (topT g) := by
  have := compF_len h
  have h2 := (chkF_zero.1 h).len
  rw [compF_eq h] at this ⊢
  exact (bT_ok (by omega)).symm
end Go.Proofs.Wit
