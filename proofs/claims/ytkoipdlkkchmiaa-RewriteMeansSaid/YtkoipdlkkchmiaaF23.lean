/- Laws of walks, for any program, under the conditions that each theorem states. -/
import Derived.Test.YtkoipdlkkchmiaaF20
namespace Go.Proofs.Wit
open Go Go.RowKit
/-! lists of formulas in memory -/
/-- a list of formulas that is the caller's alone -/
def OwnL (t tl : TypeId) (w w' : World) (v : Value) (gs : List FV) : Prop := ∃ (q : Option Nat) (cap : Nat) (sp : List Value) (H : Hl), v = osv q gs.length cap ∧ (q = none → gs.length = 0 ∧ cap = 0) ∧ (gs.map FV.v ++ sp).length = cap ∧ NewH w w' ((q, ob FV.v tl gs sp) :: H) ∧ ∀ g ∈ gs, g.In t H
theorem NewH.nil {w w' : World} {o : Obj} : NewH w w' [(none, o)] := ⟨fun p hp b hb => (by rw [List.mem_singleton.1 hp] at hb; cases hb), by simp⟩
theorem OwnL.nil0 {t tl : TypeId} {w w' : World} : OwnL t tl w w' (.slice none 0 0) [] := ⟨none, 0, [], [], rfl, fun _ => ⟨rfl, rfl⟩, rfl, NewH.nil, fun _ h => by cases h⟩
theorem OwnL.mk {t tl : TypeId} {w0 w : World} {h : Hl} {Y : List (Nat × Obj)} (s : St w0 [] w h Y) {q : Option Nat} {gs : List FV} {sp : List Value} {cap : Nat} {H : Hl} (hs : ((q, ob FV.v tl gs sp) :: H).Sublist h) (hq : q = none → gs.length = 0 ∧ cap = 0) (hcap : (gs.map FV.v ++ sp).length = cap) (hin : ∀ g ∈ gs, g.In t H) : OwnL t tl w0 w (osv q gs.length cap) gs :=
  ⟨q, cap, sp, H, rfl, hq, hcap, (NewH.of s).sub hs, hin⟩
/-- a formula of one part of the memory lies outside the other -/
theorem FV.In.sep {t : TypeId} {w0 w : World} {S : List Nat} {h hF : Hl} {Y : List (Nat × Obj)} {x : FV} (g : x.In t hF) (s : St w0 S w (h ++ hF) Y) : FAS (blks h) w x.a x.f := by
  refine ⟨((g.mono (List.subset_append_right h hF)).at s).at_, fun b o e hm => ?_⟩
  obtain ⟨q, sp, h1, h2, _⟩ := g
  rw [h2] at e
  obtain ⟨o1, ho⟩ := mem_blks.1 hm
  cases q with
  | none => cases e
  | some c =>
    cases e
    exact (List.pairwise_append.1 s.apart).2.2 _ ho _ h1 b rfl rfl
theorem FAS.fa {S : List Nat} {w : World} {a : Option Addr} {f : List NV} (h : FAS S w a f) : FA w a f := ⟨h.at_⟩
/-- formulas of a list, by their trees -/
structure ClIs (t : TypeId) (H : Hl) (gs : List FV) (ts : List Tr) : Prop where
  eq : gs.map FV.f = ts.map bT
  cf : ∀ u ∈ ts, u.ok ∧ bT u ≠ []
  in_ : ∀ g ∈ gs, g.In t H
theorem ClIs.nil {t : TypeId} {H : Hl} : ClIs t H [] [] := ⟨rfl, fun _ h => (by cases h), fun _ h => (by cases h)⟩
theorem ClIs.mono {t : TypeId} {H H' : Hl} {gs : List FV} {ts : List Tr} (h : ClIs t H gs ts) (hs : H ⊆ H') : ClIs t H' gs ts := ⟨h.eq, h.cf, fun g hg => (h.in_ g hg).mono hs⟩
theorem ClIs.len {t : TypeId} {H : Hl} {gs : List FV} {ts : List Tr} (h : ClIs t H gs ts) : gs.length = ts.length := by have := congrArg List.length h.eq; simpa using this
theorem ClIs.at {t : TypeId} {H : Hl} {gs : List FV} {ts : List Tr} (h : ClIs t H gs ts) {k : Nat} (hk : k < gs.length) : Cf gs[k].f (ts[k]'(by have := h.len; omega)) := by
  have hk2 : k < ts.length := by have := h.len; omega
  have h1 : gs[k].f = bT ts[k] := by
    have := congrArg (fun l => l[k]?) h.eq
    simp only [List.getElem?_map, List.getElem?_eq_getElem hk, List.getElem?_eq_getElem hk2, Option.map_some, Option.some.injEq] at this
    exact this
  have h2 := h.cf _ (List.getElem_mem hk2)
  exact ⟨h1, by rw [h1]; exact h2.2, h2.1⟩
theorem ClIs.mem {t : TypeId} {H : Hl} {gs : List FV} {ts : List Tr} (h : ClIs t H gs ts) {g : FV} (hg : g ∈ gs) : ∃ u ∈ ts, Cf g.f u := by
  obtain ⟨k, hk, rfl⟩ := List.mem_iff_getElem.1 hg
  exact ⟨_, List.getElem_mem _, h.at hk⟩
theorem ClIs.any {t : TypeId} {H : Hl} {gs : List FV} {ts : List Tr} (h : ClIs t H gs ts) {x : FV} {u : Tr} (hx : Cf x.f u) : gs.any (fun y => decide (x.f = y.f)) = decide (u ∈ ts) := by
  have e : (∃ y ∈ gs, x.f = y.f) ↔ u ∈ ts := by
    constructor
    · rintro ⟨y, hy, e⟩
      obtain ⟨v, hv, hc⟩ := h.mem hy
      rw [(hx.inj hc).1 e]; exact hv
    · intro hu
      obtain ⟨k, hk, e⟩ := List.mem_iff_getElem.1 hu
      have hk2 : k < gs.length := by have := h.len; omega
      have hc := h.at hk2
      exact ⟨_, List.getElem_mem hk2, (hx.inj hc).2 e.symm⟩
  rw [← decide_eq_decide.2 e]
  by_cases h1 : ∃ y ∈ gs, x.f = y.f
  · rw [decide_eq_true h1, List.any_eq_true]
    obtain ⟨y, hy, e⟩ := h1
    exact ⟨y, hy, by simpa using e⟩
  · rw [decide_eq_false h1, List.any_eq_false]
    intro y hy hc
    exact h1 ⟨y, hy, by simpa using hc⟩
def addG (gs : List FV) (x : FV) : List FV := if gs.any (fun y => decide (x.f = y.f)) = true then gs else gs ++ [x]
theorem addG_len (gs : List FV) (x : FV) : (addG gs x).length ≤ gs.length + 1 := by unfold addG; split <;> simp
theorem ClIs.add {t : TypeId} {H : Hl} {gs : List FV} {ts : List Tr} (h : ClIs t H gs ts) {x : FV} {u : Tr} (hx : Cf x.f u) (hi : x.In t H) : ClIs t H (addG gs x) (addU ts u) := by
  unfold addG addU
  rw [h.any hx]
  by_cases hu : u ∈ ts
  · rw [if_pos (by simpa using hu), if_pos hu]; exact h
  · rw [if_neg (by simpa using hu), if_neg hu]
    refine ⟨by rw [List.map_append, List.map_append, h.eq, List.map_singleton, List.map_singleton, hx.eq], fun v hv => ?_, fun g hg => ?_⟩
    · rcases List.mem_append.1 hv with hv | hv
      · exact h.cf v hv
      · rw [List.mem_singleton.1 hv]; exact ⟨hx.ok, by rw [← hx.eq]; exact hx.ne⟩
    · rcases List.mem_append.1 hg with hg | hg
      · exact h.in_ g hg
      · rw [List.mem_singleton.1 hg]; exact hi
/-- the closure's list while it grows: a cell that holds it, and its block -/
abbrev clH (t te : TypeId) (bL : Nat) (q : Option Nat) (cap : Nat) (gs : List FV) (sp : List Value) : Hl := [(some bL, .cells #[osv q gs.length cap] t (0, 0)), (q, ob FV.v te gs sp)]
/-- what a negation without a double one returns -/
def NegP (f o : List NV) (e : Int) : Prop := (chkF f ≠ 0 ∧ o = [] ∧ e = chkF f) ∨ (chkF f = 0 ∧ o = bT (negT (topT f)) ∧ e = if o = [] then 8 else 0)
/-- what a negation normal form returns -/
def NnfP (f o : List NV) (e : Int) : Prop := (chkF f ≠ 0 ∧ o = [] ∧ e = chkF f) ∨ (chkF f = 0 ∧ o = bT (nnT (topT f)).1 ∧ e = if o = [] then 8 else 0)
theorem subs_cf {t : Tr} (h : t.ok) (hl : (canT t).length ≤ 200) : ∀ u ∈ subT t, u.ok ∧ bT u ≠ [] := fun u hu => by
  have h1 : (canT u).length ≤ (canT t).length := by
    rw [canT_len, canT_len]
    exact (subT_ok u).nd.length_le_of_subset (subT_tr hu)
  exact ⟨subT_all h u hu, bT_ne.2 (by omega)⟩
theorem subs_eq {t : Tr} (h : t.ok) (hl : (canT t).length ≤ 200) : (List.range (canT t).length).map (fun k => canT (treeAt (canT t) k)) = (subT t).map bT := by
  have h1 : subT t = (List.range (canT t).length).map (fun k => treeAt (canT t) k) := by
    rw [← trees_canT h.wf]
    refine List.ext_getElem (by simp [trees_len]) (fun k h1 h2 => ?_)
    rw [trees_len] at h1
    simp [treeAt_eq h1]
  rw [h1, List.map_map]
  refine List.map_congr_left (fun k hk => ?_)
  rw [List.mem_range] at hk
  exact (bT_eq_can (subs_cf h hl _ (canAt_mem h hk)).2).symm
theorem compF_nodes (f : List NV) : NodesOk (compF f) := by
  by_cases h : chkF f = 0
  · exact (compF_ok h).nodes
  · rw [compF, if_pos h]; intro i hi; exact absurd hi (Nat.not_lt_zero _)
theorem compF_le2 (f : List NV) : (compF f).length ≤ 200 := by
  by_cases h : chkF f = 0
  · exact (compF_ok h).len
  · rw [compF, if_pos h]; simp
end Go.Proofs.Wit
