/- Laws of walks, for any program, under the conditions that each theorem states. -/
import Derived.Test.YtkoipdlkkchmiaaF25
namespace Go.Proofs.Wit
open Go Go.RowKit
/-! the examples of the chapter; substitutions of what is small -/
def uniS (ts : List Tr) : List Tr := ts.flatMap subT
theorem KC.uniS (ts : List Tr) : KC (uniS ts) := fun u hu c hc => by
  obtain ⟨t, ht, h⟩ := List.mem_flatMap.1 hu
  exact List.mem_flatMap.2 ⟨t, ht, (KC.sub t) u h c hc⟩
theorem uniS_sub (ts : List Tr) : ts ⊆ uniS ts := fun t ht => List.mem_flatMap.2 ⟨t, ht, mem_subT t⟩
theorem uniS_len {ts : List Tr} {m : Nat} (h : ∀ t ∈ ts, (canT t).length ≤ m) : (uniS ts).length ≤ ts.length * m := by
  induction ts with
  | nil => simp [uniS]
  | cons t ts ih =>
    have h1 := h t (by simp)
    have h2 := ih (fun u hu => h u (by simp [hu]))
    unfold uniS at h2 ⊢
    rw [List.flatMap_cons, List.length_append, List.length_cons, Nat.succ_mul]
    rw [canT_len] at h1
    omega
theorem SbP.small {f : List NV} {to : List (List NV)} {o : List NV} {e : Int} (h : SbP f to o e) (h0 : chkF f = 0) (h1 : frsE to = 0) {m : Nat} (hm : ∀ g ∈ to, g.length ≤ m) (hl : to.length * m + f.length ≤ 200) :
    o = canT (upT (subR (to.map topT)) (topT f)) ∧ (canT (upT (subR (to.map topT)) (topT f))).length ≤ to.length * m + f.length ∧ bT (upT (subR (to.map topT)) (topT f)) = o ∧ o ≠ [] ∧ e = 0 := by
  rcases h with h | h | ⟨_, _, h⟩
  · exact absurd h0 h.1
  · exact absurd h1 h.2.1
  · have hl2 : (uniS (to.map topT)).length ≤ to.length * m := by
      have := uniS_len (ts := to.map topT) (m := m) (fun t ht => by
        obtain ⟨g, hg, rfl⟩ := List.mem_map.1 ht
        have h2 := compF_len (frsE_zero.1 h1 g hg)
        rw [compF_eq (frsE_zero.1 h1 g hg)] at h2
        have := hm g hg
        omega)
      rwa [List.length_map] at this
    rcases h.small (subR_ok (tops_ok h1)) (subR_small (uniS_sub _)) (KC.uniS _) (by omega) with h | ⟨_, a, b, c, d, e1, e2⟩
    · exact absurd h0 h.1
    · exact ⟨a, by omega, d, e1, e2⟩
abbrev f0T (i : Int) : Tr := .leaf 3 i 0 0
def exL : List NV := [⟨3, 0, 0, 0, 0, 0⟩, ⟨3, 1, 0, 0, 0, 0⟩, ⟨9, 1, 0, 0, 1, 0⟩, ⟨7, 0, 0, 0, 0, 2⟩, ⟨4, 0, 0, 0, 3, 0⟩]
def exS : List NV := [⟨3, 0, 0, 0, 0, 0⟩, ⟨7, 0, 0, 0, 0, 0⟩, ⟨9, 0, 0, 0, 1, 0⟩, ⟨3, 1, 0, 0, 0, 0⟩, ⟨6, 0, 0, 0, 2, 3⟩]
def exA : List NV := [⟨3, 0, 0, 0, 0, 0⟩, ⟨3, 1, 0, 0, 0, 0⟩, ⟨5, 0, 0, 0, 0, 1⟩]
def exN : List NV := [⟨3, 0, 0, 0, 0, 0⟩, ⟨4, 0, 0, 0, 0, 0⟩]
def exW : Tr := .bin 5 0 0 0 (f0T 0) (.un 10 1 0 0 (ntT (f0T 1)))
theorem ex_nnf {o : List NV} {e : Int} (h : NnfP exL o e) : o = bT exW ∧ e = 0 := by
  rcases h with ⟨h, _⟩ | ⟨_, rfl, rfl⟩
  · exact absurd (by decide) h
  · exact ⟨rfl, by decide⟩
theorem ex_sim {o : List NV} {e : Int} (h : UpP simT exS o e) : o = bT (cT 1) ∧ e = 0 := by
  rcases h.small simT_ok sim_small KC.nil (by decide) with h | ⟨_, h1, _, _, h2, _, h3⟩
  · exact absurd (by decide) h.1
  · exact ⟨by rw [← h2]; rfl, h3⟩
theorem ex_sub {o : List NV} {e : Int} (h : SbP exA [[⟨3, 1, 0, 0, 0, 0⟩], [⟨3, 0, 0, 0, 0, 0⟩]] o e) : o = bT (.bin 5 0 0 0 (f0T 1) (f0T 0)) ∧ e = 0 := by
  have := h.small (by decide) (by decide) (m := 1) (by decide) (by decide)
  exact ⟨by rw [← this.2.2.1]; rfl, this.2.2.2.2⟩
theorem ex_clo {gs : List (List NV)} {e : Int} (h : ClP exN gs e) : gs = [bT (f0T 0), bT (ntT (f0T 0))] ∧ e = 0 := by
  rcases h with ⟨h, _⟩ | ⟨_, ⟨u, hu, h⟩, _⟩ | ⟨_, _, rfl, rfl⟩
  · exact absurd (by decide) h
  · have : ∀ u ∈ subT (topT exN), bT (negT u) ≠ [] := by decide
    exact absurd h (this u hu)
  · exact ⟨by decide, rfl⟩
theorem ex_neg {o : List NV} {e : Int} (h : NegP exN o e) : o = bT (f0T 0) ∧ e = 0 := by
  rcases h with ⟨h, _⟩ | ⟨_, rfl, rfl⟩
  · exact absurd (by decide) h
  · exact ⟨rfl, by decide⟩
theorem f0T_ok (i : Nat) (h : i < 8) : (f0T i).ok := ⟨by decide, rfl, by
  have : ∀ j : Fin 8, fldE 3 ((j.val : Nat) : Int) 0 0 = 0 := by decide
  exact this ⟨i, h⟩⟩
end Go.Proofs.Wit
