/- Laws of walks, for any program, under the conditions that each theorem states. -/
import Derived.Test.YtkoipdlkkchmiaaE23
namespace Go.Proofs.Wit
open Go Go.RowKit
/-! the nodes of normal forms -/
theorem treeAt_op {f : List NV} {i : Nat} (hi : i < f.length) (hO : NodesOk f) : topO (treeAt f i) = f[i].op := by
  rcases kids_node hi hO with ⟨_, h⟩ | ⟨_, _, h⟩ | ⟨_, h⟩ <;> rw [h] <;> rfl
theorem nf_node {u : Tr} {a : List NV} (hu : u.ok) (hs : allS nfP u) (ha : a = bT u) {i : Nat} (hi : i < a.length) :
    a[i].op ≠ 7 ∧ a[i].op ≠ 8 ∧ (a[i].op = 4 → ∃ k : Nat, a[i].x = (k : Int) ∧ k < i ∧ ∃ h : k < a.length, a[k].op = 3 ∨ 11 ≤ a[k].op) := by
  have hne : bT u ≠ [] := fun e => by rw [ha, e] at hi; exact absurd hi (Nat.not_lt_zero _)
  rw [bT_eq_can hne] at ha
  subst ha
  have hO := canT_nodes hu
  have hp := hs.sub _ (canAt_mem hu hi)
  have ho := treeAt_op hi hO
  refine ⟨by rw [← ho]; exact hp.1, by rw [← ho]; exact hp.2.1, fun h4 => ?_⟩
  have hok := hO i hi
  have hX : usX (canT u)[i].op = true := by rw [h4]; rfl
  have hrx := hok.x hX
  have hk : (canT u)[i].x.toNat < (canT u).length := by omega
  refine ⟨(canT u)[i].x.toNat, by omega, by omega, hk, ?_⟩
  rw [← treeAt_op hk hO]
  rcases kids_node hi hO with ⟨h, _⟩ | ⟨_, _, h⟩ | ⟨h, _⟩
  · rw [hX] at h; cases h
  · rw [h4] at h
    exact hp.2.2 _ _ _ _ h
  · rw [h4] at h; exact absurd h (by decide)
theorem cf_node {u : Tr} {a : List NV} (hu : u.ok) (hs : allS cfP u) (ha : a = bT u) {i : Nat} (hi : i < a.length) : a[i].op ≠ 1 ∧ a[i].op ≠ 6 ∧ a[i].op ≠ 7 ∧ a[i].op ≠ 8 ∧ a[i].op ≠ 10 := by
  have hne : bT u ≠ [] := fun e => by rw [ha, e] at hi; exact absurd hi (Nat.not_lt_zero _)
  rw [bT_eq_can hne] at ha
  subst ha
  have hp := hs.sub _ (canAt_mem hu hi)
  rw [cfP, treeAt_op hi (canT_nodes hu)] at hp
  exact hp
/-- what a walk from the parts up gives, in two cases -/
theorem UpP.cases0 {r : Rul} (hr : RulOk r) {f o : List NV} {e : Int} (h : UpP r f o e) (h0 : chkF f = 0) : (e = 8 ∧ o = []) ∨ (e = 0 ∧ o = bT (upT r (topT f)) ∧ Cf o (upT r (topT f))) := by
  rcases h with h | ⟨_, _, rfl, rfl⟩ | ⟨_, h1, rfl, rfl⟩
  · exact absurd h0 h.1
  · exact .inl ⟨rfl, rfl⟩
  · exact .inr ⟨rfl, rfl, rfl, h1 _ (mem_subT _), upT_ok hr (chkF_zero.1 h0).top⟩
theorem NnfP.cases0 {f o : List NV} {e : Int} (h : NnfP f o e) (h0 : chkF f = 0) : o = bT (nnT (topT f)).1 ∧ ((e = 8 ∧ o = []) ∨ (e = 0 ∧ Cf o (nnT (topT f)).1)) := by
  rcases h with h | ⟨_, h1, rfl⟩
  · exact absurd h0 h.1
  · refine ⟨h1, ?_⟩
    by_cases h2 : o = []
    · exact .inl ⟨if_pos h2, h2⟩
    · exact .inr ⟨if_neg h2, h1, h2, (nnT_ok (chkF_zero.1 h0).top).1⟩
theorem UpP.sim0 {f o : List NV} {e : Int} (h : UpP simT f o e) (h0 : chkF f = 0) : e = 0 ∧ Cf o (upT simT (topT f)) := by
  rcases h.small simT_ok sim_small KC.nil (by have := (chkF_zero.1 h0).len; simp; omega) with h | ⟨_, _, _, _, h3, h4, h5⟩
  · exact absurd h0 h.1
  · exact ⟨h5, h3.symm, h4, upT_ok simT_ok (chkF_zero.1 h0).top⟩
end Go.Proofs.Wit
