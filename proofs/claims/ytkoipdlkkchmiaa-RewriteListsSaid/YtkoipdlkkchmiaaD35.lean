/- Laws of walks, for any program, under the conditions that each theorem states. -/
import Derived.Test.YtkoipdlkkchmiaaD33
namespace Go.Proofs.Wit
open Go Go.RowKit
/-! lists of subformulas: those that are not propositional, closures -/
def moF (l : List Tr) : List Tr := l.filter (fun u => decide (8 < topO u))
theorem moF_in {l : List Tr} {u : Tr} (h : 8 < topO u) : moF (l ++ [u]) = moF l ++ [u] := by
  simp [moF, h]
theorem moF_out {l : List Tr} {u : Tr} (h : ¬ 8 < topO u) : moF (l ++ [u]) = moF l := by
  simp [moF, h]
theorem ClIs.snoc {t : TypeId} {H : Hl} {gs : List FV} {ts : List Tr} (h : ClIs t H gs ts) {x : FV} {u : Tr} (hx : Cf x.f u) (hi : x.In t H) : ClIs t H (gs ++ [x]) (ts ++ [u]) := by
  refine ⟨by rw [List.map_append, List.map_append, h.eq, List.map_singleton, List.map_singleton, hx.eq], fun v hv => ?_, fun g hg => ?_⟩
  · rcases List.mem_append.1 hv with hv | hv
    · exact h.cf v hv
    · rw [List.mem_singleton.1 hv]; exact ⟨hx.ok, hx.neB⟩
  · rcases List.mem_append.1 hg with hg | hg
    · exact h.in_ g hg
    · rw [List.mem_singleton.1 hg]; exact hi
theorem FV.In.blk {t : TypeId} {H : Hl} {x : FV} (h : x.In t H) (hp : 0 < x.f.length) : ∃ b, x.a = some ⟨b, 0, none⟩ := by
  obtain ⟨q, sp, h1, h2, h3, _⟩ := h
  cases q with
  | none => have := (h3 rfl).1; omega
  | some b => exact ⟨b, h2⟩
theorem clF_len (us l : List Tr) : (clF us l).length ≤ l.length + 2 * us.length := by
  induction us generalizing l with
  | nil => simp [clF]
  | cons v us ih =>
    rw [clF, List.foldl_cons]
    have h2 := ih (addU (addU l v) (negT v))
    have ha : ∀ (l : List Tr) (t : Tr), (addU l t).length ≤ l.length + 1 := fun l t => by unfold addU; split <;> simp
    have h3 := ha (addU l v) (negT v)
    have h4 := ha l v
    unfold clF at h2
    rw [List.length_cons]; omega
theorem subT_len2 {f : List NV} (h : chkF f = 0) : (subT (topT f)).length ≤ 200 := by
  have := (compF_ok h).len
  rw [compF_eq h, canT_len] at this; exact this
theorem MoP.len {f : List NV} {gs : List (List NV)} {e : Int} (h : MoP f gs e) : gs.length ≤ 400 ∧ ∀ g ∈ gs, g.length ≤ 200 := by
  rcases h with ⟨_, rfl, _⟩ | ⟨h0, rfl, _⟩
  · exact ⟨by simp, fun g hg => by cases hg⟩
  · refine ⟨?_, fun g hg => ?_⟩
    · rw [List.length_map]
      have := List.length_filter_le (fun u => decide (8 < topO u)) (subT (topT f))
      have := subT_len2 h0
      omega
    · obtain ⟨u, _, rfl⟩ := List.mem_map.1 hg; exact bT_le u
theorem ClP.len {f : List NV} {gs : List (List NV)} {e : Int} (h : ClP f gs e) : gs.length ≤ 400 ∧ ∀ g ∈ gs, g.length ≤ 200 := by
  rcases h with ⟨_, rfl, _⟩ | ⟨_, _, rfl, _⟩ | ⟨h0, _, rfl, _⟩
  · exact ⟨by simp, fun g hg => by cases hg⟩
  · exact ⟨by simp, fun g hg => by cases hg⟩
  · refine ⟨?_, fun g hg => ?_⟩
    · rw [List.length_map]
      have := clF_len (subT (topT f)) []
      have := subT_len2 h0
      simp only [List.length_nil] at *
      unfold clos; omega
    · obtain ⟨u, _, rfl⟩ := List.mem_map.1 hg; exact bT_le u
end Go.Proofs.Wit
