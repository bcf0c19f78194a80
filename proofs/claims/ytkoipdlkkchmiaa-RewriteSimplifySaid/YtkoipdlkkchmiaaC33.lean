/- Laws of walks, for any program, under the conditions that each theorem states. -/
import Derived.Test.YtkoipdlkkchmiaaC31
namespace Go.Proofs.Wit
open Go Go.RowKit
/-! the reference's rules of simplification: a list, or none -/
theorem isT_top {t : Tr} (h : t.ok) {o : Int} (ho : o = 1 ∨ o = 2) : isT t o = (topO t == o) := by
  cases t with
  | leaf op i e g => rfl
  | un op i e g a =>
    have : ¬ op = o := fun e => by
      have := h.2.1
      rw [e] at this
      rcases ho with rfl | rfl <;> exact absurd this (by decide)
    simp [isT, topO, this]
  | bin op i e g a b =>
    have : ¬ op = o := fun e => by
      have := h.2.1
      rw [e] at this
      rcases ho with rfl | rfl <;> exact absurd this (by decide)
    simp [isT, topO, this]
/-- a rule's result: what simplification gives, or no list where no rule fits -/
def RvO (t : TypeId) (w w' : World) (v : Value) (a b : FV) (u m : Tr) : Prop := (RvP t w w' v a b u ∧ bT u ≠ []) ∨ (v = .slice none 0 0 ∧ u = m)
theorem RvO.keep {t : TypeId} {w0 w w' : World} {h : Hl} {Y : List (Nat × Obj)} {v : Value} {a b : FV} {u m : Tr} (r : RvO t w w' v a b u m) (s : St w0 [] w h Y) (e : Ex [] w w') :
    ∃ p : Option Nat × Obj, St w0 [] w' (p :: h) Y ∧ ∀ w'' Y'', St w0 [] w'' (p :: h) Y'' → RvO t w0 w'' v a b u m := by
  rcases r with ⟨r, h1⟩ | ⟨h1, h2⟩
  · obtain ⟨p, h2, h3⟩ := r.keep s e
    exact ⟨p, h2, fun w'' Y'' s2 => .inl ⟨h3 w'' Y'' s2, h1⟩⟩
  · exact ⟨(none, obN t [] []), (s.later e).none _, fun _ _ _ => .inr ⟨h1, h2⟩⟩
theorem RvO.gain {t : TypeId} {w0 w w' : World} {S : List Nat} {h H : Hl} {Y : List (Nat × Obj)} {v : Value} {a b : FV} {u m : Tr} (r : RvO t w w' v a b u m) (s : St w0 S w h Y) (e : Ex [] w w') (ha : a.In t H ∨ a = FV.z) (hb : b.In t H ∨ b = FV.z) :
    ∃ (fv : FV) (p : Option Nat × Obj), v = fv.v ∧ St w0 S w' (p :: h) Y ∧ ((fv.f ≠ [] ∧ fv.f = bT u ∧ fv.In t (p :: H)) ∨ (fv.f = [] ∧ u = m)) := by
  rcases r with ⟨r, h1⟩ | ⟨h1, h2⟩
  · obtain ⟨fv, p, h2, h3, h4, h5⟩ := r.gain s e ha hb
    exact ⟨fv, p, h2, h4, .inl ⟨by rw [h3]; exact h1, h3, h5⟩⟩
  · exact ⟨FV.z, (none, obN t [] []), h1, (s.later e).none _, .inr ⟨rfl, h2⟩⟩
/-- a rule that leaves some operators to another one -/
theorem RvO.gainM {t : TypeId} {w0 w w' : World} {S : List Nat} {h H : Hl} {Y : List (Nat × Obj)} {v : Value} {a b : FV} {u m : Tr} {Q : Prop} (r : (Q ∧ v = .slice none 0 0) ∨ (¬ Q ∧ RvO t w w' v a b u m)) (s : St w0 S w h Y) (e : Ex [] w w') (ha : a.In t H ∨ a = FV.z) (hb : b.In t H ∨ b = FV.z) :
    ∃ (fv : FV) (p : Option Nat × Obj), v = fv.v ∧ St w0 S w' (p :: h) Y ∧ (¬ Q → ((fv.f ≠ [] ∧ fv.f = bT u ∧ fv.In t (p :: H)) ∨ (fv.f = [] ∧ u = m))) := by
  rcases r with ⟨h1, h2⟩ | ⟨h1, h2⟩
  · exact ⟨FV.z, (none, obN t [] []), h2, (s.later e).none _, fun hn => absurd h1 hn⟩
  · obtain ⟨fv, p, h3, h4, h5⟩ := h2.gain s e ha hb
    exact ⟨fv, p, h3, h4, fun _ => h5⟩
theorem Cf.neg {f : List NV} {t : Tr} (_h : Cf f t) (hl : (canT t).length ≤ 150) : bT (negT t) ≠ [] := bT_ne.2 (by have := neg_len (t := t); omega)
theorem Cf.neB {f : List NV} {t : Tr} (h : Cf f t) : bT t ≠ [] := by rw [← h.eq]; exact h.ne
theorem cT_ne {o : Int} (h : o = 1 ∨ o = 2) : bT (cT o) ≠ [] := by rcases h with rfl | rfl <;> decide
theorem bEqT {t : Tr} (h : t.ok) (o : Int) (ho : o = 1 ∨ o = 2) {P : Program} {ty : TypeId} : Bin P .eql ty (.int .i64 (topO t)) (.int .i64 o) (.bool (isT t o)) := by
  rw [isT_top h ho]; exact bEq
theorem bNeT {t : Tr} (h : t.ok) (o : Int) (ho : o = 1 ∨ o = 2) {P : Program} {ty : TypeId} : Bin P .neq ty (.int .i64 (topO t)) (.int .i64 o) (.bool (!isT t o)) := by
  rw [isT_top h ho]; exact bNe
end Go.Proofs.Wit
