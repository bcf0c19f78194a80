/- Laws of a calculus of walks, proved for any program: no condition beyond those that each theorem states. -/
import Derived.Test.YtoiafcoaeomnlaaDoorWlaw2
namespace Go.Proofs.Wit
open Go Go.RowKit
/-! paths, step by step -/
/-- k steps lead from w to v -/
def Stp (r : List W64) : Nat → Nat → Nat → Prop
  | 0, w, v => w = v
  | k + 1, w, v => ∃ x, Rl r w x ∧ Stp r k x v
theorem near_stp {r : List W64} {t : W64} (hv : Val r) : ∀ {k w : Nat}, (near r t k).getLsbD w = true ↔ ∃ v, Stp r k w v ∧ t.getLsbD v = true
  | 0, w => ⟨fun h => ⟨w, rfl, h⟩, fun ⟨v, e, h⟩ => by cases e; exact h⟩
  | k + 1, w => by
    rw [near_bit hv]
    constructor
    · rintro ⟨x, h1, h2⟩
      obtain ⟨v, h3, h4⟩ := (near_stp hv).1 h2
      exact ⟨v, ⟨x, h1, h3⟩, h4⟩
    · rintro ⟨v, ⟨x, h1, h3⟩, h4⟩
      exact ⟨x, h1, (near_stp hv).2 ⟨v, h3, h4⟩⟩
theorem Stp.snoc {r : List W64} : ∀ {k w v x : Nat}, Stp r k w v → Rl r v x → Stp r (k + 1) w x
  | 0, _, _, x, e, h => by cases e; exact ⟨x, h, rfl⟩
  | k + 1, _, _, _, ⟨y, h1, h2⟩, h => ⟨y, h1, h2.snoc h⟩
theorem Stp.last {r : List W64} : ∀ {k w v : Nat}, Stp r (k + 1) w v → ∃ x, Stp r k w x ∧ Rl r x v
  | 0, w, v, ⟨x, h1, e⟩ => by cases e; exact ⟨w, rfl, h1⟩
  | k + 1, w, v, ⟨y, h1, h2⟩ => by
    obtain ⟨x, h3, h4⟩ := h2.last
    exact ⟨x, ⟨y, h1, h3⟩, h4⟩
/-- the points that k + 1 steps, for some k, lead to from s -/
theorem reach_stp {r : List W64} {s o : W64} (hr : Val r) (hb : mapR r s &&& ~~~o = 0#64) (hs : mapR r o &&& ~~~o = 0#64)
    (hm : ∀ c, mapR r s &&& ~~~c = 0#64 → mapR r c &&& ~~~c = 0#64 → o &&& ~~~c = 0#64) {i : Nat} :
    o.getLsbD i = true ↔ ∃ k w, s.getLsbD w = true ∧ Stp r (k + 1) w i := by
  constructor
  · intro h
    have hlt : ∀ {k w v : Nat}, Stp r (k + 1) w v → v < 64 := by
      intro k w v h
      obtain ⟨x, _, h2⟩ := h.last
      exact Nat.lt_of_lt_of_le (hr.lt _ _ h2) hr.len
    let p : Nat → Bool := fun v => @decide (∃ k w, s.getLsbD w = true ∧ Stp r (k + 1) w v) (Classical.propDecidable _)
    have hp : ∀ v, p v = true ↔ ∃ k w, s.getLsbD w = true ∧ Stp r (k + 1) w v := fun v => @decide_eq_true_iff _ (Classical.propDecidable _)
    have hc : ∀ v, (upTo (fun w (out : W64) => if p w = true then out ||| 1#64 <<< w else out) 0#64 64).getLsbD v = true ↔ v < 64 ∧ p v = true := by
      intro v
      exact upTo_ones (Nat.le_refl 64)
    generalize upTo (fun w (out : W64) => if p w = true then out ||| 1#64 <<< w else out) 0#64 64 = c at hc
    refine (hp i).1 ((hc i).1 (andNot_zero.1 (hm c (andNot_zero.2 (fun v hv => ?_)) (andNot_zero.2 (fun v hv => ?_))) i h)).2
    · obtain ⟨w, h1, h2⟩ := mapR_bit.1 hv
      have h3 : Stp r (0 + 1) w v := ⟨v, h2, rfl⟩
      exact (hc v).2 ⟨hlt h3, (hp v).2 ⟨0, w, h1, h3⟩⟩
    · obtain ⟨x, h1, h2⟩ := mapR_bit.1 hv
      obtain ⟨k, w, h3, h4⟩ := (hp x).1 ((hc x).1 h1).2
      have h5 := h4.snoc h2
      exact (hc v).2 ⟨hlt h5, (hp v).2 ⟨k + 1, w, h3, h5⟩⟩
  · rintro ⟨k, w, h1, h2⟩
    induction k generalizing i with
    | zero =>
      obtain ⟨x, e, h3⟩ := h2.last
      cases e
      exact andNot_zero.1 hb i (mapR_bit.2 ⟨w, h1, h3⟩)
    | succ k ih =>
      obtain ⟨x, h3, h4⟩ := h2.last
      exact andNot_zero.1 hs i (mapR_bit.2 ⟨x, ih h3, h4⟩)
/-- p leads along pairs of r, begins in f and ends in t -/
structure PathOk (r : List W64) (f t : W64) (p : List Nat) : Prop where
  lt : ∀ i, i < p.length → p.getD i 0 < r.length
  step : ∀ i, i + 1 < p.length → Rl r (p.getD i 0) (p.getD (i + 1) 0)
  first : 0 < p.length → f.getLsbD (p.getD 0 0) = true
  last : 0 < p.length → t.getLsbD (p.getD (p.length - 1) 0) = true
theorem tailP_length {r : List W64} {t : W64} : ∀ {c w : Nat}, (tailP r t c w).length = c
  | 0, _ => rfl
  | c + 1, w => by rw [tailP, List.length_cons, tailP_length]
theorem tail_ok {r : List W64} {t : W64} (hv : Val r) (ht : ∀ v, t.getLsbD v = true → v < r.length) : ∀ {c w : Nat} {f : W64}, AtL r t c w → f.getLsbD w = true →
    PathOk r f t (w :: tailP r t c w)
  | 0, w, f, h, hf => ⟨fun i hi => by
      have : i = 0 := by simp [tailP] at hi; exact hi
      subst this; exact ht _ h.1, fun i hi => by simp [tailP] at hi, fun _ => hf, fun _ => h.1⟩
  | c + 1, w, f, h, hf => by
    obtain ⟨_, h2, h3⟩ := h.next hv
    have ih := tail_ok hv ht (f := r.getD w 0#64) h2 (show _ = true from h3)
    rw [tailP]
    refine ⟨fun i hi => ?_, fun i hi => ?_, fun _ => hf, fun _ => ?_⟩
    · cases i with
      | zero => exact h3.dom
      | succ i => exact ih.lt i (by simpa using hi)
    · cases i with
      | zero => exact h3
      | succ i => exact ih.step i (by simpa using hi)
    · have := ih.last (by simp)
      simpa using this
theorem bNeBV {P : Program} {t : TypeId} {v b c : Bool} (hu : P.underlying t = some .bool) (e : (b != c) = v) : Bin P .neq t (.bool b) (.bool c) (.bool v) := e ▸ bNeB hu
theorem bGeV {P : Program} {t : TypeId} {a b : Int} {v : Bool} {k : IntKind} (e : decide (a ≥ b) = v) : Bin P .geq t (.int k a) (.int k b) (.bool v) := e ▸ bGe
theorem bit_shr {x : W64} {i : Nat} (h : x.getLsbD i = true) : (x >>> i &&& 1#64) = 1#64 := by
  refine eq_of_bits (fun j hj => ?_)
  rw [BitVec.getLsbD_and, BitVec.getLsbD_ushiftRight]
  cases j with
  | zero => rw [Nat.add_zero, h]; rfl
  | succ j => simp
end Go.Proofs.Wit
