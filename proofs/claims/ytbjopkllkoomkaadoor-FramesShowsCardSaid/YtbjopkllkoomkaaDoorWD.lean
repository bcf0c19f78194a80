/- Laws of a calculus of walks, proved for any program: no condition beyond those that each theorem states. -/
import Derived.Test.YtbjopkllkoomkaaDoorWB
import Derived.Test.YtbjopkllkoomkaaDoorWC
namespace Go.Proofs.Wit
open Go Go.RowKit
/-! paths, step by step -/
/-- k steps lead from w to v -/
def Stp (r : List W64) : Nat → Nat → Nat → Prop
  | 0, w, v => w = v
  | k + 1, w, v => ∃ x, Rl r w x ∧ Stp r k x v
theorem near_stp {r : List W64} {t : W64} (hv : Val r) : ∀ {k w : Nat}, (near r t k).getLsbD w = true ↔ ∃ v, Stp r k w v ∧ t.getLsbD v = true
  | 0, w => ⟨fun h => ⟨w, rfl, h⟩, fun ⟨v, e, h⟩ => by cases e; exact h⟩
  | k + 1, w => by
    rw [near_bit hv]
    constructor
    · rintro ⟨x, h1, h2⟩
      obtain ⟨v, h3, h4⟩ := (near_stp hv).1 h2
      exact ⟨v, ⟨x, h1, h3⟩, h4⟩
    · rintro ⟨v, ⟨x, h1, h3⟩, h4⟩
      exact ⟨x, h1, (near_stp hv).2 ⟨v, h3, h4⟩⟩
theorem Stp.snoc {r : List W64} : ∀ {k w v x : Nat}, Stp r k w v → Rl r v x → Stp r (k + 1) w x
  | 0, _, _, x, e, h => by cases e; exact ⟨x, h, rfl⟩
  | k + 1, _, _, _, ⟨y, h1, h2⟩, h => ⟨y, h1, h2.snoc h⟩
theorem Stp.last {r : List W64} : ∀ {k w v : Nat}, Stp r (k + 1) w v → ∃ x, Stp r k w x ∧ Rl r x v
  | 0, w, v, ⟨x, h1, e⟩ => by cases e; exact ⟨w, rfl, h1⟩
  | k + 1, w, v, ⟨y, h1, h2⟩ => by
    obtain ⟨x, h3, h4⟩ := h2.last
    exact ⟨x, ⟨y, h1, h3⟩, h4⟩
/-- the points that k + 1 steps, for some k, lead to from s -/
theorem reach_stp {r : List W64} {s o : W64} (hr : Val r) (hb : mapR r s &&& ~~~o = 0#64) (hs : mapR r o &&& ~~~o = 0#64)
    (hm : ∀ c, mapR r s &&& ~~~c = 0#64 → mapR r c &&& ~~~c = 0#64 → o &&& ~~~c = 0#64) {i : Nat} :
    o.getLsbD i = true ↔ ∃ k w, s.getLsbD w = true ∧ Stp r (k + 1) w i := by
  constructor
  · intro h
    have hlt : ∀ {k w v : Nat}, Stp r (k + 1) w v → v < 64 := by
      intro k w v h
      obtain ⟨x, _, h2⟩ := h.last
      exact Nat.lt_of_lt_of_le (hr.lt _ _ h2) hr.len
    let p : Nat → Bool := fun v => @decide (∃ k w, s.getLsbD w = true ∧ Stp r (k + 1) w v) (Classical.propDecidable _)
    have hp : ∀ v, p v = true ↔ ∃ k w, s.getLsbD w = true ∧ Stp r (k + 1) w v := fun v => @decide_eq_true_iff _ (Classical.propDecidable _)
    have hc : ∀ v, (upTo (fun w (out : W64) => if p w = true then out ||| 1#64 <<< w else out) 0#64 64).getLsbD v = true ↔ v < 64 ∧ p v = true := by
      intro v
      exact upTo_ones (Nat.le_refl 64)
    generalize upTo (fun w (out : W64) => if p w = true then out ||| 1#64 <<< w else out) 0#64 64 = c at hc
    refine (hp i).1 ((hc i).1 (andNot_zero.1 (hm c (andNot_zero.2 (fun v hv => ?_)) (andNot_zero.2 (fun v hv => ?_))) i h)).2
    · obtain ⟨w, h1, h2⟩ := mapR_bit.1 hv
      have h3 : Stp r (0 + 1) w v := ⟨v, h2, rfl⟩
      exact (hc v).2 ⟨hlt h3, (hp v).2 ⟨0, w, h1, h3⟩⟩
    · obtain ⟨x, h1, h2⟩ := mapR_bit.1 hv
      obtain ⟨k, w, h3, h4⟩ := (hp x).1 ((hc x).1 h1).2
      have h5 := h4.snoc h2
      exact (hc v).2 ⟨hlt h5, (hp v).2 ⟨k + 1, w, h3, h5⟩⟩
  · rintro ⟨k, w, h1, h2⟩
    induction k generalizing i with
    | zero =>
      obtain ⟨x, e, h3⟩ := h2.last
      cases e
      exact andNot_zero.1 hb i (mapR_bit.2 ⟨w, h1, h3⟩)
    | succ k ih =>
      obtain ⟨x, h3, h4⟩ := h2.last
      exact andNot_zero.1 hs i (mapR_bit.2 ⟨x, ih h3, h4⟩)
/-- p leads along pairs of r, begins in f and ends in t -/
structure PathOk (r : List W64) (f t : W64) (p : List Nat) : Prop where
  lt : ∀ i, i < p.length → p.getD i 0 < r.length
  step : ∀ i, i + 1 < p.length → Rl r (p.getD i 0) (p.getD (i + 1) 0)
  first : 0 < p.length → f.getLsbD (p.getD 0 0) = true
  last : 0 < p.length → t.getLsbD (p.getD (p.length - 1) 0) = true
theorem tailP_length {r : List W64} {t : W64} : ∀ {c w : Nat}, (tailP r t c w).length = c
  | 0, _ => rfl
  | c + 1, w => by rw [tailP, List.length_cons, tailP_length]
theorem tail_ok {r : List W64} {t : W64} (hv : Val r) (ht : ∀ v, t.getLsbD v = true → v < r.length) : ∀ {c w : Nat} {f : W64}, AtL r t c w → f.getLsbD w = true →
    PathOk r f t (w :: tailP r t c w)
  | 0, w, f, h, hf => ⟨fun i hi => by
      have : i = 0 := by simp [tailP] at hi; exact hi
      subst this; exact ht _ h.1, fun i hi => by simp [tailP] at hi, fun _ => hf, fun _ => h.1⟩
  | c + 1, w, f, h, hf => by
    obtain ⟨_, h2, h3⟩ := h.next hv
    have ih := tail_ok hv ht (f := r.getD w 0#64) h2 (show _ = true from h3)
    rw [tailP]
    refine ⟨fun i hi => ?_, fun i hi => ?_, fun _ => hf, fun _ => ?_⟩
    · cases i with
      | zero => exact h3.dom
      | succ i => exact ih.lt i (by simpa using hi)
    · cases i with
      | zero => exact h3
      | succ i => exact ih.step i (by simpa using hi)
    · have := ih.last (by simp)
      simpa using this
theorem bNeBV {P : Program} {t : TypeId} {v b c : Bool} (hu : P.underlying t = some .bool) (e : (b != c) = v) : Bin P .neq t (.bool b) (.bool c) (.bool v) := e ▸ bNeB hu
theorem bGeV {P : Program} {t : TypeId} {a b : Int} {v : Bool} {k : IntKind} (e : decide (a ≥ b) = v) : Bin P .geq t (.int k a) (.int k b) (.bool v) := e ▸ bGe
theorem bit_shr {x : W64} {i : Nat} (h : x.getLsbD i = true) : (x >>> i &&& 1#64) = 1#64 := by
  refine eq_of_bits (fun j hj => ?_)
  rw [BitVec.getLsbD_and, BitVec.getLsbD_ushiftRight]
  cases j with
  | zero => rw [Nat.add_zero, h]; rfl
  | succ j => simp
end Go.Proofs.Wit
namespace Go.Proofs.Wit
open Go Go.RowKit
/-! axioms of properties, plainly -/
/-- the worlds in which the axiom of a property is true for a set -/
def holdsU (r : List W64) (p : Int) (s : W64) : W64 :=
  if p = 1 then allW r.length &&& ~~~ (boxU r s r.length) ||| diaU r s r.length
  else if p = 2 then allW r.length &&& ~~~ (boxU r s r.length) ||| s
  else if p = 3 then allW r.length &&& ~~~ s ||| boxU r (diaU r s r.length) r.length
  else if p = 4 then allW r.length &&& ~~~ (boxU r s r.length) ||| boxU r (boxU r s r.length) r.length
  else allW r.length &&& ~~~ (diaU r s r.length) ||| boxU r (diaU r s r.length) r.length
/-- the same, of one world and a set of worlds -/
def holdsP (r : List W64) (p : Int) (s : Nat → Prop) (w : Nat) : Prop :=
  if p = 1 then (∀ u, Rl r w u → s u) → ∃ u, Rl r w u ∧ s u
  else if p = 2 then (∀ u, Rl r w u → s u) → s w
  else if p = 3 then s w → ∀ u, Rl r w u → ∃ v, Rl r u v ∧ s v
  else if p = 4 then (∀ u, Rl r w u → s u) → ∀ u, Rl r w u → ∀ v, Rl r u v → s v
  else (∃ u, Rl r w u ∧ s u) → ∀ u, Rl r w u → ∃ v, Rl r u v ∧ s v
theorem andNot_all {n : Nat} (hn : n ≤ 64) {x : W64} {w : Nat} (hw : w < n) : (allW n &&& ~~~x).getLsbD w = !x.getLsbD w := by
  rw [BitVec.getLsbD_and, BitVec.getLsbD_not, allW_bit hn (by omega), decide_eq_true hw]
  simp [show w < 64 by omega]
theorem holds_bit {r : List W64} (hv : Val r) {p : Int} {s : W64} {w : Nat} (hw : w < r.length) : (holdsU r p s).getLsbD w = true ↔ holdsP r p (fun u => s.getLsbD u = true) w := by
  have hn := hv.len
  have hb : ∀ {x : W64}, (boxU r x r.length).getLsbD w = true ↔ ∀ u, Rl r w u → x.getLsbD u = true := fun {x} => by
    rw [boxU_bit hv]; exact ⟨fun h => h.2, fun h => ⟨hw, h⟩⟩
  have hb2 : ∀ {x : W64} {u : Nat}, Rl r w u → ((boxU r x r.length).getLsbD u = true ↔ ∀ v, Rl r u v → x.getLsbD v = true) := fun {x u} h => by
    rw [boxU_bit hv]; exact ⟨fun h => h.2, fun h2 => ⟨hv.lt _ _ h, h2⟩⟩
  have key : ∀ {a b : W64}, (allW r.length &&& ~~~a ||| b).getLsbD w = true ↔ (a.getLsbD w = true → b.getLsbD w = true) := fun {a b} => by
    rw [BitVec.getLsbD_or, andNot_all hn hw]
    cases a.getLsbD w <;> simp
  unfold holdsU holdsP
  split
  · rw [key, hb, diaU_bit hv]
  split
  · rw [key, hb]
  split
  · rw [key, hb]; simp only [diaU_bit hv]
  split
  · rw [key, hb, hb]
    exact imp_congr_right (fun _ => forall_congr' (fun u => ⟨fun h h1 => (hb2 h1).1 (h h1), fun h h1 => (hb2 h1).2 (h h1)⟩))
  · rw [key, hb, diaU_bit hv]; simp only [diaU_bit hv]
theorem holds_out {r : List W64} (hv : Val r) {p : Int} {s : W64} (hs : ∀ u, s.getLsbD u = true → u < r.length) {w : Nat} (hw : ¬ w < r.length) : (holdsU r p s).getLsbD w = false := by
  have hb : ∀ {x : W64}, (boxU r x r.length).getLsbD w = false := fun {x} => by
    rw [← Bool.not_eq_true, boxU_bit hv]; exact fun h => hw h.1
  have hd : ∀ {x : W64}, (diaU r x r.length).getLsbD w = false := fun {x} => by
    rw [← Bool.not_eq_true, diaU_bit hv]; rintro ⟨u, h, _⟩; exact hw h.dom
  have hS : s.getLsbD w = false := by rw [← Bool.not_eq_true]; exact fun h => hw (hs w h)
  have ha : ∀ {x : W64}, (allW r.length &&& ~~~x).getLsbD w = false := fun {x} => by
    rw [BitVec.getLsbD_and]
    rcases Nat.lt_or_ge w 64 with h | h
    · rw [allW_bit hv.len h, decide_eq_false hw]; rfl
    · rw [BitVec.getLsbD_of_ge _ _ h]; rfl
  unfold holdsU
  repeat' split
  all_goals rw [BitVec.getLsbD_or, ha]
  · rw [hd]; rfl
  · rw [hS]; rfl
  · rw [hb]; rfl
  · rw [hb]; rfl
  · rw [hb]; rfl
/-- a set is a word -/
theorem wordOf (n : Nat) (hn : n ≤ 64) (p : Nat → Prop) : ∃ s : W64, (∀ v, s.getLsbD v = true ↔ v < n ∧ p v) := by
  refine ⟨upTo (fun w (out : W64) => if (@decide (p w) (Classical.propDecidable _)) = true then out ||| 1#64 <<< w else out) 0#64 n, fun v => ?_⟩
  rw [upTo_ones hn]
  exact and_congr_right (fun _ => @decide_eq_true_iff _ (Classical.propDecidable _))
/-- **correspondence**: a valid relation has a property exactly if its axiom is true in all worlds for all sets -/
theorem correspond {r : List W64} (hv : Val r) {p : Int} (hp : 1 ≤ p ∧ p ≤ 5) : PropR p r ↔ ∀ s : W64, (∀ u, s.getLsbD u = true → u < r.length) → holdsU r p s = allW r.length := by
  have hn := hv.len
  have e1 : (∀ s : W64, (∀ u, s.getLsbD u = true → u < r.length) → holdsU r p s = allW r.length) ↔ ∀ s : Nat → Prop, ∀ w, w < r.length → holdsP r p s w := by
    constructor
    · intro h s w hw
      obtain ⟨x, hx⟩ := wordOf r.length hn s
      have h1 := h x (fun u hu => ((hx u).1 hu).1)
      have h2 : (holdsU r p x).getLsbD w = true := by rw [h1, allW_bit hn (by omega)]; exact decide_eq_true hw
      rw [holds_bit hv hw] at h2
      have e : ∀ u, u < r.length → (x.getLsbD u = true ↔ s u) := fun u hu => by rw [hx]; exact ⟨fun h => h.2, fun h => ⟨hu, h⟩⟩
      unfold holdsP at h2 ⊢
      have e2 : ∀ {a u}, Rl r a u → (x.getLsbD u = true ↔ s u) := fun {a u} h => e u (hv.lt _ _ h)
      split
      · rename_i hp; rw [if_pos hp] at h2
        intro h3
        obtain ⟨u, h4, h5⟩ := h2 (fun u hu => (e2 hu).2 (h3 u hu))
        exact ⟨u, h4, (e2 h4).1 h5⟩
      rename_i hp1; rw [if_neg hp1] at h2
      split
      · rename_i hp; rw [if_pos hp] at h2
        exact fun h3 => (e w hw).1 (h2 (fun u hu => (e2 hu).2 (h3 u hu)))
      rename_i hp2; rw [if_neg hp2] at h2
      split
      · rename_i hp; rw [if_pos hp] at h2
        intro h3 u hu
        obtain ⟨v, h4, h5⟩ := h2 ((e w hw).2 h3) u hu
        exact ⟨v, h4, (e2 h4).1 h5⟩
      rename_i hp3; rw [if_neg hp3] at h2
      split
      · rename_i hp; rw [if_pos hp] at h2
        exact fun h3 u hu v hv' => (e2 hv').1 (h2 (fun u hu => (e2 hu).2 (h3 u hu)) u hu v hv')
      rename_i hp4; rw [if_neg hp4] at h2
      rintro ⟨u0, h3, h3'⟩ u hu
      obtain ⟨v, h4, h5⟩ := h2 ⟨u0, h3, (e2 h3).2 h3'⟩ u hu
      exact ⟨v, h4, (e2 h4).1 h5⟩
    · intro h s hs
      refine eq_of_bits (fun w hw => ?_)
      rw [allW_bit hn hw]
      by_cases hwl : w < r.length
      · rw [decide_eq_true hwl, holds_bit hv hwl]; exact h _ w hwl
      · rw [decide_eq_false hwl, holds_out hv hs hwl]
  rw [e1]
  have h5 : p = 1 ∨ p = 2 ∨ p = 3 ∨ p = 4 ∨ p = 5 := by omega
  rcases h5 with rfl | rfl | rfl | rfl | rfl
  · show serR r ↔ ∀ (s : Nat → Prop) (w : Nat), w < r.length → ((∀ u, Rl r w u → s u) → ∃ u, Rl r w u ∧ s u)
    constructor
    · intro h s w hw h2
      have hne : r.getD w 0#64 ≠ 0#64 := fun e => h (by
        rw [← e, List.getD_eq_getElem?_getD, List.getElem?_eq_getElem hw]; exact List.getElem_mem hw)
      obtain ⟨i, hi⟩ := ne_zero_iff.1 hne
      exact ⟨i, hi, h2 i hi⟩
    · intro h hm
      obtain ⟨i, hi, e⟩ := List.mem_iff_getElem.1 hm
      obtain ⟨u, h1, _⟩ := h (fun _ => True) i hi (fun _ _ => trivial)
      rw [Rl.toBit, List.getD_eq_getElem?_getD, List.getElem?_eq_getElem hi, Option.getD_some, e] at h1
      simp at h1
  · show reflR r ↔ ∀ (s : Nat → Prop) (w : Nat), w < r.length → ((∀ u, Rl r w u → s u) → s w)
    exact ⟨fun h s w hw h2 => h2 w (h w hw), fun h w hw => h (fun u => Rl r w u) w hw (fun _ h => h)⟩
  · show symmR r ↔ ∀ (s : Nat → Prop) (w : Nat), w < r.length → (s w → ∀ u, Rl r w u → ∃ v, Rl r u v ∧ s v)
    exact ⟨fun h s w _ h2 u hu => ⟨w, h _ _ hu, h2⟩, fun h u v huv => by
      obtain ⟨x, h1, rfl⟩ := h (fun x => x = u) u huv.dom rfl v huv
      exact h1⟩
  · show tranR r ↔ ∀ (s : Nat → Prop) (w : Nat), w < r.length → ((∀ u, Rl r w u → s u) → ∀ u, Rl r w u → ∀ v, Rl r u v → s v)
    exact ⟨fun h s w _ h2 u hu v huv => h2 v (h _ _ _ hu huv), fun h u v x h1 h2 => h (fun y => Rl r u y) u h1.dom (fun _ h => h) v h1 x h2⟩
  · show euclR r ↔ ∀ (s : Nat → Prop) (w : Nat), w < r.length → ((∃ u, Rl r w u ∧ s u) → ∀ u, Rl r w u → ∃ v, Rl r u v ∧ s v)
    exact ⟨fun h s w _ ⟨u0, h2, h3⟩ u hu => ⟨u0, h _ _ _ hu h2, h3⟩, fun h u v x h1 h2 => by
      obtain ⟨y, h3, rfl⟩ := h (fun y => y = x) u h1.dom ⟨x, h2, rfl⟩ v h1
      exact h3⟩
/-- a witness refutes the property, and is there if the property fails -/
theorem witO_prop {r : List W64} (hv : Val r) {p : Int} (hp : 1 ≤ p ∧ p ≤ 5) : witO r p = none ↔ PropR p r := by
  have hc := cnt_pos.2 hp
  have hB : ∀ {a b : Nat}, bitR r a b = true ↔ Rl r a b := Iff.rfl
  have h5 : p = 1 ∨ p = 2 ∨ p = 3 ∨ p = 4 ∨ p = 5 := by omega
  constructor
  · intro h
    have hn := witO_none h hc
    have hl : ∀ {a b : Nat}, Rl r a b → a < r.length ∧ b < r.length := fun h => ⟨h.dom, hv.lt _ _ h⟩
    rcases h5 with rfl | rfl | rfl | rfl | rfl
    · intro hm
      obtain ⟨i, hi, e⟩ := List.mem_iff_getElem.1 hm
      have := hn i 0 0 hi (by omega) (by omega) (fun _ => rfl) (fun _ => rfl)
      simp [showsB, List.getD_eq_getElem?_getD, hi, e] at this
    · intro w hw
      have := hn w 0 0 hw (by omega) (by omega) (fun _ => rfl) (fun _ => rfl)
      simpa [showsB, hB] using this
    · intro u v huv
      have := hn u v 0 (hl huv).1 (hl huv).2 (by have := (hl huv).1; omega) (fun h => absurd h (by decide)) (fun _ => rfl)
      simp [showsB, hB.2 huv] at this
      exact hB.1 this
    · intro u v x h1 h2
      have := hn u v x (hl h1).1 (hl h1).2 (hl h2).2 (fun h => absurd h (by decide)) (fun h => absurd h (by decide))
      simp [showsB, hB.2 h1, hB.2 h2] at this
      exact hB.1 this
    · intro u v x h1 h2
      have := hn u v x (hl h1).1 (hl h1).2 (hl h2).2 (fun h => absurd h (by decide)) (fun h => absurd h (by decide))
      simp [showsB, hB.2 h1, hB.2 h2] at this
      exact hB.1 this
  · intro h
    cases hw : witO r p with
    | none => rfl
    | some y =>
      exfalso
      obtain ⟨x, u, v⟩ := y
      obtain ⟨h1, _, _, h2, _⟩ := witO_some hw
      rcases h5 with rfl | rfl | rfl | rfl | rfl
      · have h : serR r := h
        have e : r.getD x 0#64 = 0#64 := by simpa [showsB] using h2
        exact h (by rw [← e, List.getD_eq_getElem?_getD, List.getElem?_eq_getElem h1]; exact List.getElem_mem h1)
      · have h : reflR r := h
        simp [showsB, hB.2 (h x h1)] at h2
      · have h : symmR r := h
        simp [showsB] at h2
        have := hB.2 (h _ _ (hB.1 h2.1))
        rw [this] at h2; simp at h2
      · have h : tranR r := h
        simp [showsB] at h2
        have := hB.2 (h _ _ _ (hB.1 h2.1.1) (hB.1 h2.1.2))
        rw [this] at h2; simp at h2
      · have h : euclR r := h
        simp [showsB] at h2
        have := hB.2 (h _ _ _ (hB.1 h2.1.1) (hB.1 h2.1.2))
        rw [this] at h2; simp at h2
end Go.Proofs.Wit
namespace Go.Proofs.Wit
open Go Go.RowKit
theorem bit_shr0 {x : W64} {i : Nat} (h : x.getLsbD i = false) : (x >>> i &&& 1#64) = 0#64 := by
  refine eq_of_bits (fun j hj => ?_)
  rw [BitVec.getLsbD_and, BitVec.getLsbD_ushiftRight]
  cases j with
  | zero => rw [Nat.add_zero, h]; simp
  | succ j => simp
section
variable {r : List W64} {p : Int} {x u v : Nat}
theorem counter_some (h1 : checkR r.length r = 0) (hp : 1 ≤ p ∧ p ≤ 5) (hO : witO r p = some (x, u, v)) : (counterR r p).1 = (x : Int) ∧ (counterR r p).2.1 = (if p = 1 then 0#64 else if p = 3 then 1#64 <<< x else if p = 5 then 1#64 <<< v else r.getD x 0#64) := by
  rw [counterR, if_neg (by simp [h1]), if_neg (by omega), hO]
  simp only
  repeat' split
  all_goals exact ⟨rfl, rfl⟩
theorem counter_in (hv : Val r) (hp : 1 ≤ p ∧ p ≤ 5) (hO : witO r p = some (x, u, v)) : (counterR r p).2.1 &&& ~~~allW r.length = 0#64 := by
  obtain ⟨h1, h2, h3, _⟩ := witO_some hO
  have hn := hv.len
  rw [(counter_some (check_zero.2 hv) hp hO).2]
  refine andNot_zero.2 (fun i hi => ?_)
  rw [allW_bit hn (bit_lt hi)]
  refine decide_eq_true ?_
  split at hi
  · simp at hi
  split at hi
  · rw [shift_one_bit (by omega)] at hi; omega
  split at hi
  · rw [shift_one_bit (by omega)] at hi; omega
  · exact hv.lt x i hi
theorem counter_ref (hv : Val r) (hp : 1 ≤ p ∧ p ≤ 5) (hO : witO r p = some (x, u, v)) : (holdsU r p (counterR r p).2.1).getLsbD x = false := by
  obtain ⟨h1, h2, h3, hs, _⟩ := witO_some hO
  have hn := hv.len
  have hB : ∀ {a b : Nat}, bitR r a b = true ↔ Rl r a b := Iff.rfl
  rw [← Bool.not_eq_true, holds_bit hv h1, (counter_some (check_zero.2 hv) hp hO).2]
  have h5 : p = 1 ∨ p = 2 ∨ p = 3 ∨ p = 4 ∨ p = 5 := by omega
  rcases h5 with rfl | rfl | rfl | rfl | rfl
  · show ¬ ((∀ u, Rl r x u → _) → ∃ u, Rl r x u ∧ _)
    intro h
    have e : r.getD x 0#64 = 0#64 := by simpa [showsB] using hs
    have hno : ∀ y, ¬ Rl r x y := fun y hy => by rw [Rl.toBit, e] at hy; simp at hy
    obtain ⟨y, hy, _⟩ := h (fun y hy => absurd hy (hno y))
    exact hno y hy
  · show ¬ ((∀ u, Rl r x u → (r.getD x 0#64).getLsbD u = true) → (r.getD x 0#64).getLsbD x = true)
    intro h
    have := hB.2 (h (fun y hy => hy))
    simp [showsB, this] at hs
  · show ¬ ((1#64 <<< x).getLsbD x = true → ∀ u, Rl r x u → ∃ v, Rl r u v ∧ (1#64 <<< x).getLsbD v = true)
    intro h
    simp [showsB] at hs
    obtain ⟨y, h6, h7⟩ := h ((shift_one_bit (by omega)).2 rfl) u (hB.1 hs.1)
    rw [shift_one_bit (by omega)] at h7
    subst h7
    rw [hB.2 h6] at hs; simp at hs
  · show ¬ ((∀ u, Rl r x u → (r.getD x 0#64).getLsbD u = true) → ∀ u, Rl r x u → ∀ v, Rl r u v → (r.getD x 0#64).getLsbD v = true)
    intro h
    simp [showsB] at hs
    have := hB.2 (h (fun y hy => hy) u (hB.1 hs.1.1) v (hB.1 hs.1.2))
    rw [this] at hs; simp at hs
  · show ¬ ((∃ u, Rl r x u ∧ (1#64 <<< v).getLsbD u = true) → ∀ u, Rl r x u → ∃ y, Rl r u y ∧ (1#64 <<< v).getLsbD y = true)
    intro h
    simp [showsB] at hs
    obtain ⟨y, h6, h7⟩ := h ⟨v, hB.1 hs.1.2, (shift_one_bit (by omega)).2 rfl⟩ u (hB.1 hs.1.1)
    rw [shift_one_bit (by omega)] at h7
    subst h7
    rw [hB.2 h6] at hs; simp at hs
end
end Go.Proofs.Wit
