/- Laws of a calculus of walks, proved for any program: no condition beyond those that each theorem states. -/
import Derived.Test.YtoiafcoaeomnlaaDoorWgrow
namespace Go.Proofs.Wit
open Go Go.RowKit
/-! plain facts on shortest paths -/
/-- the points from which k steps lead to a point of t -/
def near (r : List W64) (t : W64) : Nat → W64
  | 0 => t
  | k + 1 => mapR (revR r) (near r t k)
/-- the points from which d + 1 steps lead to a point of t, and not fewer; and those of the layers before -/
def seenU (r : List W64) (t : W64) : Nat → W64
  | 0 => 0#64
  | d + 1 => seenU r t d ||| (near r t (d + 1) &&& ~~~ seenU r t d)
def lay (r : List W64) (t : W64) (d : Nat) : W64 := near r t (d + 1) &&& ~~~ seenU r t d
/-- the rest of a path behind w -/
def tailP (r : List W64) (t : W64) : Nat → Nat → List Nat
  | 0, _ => []
  | c + 1, w => tz (r.getD w 0#64 &&& near r t c) :: tailP r t c (tz (r.getD w 0#64 &&& near r t c))
def pathK (r : List W64) (t f : W64) (k : Nat) : List Nat := tz (f &&& near r t k) :: tailP r t k (tz (f &&& near r t k))
structure Short (r : List W64) (f t : W64) (k : Nat) : Prop where
  one : 1 ≤ k
  ne : f &&& near r t k ≠ 0#64
  least : ∀ j, 1 ≤ j → j < k → f &&& near r t j = 0#64
/-- what Path gives -/
def PathIs (r : List W64) (f to : W64) (p : List Nat) : Prop :=
  if checkR r.length r ≠ 0 then p = [] else
    (∃ k, Short r f (to &&& allW r.length) k ∧ p = pathK r (to &&& allW r.length) f k) ∨ ((∀ k, 1 ≤ k → f &&& near r (to &&& allW r.length) k = 0#64) ∧ p = [])
theorem Short.uniq {r : List W64} {f t : W64} {j k : Nat} (h : Short r f t j) (g : Short r f t k) : j = k := by
  rcases Nat.lt_trichotomy j k with x | x | x
  · exact absurd (g.least j h.one x) h.ne
  · exact x
  · exact absurd (h.least k g.one x) g.ne
theorem PathIs.uniq {r : List W64} {f t : W64} {p q : List Nat} (h : PathIs r f t p) (g : PathIs r f t q) : p = q := by
  unfold PathIs at h g
  split at h
  · rename_i hc; rw [if_pos hc] at g; rw [h, g]
  · rename_i hc; rw [if_neg hc] at g
    rcases h with ⟨k, hk, rfl⟩ | ⟨hn, rfl⟩ <;> rcases g with ⟨j, hj, rfl⟩ | ⟨gn, rfl⟩
    · rw [hk.uniq hj]
    · exact absurd (gn k hk.one) hk.ne
    · exact absurd (hn j hj.one) hj.ne
    · rfl
section
variable {r : List W64} {t : W64}
theorem near_bit (hv : Val r) {k w : Nat} : (near r t (k + 1)).getLsbD w = true ↔ ∃ v, Rl r w v ∧ (near r t k).getLsbD v = true := by
  rw [near, mapR_bit]
  constructor
  · rintro ⟨v, h1, h2⟩
    have hd := h2.dom
    rw [revR_length] at hd
    exact ⟨v, (revR_bit hv hd).1 h2, h1⟩
  · rintro ⟨v, h1, h2⟩
    exact ⟨v, h2, (revR_bit hv (hv.lt _ _ h1)).2 h1⟩
theorem seen_bit {m w : Nat} : (seenU r t m).getLsbD w = true ↔ ∃ j, 1 ≤ j ∧ j ≤ m ∧ (near r t j).getLsbD w = true := by
  induction m with
  | zero => rw [seenU]; simp; intro j h1 h2; omega
  | succ m ih =>
    rw [seenU, BitVec.getLsbD_or, Bool.or_eq_true, ih, BitVec.getLsbD_and, BitVec.getLsbD_not, Bool.and_eq_true]
    constructor
    · rintro (⟨j, h1, h2, h3⟩ | ⟨h1, _⟩)
      · exact ⟨j, h1, by omega, h3⟩
      · exact ⟨m + 1, by omega, Nat.le_refl _, h1⟩
    · rintro ⟨j, h1, h2, h3⟩
      by_cases e : j = m + 1
      · subst e
        cases hs : (seenU r t m).getLsbD w with
        | true => exact .inl (ih.1 hs)
        | false => exact .inr ⟨h3, by rw [decide_eq_true (bit_lt h3)]; rfl⟩
      · exact .inl ⟨j, h1, by omega, h3⟩
theorem lay_bit {d w : Nat} : (lay r t d).getLsbD w = true ↔ (near r t (d + 1)).getLsbD w = true ∧ ∀ j, 1 ≤ j → j ≤ d → (near r t j).getLsbD w = false := by
  rw [lay, BitVec.getLsbD_and, BitVec.getLsbD_not, Bool.and_eq_true]
  refine and_congr_right (fun h => ?_)
  simp only [bit_lt h, decide_true, Bool.true_and, Bool.not_eq_true']
  rw [← Bool.not_eq_true, seen_bit]
  constructor
  · intro hn j h1 h2
    rw [← Bool.not_eq_true]; exact fun h3 => hn ⟨j, h1, h2, h3⟩
  · rintro hn ⟨j, h1, h2, h3⟩
    rw [hn j h1 h2] at h3; cases h3
theorem lay_next (hv : Val r) {m : Nat} (hm : 1 ≤ m) : mapR (revR r) (lay r t (m - 1)) &&& ~~~ seenU r t m = lay r t m := by
  obtain ⟨d, rfl⟩ : ∃ d, m = d + 1 := ⟨m - 1, by omega⟩
  rw [Nat.add_sub_cancel, lay.eq_1 (d := d + 1)]
  refine eq_of_bits (fun w hw => ?_)
  rw [BitVec.getLsbD_and, BitVec.getLsbD_and]
  cases hs : (~~~ seenU r t (d + 1)).getLsbD w with
  | false => simp
  | true =>
    have hs2 : ¬ (seenU r t (d + 1)).getLsbD w = true := by simpa [hw] using hs
    rw [seen_bit] at hs2
    rw [Bool.and_true, Bool.and_true, Bool.eq_iff_iff, near_bit hv, mapR_bit]
    constructor
    · rintro ⟨v, h1, h2⟩
      have hd := h2.dom
      rw [revR_length] at hd
      exact ⟨v, (revR_bit hv hd).1 h2, (lay_bit.1 h1).1⟩
    · rintro ⟨v, h1, h2⟩
      refine ⟨v, lay_bit.2 ⟨h2, fun j hj hj2 => ?_⟩, (revR_bit hv (hv.lt _ _ h1)).2 h1⟩
      rw [← Bool.not_eq_true]
      exact fun h3 => hs2 ⟨j + 1, by omega, by omega, (near_bit hv).2 ⟨v, h1, h3⟩⟩
theorem and_not0 (x : W64) : x &&& ~~~0#64 = x := by
  refine eq_of_bits (fun i hi => ?_)
  rw [BitVec.getLsbD_and, BitVec.getLsbD_not, decide_eq_true hi, BitVec.getLsbD_zero]; simp
theorem lay_zero : lay r t 0 = near r t 1 := by rw [lay, seenU, and_not0]
theorem seen_one : seenU r t 1 = near r t 1 := by
  rw [seenU, seenU, and_not0]; simp
theorem seen_succ (m : Nat) : seenU r t (m + 1) = seenU r t m ||| lay r t m := rfl
theorem lay_grows {m : Nat} (h : lay r t m ≠ 0#64) : seenU r t m ||| lay r t m ≠ seenU r t m := by
  intro e
  have h1 := andNot_zero.1 (or_eq_left e)
  apply h
  refine eq_of_bits (fun i _ => ?_)
  cases hb : (lay r t m).getLsbD i with
  | false => simp
  | true =>
    have := h1 i hb
    rw [lay, BitVec.getLsbD_and, BitVec.getLsbD_not, this] at hb
    simp at hb
/-- w is of the layer c - 1 (c = 0: of t) -/
def AtL (r : List W64) (t : W64) (c w : Nat) : Prop := (near r t c).getLsbD w = true ∧ ∀ j, 1 ≤ j → j < c → (near r t j).getLsbD w = false
theorem AtL.next (hv : Val r) {c w : Nat} (h : AtL r t (c + 1) w) : r.getD w 0#64 &&& near r t c ≠ 0#64 ∧ AtL r t c (tz (r.getD w 0#64 &&& near r t c)) ∧ Rl r w (tz (r.getD w 0#64 &&& near r t c)) := by
  obtain ⟨v, h1, h2⟩ := (near_bit hv).1 h.1
  have hne : r.getD w 0#64 &&& near r t c ≠ 0#64 := by
    intro e
    have := congrArg (fun x => BitVec.getLsbD x v) e
    rw [BitVec.getLsbD_and, h2, show (r.getD w 0#64).getLsbD v = true from h1] at this
    simp at this
  have hb := (tz_spec hne).2.1
  rw [BitVec.getLsbD_and, Bool.and_eq_true] at hb
  refine ⟨hne, ⟨hb.2, fun j hj hj2 => ?_⟩, hb.1⟩
  rw [← Bool.not_eq_true]
  intro h3
  have := h.2 (j + 1) (by omega) (by omega)
  rw [(near_bit hv).2 ⟨_, hb.1, h3⟩] at this
  cases this
theorem AtL.goal (hv : Val r) {d w : Nat} (h : AtL r t (d + 2) w) : r.getD w 0#64 &&& lay r t d = r.getD w 0#64 &&& near r t (d + 1) := by
  refine eq_of_bits (fun v _ => ?_)
  rw [BitVec.getLsbD_and, BitVec.getLsbD_and]
  cases hr : (r.getD w 0#64).getLsbD v with
  | false => rfl
  | true =>
    rw [Bool.true_and, Bool.true_and, Bool.eq_iff_iff, lay_bit]
    refine ⟨fun x => x.1, fun x => ⟨x, fun j hj hj2 => ?_⟩⟩
    rw [← Bool.not_eq_true]
    intro h3
    have := h.2 (j + 1) (by omega) (by omega)
    rw [(near_bit hv).2 ⟨v, hr, h3⟩] at this
    cases this
theorem near_lt (hv : Val r) {k w : Nat} (h : (near r t (k + 1)).getLsbD w = true) : w < r.length := by
  obtain ⟨v, h1, _⟩ := (near_bit hv).1 h
  exact h1.dom
/-- no layer so far has a point of f -/
theorem no_near {f : W64} {m : Nat} (h : ∀ d, d < m → lay r t d &&& f = 0#64) : ∀ j, 1 ≤ j → j ≤ m → f &&& near r t j = 0#64 := by
  have key : ∀ m, (∀ d, d < m → lay r t d &&& f = 0#64) → seenU r t m &&& f = 0#64 := by
    intro m
    induction m with
    | zero => intro _; simp [seenU]
    | succ m ih =>
      intro h
      have h1 := ih (fun d hd => h d (by omega))
      have h2 := h m (by omega)
      rw [seen_succ]
      refine eq_of_bits (fun i _ => ?_)
      have a := congrArg (fun x => BitVec.getLsbD x i) h1
      have b := congrArg (fun x => BitVec.getLsbD x i) h2
      simp only [BitVec.getLsbD_and] at a b
      rw [BitVec.getLsbD_and, BitVec.getLsbD_or, Bool.and_or_distrib_right, a, b]; simp
  intro j hj hjm
  refine eq_of_bits (fun i _ => ?_)
  have a := congrArg (fun x => BitVec.getLsbD x i) (key m h)
  simp only [BitVec.getLsbD_and] at a
  rw [BitVec.getLsbD_and]
  cases hn : (near r t j).getLsbD i with
  | false => simp
  | true => rw [seen_bit.2 ⟨j, hj, hjm, hn⟩] at a; simpa using a
/-- an empty layer: no further one has a point -/
theorem no_more (hv : Val r) {m : Nat} (h : lay r t m = 0#64) : ∀ k w, 1 ≤ k → (near r t k).getLsbD w = true → ∃ j, 1 ≤ j ∧ j ≤ m ∧ (near r t j).getLsbD w = true := by
  have h0 : ∀ w, (near r t (m + 1)).getLsbD w = true → ∃ j, 1 ≤ j ∧ j ≤ m ∧ (near r t j).getLsbD w = true := by
    intro w hw
    apply Classical.byContradiction
    intro hn
    have : (lay r t m).getLsbD w = true := lay_bit.2 ⟨hw, fun j h1 h2 => by
      rw [← Bool.not_eq_true]; exact fun h3 => hn ⟨j, h1, h2, h3⟩⟩
    rw [h] at this; simp at this
  intro k
  induction k with
  | zero => intro w hk; omega
  | succ k ih =>
    intro w _ hw
    by_cases hk : k < m
    · exact ⟨k + 1, by omega, by omega, hw⟩
    by_cases hkm : k = m
    · subst hkm; exact h0 w hw
    obtain ⟨v, h1, h2⟩ := (near_bit hv).1 hw
    obtain ⟨j, h3, h4, h5⟩ := ih v (by omega) h2
    by_cases hj : j = m
    · subst hj; exact h0 w ((near_bit hv).2 ⟨v, h1, h5⟩)
    · exact ⟨j + 1, by omega, by omega, (near_bit hv).2 ⟨v, h1, h5⟩⟩
theorem none_of {f : W64} {m : Nat} (hv : Val r) (h : lay r t m = 0#64) (hf : ∀ d, d < m → lay r t d &&& f = 0#64) : ∀ k, 1 ≤ k → f &&& near r t k = 0#64 := by
  intro k hk
  refine eq_of_bits (fun i _ => ?_)
  rw [BitVec.getLsbD_and]
  cases hn : (near r t k).getLsbD i with
  | false => simp
  | true =>
    obtain ⟨j, h1, h2, h3⟩ := no_more hv h k i hk hn
    have := congrArg (fun x => BitVec.getLsbD x i) (no_near hf j h1 h2)
    simp only [BitVec.getLsbD_and, h3, Bool.and_true] at this
    rw [this]; simp
theorem lay_start (hv : Val r) {f : W64} {m : Nat} (hm : 1 ≤ m) (hf : ∀ d, d < m - 1 → lay r t d &&& f = 0#64) : lay r t (m - 1) &&& f &&& allW r.length = f &&& near r t m := by
  obtain ⟨d, rfl⟩ : ∃ d, m = d + 1 := ⟨m - 1, by omega⟩
  rw [Nat.add_sub_cancel] at *
  refine eq_of_bits (fun i hi => ?_)
  rw [BitVec.getLsbD_and, BitVec.getLsbD_and, BitVec.getLsbD_and, allW_bit hv.len hi, Bool.eq_iff_iff]
  simp only [Bool.and_eq_true, decide_eq_true_eq]
  constructor
  · rintro ⟨⟨h1, h2⟩, _⟩; exact ⟨h2, (lay_bit.1 h1).1⟩
  · rintro ⟨h1, h2⟩
    refine ⟨⟨lay_bit.2 ⟨h2, fun j hj hj2 => ?_⟩, h1⟩, near_lt hv h2⟩
    have := congrArg (fun x => BitVec.getLsbD x i) (no_near hf j hj hj2)
    simp only [BitVec.getLsbD_and, h1, Bool.true_and] at this
    rw [this]; simp
theorem AtL.start {f : W64} {m : Nat} (h : Short r f t m) : AtL r t m (tz (f &&& near r t m)) := by
  have hb := (tz_spec h.ne).2.1
  rw [BitVec.getLsbD_and, Bool.and_eq_true] at hb
  refine ⟨hb.2, fun j h1 h2 => ?_⟩
  have := congrArg (fun x => BitVec.getLsbD x (tz (f &&& near r t m))) (h.least j h1 h2)
  simp only [BitVec.getLsbD_and, hb.1, Bool.true_and] at this
  rw [this]; simp
end
theorem countP_lt {α : Type} {p q : α → Bool} : ∀ {l : List α}, (∀ x ∈ l, p x = true → q x = true) → (∃ x ∈ l, q x = true ∧ p x = false) → l.countP p < l.countP q
  | [], _, ⟨_, h, _⟩ => by cases h
  | a :: l, h, ⟨x, hx, h1, h2⟩ => by
    have hle : l.countP p ≤ l.countP q := List.countP_mono_left (fun y hy => h y (List.mem_cons_of_mem _ hy))
    rw [List.countP_cons, List.countP_cons]
    rcases List.mem_cons.1 hx with rfl | hx
    · rw [h1, h2]; simp; omega
    · have := countP_lt (fun y hy => h y (List.mem_cons_of_mem _ hy)) ⟨x, hx, h1, h2⟩
      have h3 := h a (List.mem_cons_self ..)
      cases hp : p a with
      | false => simp; split <;> omega
      | true => rw [h3 hp]; omega
/-- how many points a set has -/
def card (s : W64) : Nat := (List.range 64).countP (fun i => s.getLsbD i)
theorem card_lt {s t : W64} (h : s ||| t ≠ s) : card s < card (s ||| t) := by
  refine countP_lt (fun i _ hi => by rw [BitVec.getLsbD_or, hi]; rfl) ?_
  apply Classical.byContradiction
  intro hn
  apply h
  refine eq_of_bits (fun i hi => ?_)
  cases hs : s.getLsbD i with
  | true => rw [BitVec.getLsbD_or, hs]; rfl
  | false =>
    cases hu : (s ||| t).getLsbD i with
    | false => rfl
    | true => exact absurd ⟨i, List.mem_range.2 hi, hu, hs⟩ hn
theorem card_le (s : W64) : card s ≤ 64 := Nat.le_trans List.countP_le_length (by simp)
theorem card_le_n {s : W64} {n : Nat} (hn : n ≤ 64) (h : ∀ i, s.getLsbD i = true → i < n) : card s ≤ n := by
  have e : List.range 64 = List.range (n + (64 - n)) := by rw [show n + (64 - n) = 64 from by omega]
  unfold card
  rw [e, List.range_add, List.countP_append]
  have h2 : ((List.range (64 - n)).map (n + ·)).countP (fun i => s.getLsbD i) = 0 := by
    rw [List.countP_eq_zero]
    intro x hx
    obtain ⟨y, _, rfl⟩ := List.mem_map.1 hx
    intro hb
    have := h _ hb
    omega
  rw [h2]
  exact Nat.le_trans (Nat.add_le_add_right List.countP_le_length _) (by simp)
theorem card_seen {r : List W64} {t : W64} : ∀ {m : Nat}, (∀ d, d < m → lay r t d ≠ 0#64) → m ≤ card (seenU r t m)
  | 0, _ => Nat.zero_le _
  | m + 1, h => by
    have h1 := card_seen (m := m) (fun d hd => h d (by omega))
    have := card_lt (lay_grows (h m (by omega)))
    rw [← seen_succ] at this
    omega
/-- a shortest path is no longer than there are points -/
theorem Short.le {r : List W64} (hv : Val r) {f t : W64} {k : Nat} (h : Short r f t k) : k ≤ r.length := by
  have hne : ∀ d, d < k → lay r t d ≠ 0#64 := by
    intro d hd e
    obtain ⟨h1, h2⟩ := AtL.start h
    obtain ⟨j, h3, h4, h5⟩ := no_more hv e k _ h.one h1
    rw [h2 j h3 (by omega)] at h5; cases h5
  refine Nat.le_trans (card_seen hne) (card_le_n hv.len (fun i hi => ?_))
  obtain ⟨j, h1, _, h3⟩ := seen_bit.1 hi
  obtain ⟨j', rfl⟩ : ∃ j', j = j' + 1 := ⟨j - 1, by omega⟩
  exact near_lt hv h3
def layers (r : List W64) (t : W64) (m : Nat) : List W64 := (List.range m).map (lay r t)
theorem layers_length {r : List W64} {t : W64} {m : Nat} : (layers r t m).length = m := by simp [layers]
theorem layers_get {r : List W64} {t : W64} {m d : Nat} (h : d < m) : (layers r t m).getD d 0#64 = lay r t d := by simp [layers, List.getD_eq_getElem?_getD, h]
theorem layers_succ {r : List W64} {t : W64} {m : Nat} : layers r t m ++ [lay r t m] = layers r t (m + 1) := by simp [layers, List.range_succ]
theorem pathK_length {r : List W64} {t f : W64} {k : Nat} : (pathK r t f k).length = k + 1 := by
  have : ∀ c w, (tailP r t c w).length = c := by
    intro c
    induction c with
    | zero => intro w; rfl
    | succ c ih => intro w; rw [tailP, List.length_cons, ih]
  rw [pathK, List.length_cons, this]
/-- words of a machine as a number's value -/
abbrev N64 (i : Nat) : Value := .int .i64 i
end Go.Proofs.Wit
