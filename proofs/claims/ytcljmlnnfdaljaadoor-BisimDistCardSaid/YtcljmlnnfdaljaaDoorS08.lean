/- Laws of a calculus of walks, proved for any program: no condition beyond those that each theorem states. -/
import Derived.Test.YtcljmlnnfdaljaaDoorS06
namespace Go.Proofs.Wit
open Go Go.RowKit
/-! plain facts on shortest paths -/
/-- the points from which k steps lead to a point of t -/
def near (r : List W64) (t : W64) : Nat → W64
  | 0 => t
  | k + 1 => mapR (revR r) (near r t k)
/-- the points from which d + 1 steps lead to a point of t, and not fewer; and those of the layers before -/
def seenU (r : List W64) (t : W64) : Nat → W64
  | 0 => 0#64
  | d + 1 => seenU r t d ||| (near r t (d + 1) &&& ~~~ seenU r t d)
def lay (r : List W64) (t : W64) (d : Nat) : W64 := near r t (d + 1) &&& ~~~ seenU r t d
/-- the rest of a path behind w -/
def tailP (r : List W64) (t : W64) : Nat → Nat → List Nat
  | 0, _ => []
  | c + 1, w => tz (r.getD w 0#64 &&& near r t c) :: tailP r t c (tz (r.getD w 0#64 &&& near r t c))
def pathK (r : List W64) (t f : W64) (k : Nat) : List Nat := tz (f &&& near r t k) :: tailP r t k (tz (f &&& near r t k))
structure Short (r : List W64) (f t : W64) (k : Nat) : Prop where
  one : 1 ≤ k
  ne : f &&& near r t k ≠ 0#64
  least : ∀ j, 1 ≤ j → j < k → f &&& near r t j = 0#64
/-- what Path gives -/
def PathIs (r : List W64) (f to : W64) (p : List Nat) : Prop :=
  if checkR r.length r ≠ 0 then p = [] else
    (∃ k, Short r f (to &&& allW r.length) k ∧ p = pathK r (to &&& allW r.length) f k) ∨ ((∀ k, 1 ≤ k → f &&& near r (to &&& allW r.length) k = 0#64) ∧ p = [])
theorem Short.uniq {r : List W64} {f t : W64} {j k : Nat} (h : Short r f t j) (g : Short r f t k) : j = k := by
  rcases Nat.lt_trichotomy j k with x | x | x
  · exact absurd (g.least j h.one x) h.ne
  · exact x
  · exact absurd (h.least k g.one x) g.ne
theorem PathIs.uniq {r : List W64} {f t : W64} {p q : List Nat} (h : PathIs r f t p) (g : PathIs r f t q) : p = q := by
  unfold PathIs at h g
  split at h
  · rename_i hc; rw [if_pos hc] at g; rw [h, g]
  · rename_i hc; rw [if_neg hc] at g
    rcases h with ⟨k, hk, rfl⟩ | ⟨hn, rfl⟩ <;> rcases g with ⟨j, hj, rfl⟩ | ⟨gn, rfl⟩
    · rw [hk.uniq hj]
    · exact absurd (gn k hk.one) hk.ne
    · exact absurd (hn j hj.one) hj.ne
    · rfl
section
variable {r : List W64} {t : W64}
theorem near_bit (hv : Val r) {k w : Nat} : (near r t (k + 1)).getLsbD w = true ↔ ∃ v, Rl r w v ∧ (near r t k).getLsbD v = true := by
  rw [near, mapR_bit]
  constructor
  · rintro ⟨v, h1, h2⟩
    have hd := h2.dom
    rw [revR_length] at hd
    exact ⟨v, (revR_bit hv hd).1 h2, h1⟩
  · rintro ⟨v, h1, h2⟩
    exact ⟨v, h2, (revR_bit hv (hv.lt _ _ h1)).2 h1⟩
theorem seen_bit {m w : Nat} : (seenU r t m).getLsbD w = true ↔ ∃ j, 1 ≤ j ∧ j ≤ m ∧ (near r t j).getLsbD w = true := by
  induction m with
  | zero => rw [seenU]; simp; intro j h1 h2; omega
  | succ m ih =>
    rw [seenU, BitVec.getLsbD_or, Bool.or_eq_true, ih, BitVec.getLsbD_and, BitVec.getLsbD_not, Bool.and_eq_true]
    constructor
    · rintro (⟨j, h1, h2, h3⟩ | ⟨h1, _⟩)
      · exact ⟨j, h1, by omega, h3⟩
      · exact ⟨m + 1, by omega, Nat.le_refl _, h1⟩
    · rintro ⟨j, h1, h2, h3⟩
      by_cases e : j = m + 1
      · subst e
        cases hs : (seenU r t m).getLsbD w with
        | true => exact .inl (ih.1 hs)
        | false => exact .inr ⟨h3, by rw [decide_eq_true (bit_lt h3)]; rfl⟩
      · exact .inl ⟨j, h1, by omega, h3⟩
theorem lay_bit {d w : Nat} : (lay r t d).getLsbD w = true ↔ (near r t (d + 1)).getLsbD w = true ∧ ∀ j, 1 ≤ j → j ≤ d → (near r t j).getLsbD w = false := by
  rw [lay, BitVec.getLsbD_and, BitVec.getLsbD_not, Bool.and_eq_true]
  refine and_congr_right (fun h => ?_)
  simp only [bit_lt h, decide_true, Bool.true_and, Bool.not_eq_true']
  rw [← Bool.not_eq_true, seen_bit]
  constructor
  · intro hn j h1 h2
    rw [← Bool.not_eq_true]; exact fun h3 => hn ⟨j, h1, h2, h3⟩
  · rintro hn ⟨j, h1, h2, h3⟩
    rw [hn j h1 h2] at h3; cases h3
theorem seen_succ (m : Nat) : seenU r t (m + 1) = seenU r t m ||| lay r t m := rfl
theorem lay_grows {m : Nat} (h : lay r t m ≠ 0#64) : seenU r t m ||| lay r t m ≠ seenU r t m := by
  intro e
  have h1 := andNot_zero.1 (or_eq_left e)
  apply h
  refine eq_of_bits (fun i _ => ?_)
  cases hb : (lay r t m).getLsbD i with
  | false => simp
  | true =>
    have := h1 i hb
    rw [lay, BitVec.getLsbD_and, BitVec.getLsbD_not, this] at hb
    simp at hb
/-- w is of the layer c - 1 (c = 0: of t) -/
def AtL (r : List W64) (t : W64) (c w : Nat) : Prop := (near r t c).getLsbD w = true ∧ ∀ j, 1 ≤ j → j < c → (near r t j).getLsbD w = false
theorem AtL.next (hv : Val r) {c w : Nat} (h : AtL r t (c + 1) w) : r.getD w 0#64 &&& near r t c ≠ 0#64 ∧ AtL r t c (tz (r.getD w 0#64 &&& near r t c)) ∧ Rl r w (tz (r.getD w 0#64 &&& near r t c)) := by
  obtain ⟨v, h1, h2⟩ := (near_bit hv).1 h.1
  have hne : r.getD w 0#64 &&& near r t c ≠ 0#64 := by
    intro e
    have := congrArg (fun x => BitVec.getLsbD x v) e
    rw [BitVec.getLsbD_and, h2, show (r.getD w 0#64).getLsbD v = true from h1] at this
    simp at this
  have hb := (tz_spec hne).2.1
  rw [BitVec.getLsbD_and, Bool.and_eq_true] at hb
  refine ⟨hne, ⟨hb.2, fun j hj hj2 => ?_⟩, hb.1⟩
  rw [← Bool.not_eq_true]
  intro h3
  have := h.2 (j + 1) (by omega) (by omega)
  rw [(near_bit hv).2 ⟨_, hb.1, h3⟩] at this
  cases this
theorem near_lt (hv : Val r) {k w : Nat} (h : (near r t (k + 1)).getLsbD w = true) : w < r.length := by
  obtain ⟨v, h1, _⟩ := (near_bit hv).1 h
  exact h1.dom
/-- an empty layer: no further one has a point -/
theorem no_more (hv : Val r) {m : Nat} (h : lay r t m = 0#64) : ∀ k w, 1 ≤ k → (near r t k).getLsbD w = true → ∃ j, 1 ≤ j ∧ j ≤ m ∧ (near r t j).getLsbD w = true := by
  have h0 : ∀ w, (near r t (m + 1)).getLsbD w = true → ∃ j, 1 ≤ j ∧ j ≤ m ∧ (near r t j).getLsbD w = true := by
    intro w hw
    apply Classical.byContradiction
    intro hn
    have : (lay r t m).getLsbD w = true := lay_bit.2 ⟨hw, fun j h1 h2 => by
      rw [← Bool.not_eq_true]; exact fun h3 => hn ⟨j, h1, h2, h3⟩⟩
    rw [h] at this; simp at this
  intro k
  induction k with
  | zero => intro w hk; omega
  | succ k ih =>
    intro w _ hw
    by_cases hk : k < m
    · exact ⟨k + 1, by omega, by omega, hw⟩
    by_cases hkm : k = m
    · subst hkm; exact h0 w hw
    obtain ⟨v, h1, h2⟩ := (near_bit hv).1 hw
    obtain ⟨j, h3, h4, h5⟩ := ih v (by omega) h2
    by_cases hj : j = m
    · subst hj; exact h0 w ((near_bit hv).2 ⟨v, h1, h5⟩)
    · exact ⟨j + 1, by omega, by omega, (near_bit hv).2 ⟨v, h1, h5⟩⟩
theorem AtL.start {f : W64} {m : Nat} (h : Short r f t m) : AtL r t m (tz (f &&& near r t m)) := by
  have hb := (tz_spec h.ne).2.1
  rw [BitVec.getLsbD_and, Bool.and_eq_true] at hb
  refine ⟨hb.2, fun j h1 h2 => ?_⟩
  have := congrArg (fun x => BitVec.getLsbD x (tz (f &&& near r t m))) (h.least j h1 h2)
  simp only [BitVec.getLsbD_and, hb.1, Bool.true_and] at this
  rw [this]; simp
end
theorem countP_lt {α : Type} {p q : α → Bool} : ∀ {l : List α}, (∀ x ∈ l, p x = true → q x = true) → (∃ x ∈ l, q x = true ∧ p x = false) → l.countP p < l.countP q
  | [], _, ⟨_, h, _⟩ => by cases h
  | a :: l, h, ⟨x, hx, h1, h2⟩ => by
    have hle : l.countP p ≤ l.countP q := List.countP_mono_left (fun y hy => h y (List.mem_cons_of_mem _ hy))
    rw [List.countP_cons, List.countP_cons]
    rcases List.mem_cons.1 hx with rfl | hx
    · rw [h1, h2]; simp; omega
    · have := countP_lt (fun y hy => h y (List.mem_cons_of_mem _ hy)) ⟨x, hx, h1, h2⟩
      have h3 := h a (List.mem_cons_self ..)
      cases hp : p a with
      | false => simp; split <;> omega
      | true => rw [h3 hp]; omega
/-- how many points a set has -/
def card (s : W64) : Nat := (List.range 64).countP (fun i => s.getLsbD i)
theorem card_lt {s t : W64} (h : s ||| t ≠ s) : card s < card (s ||| t) := by
  refine countP_lt (fun i _ hi => by rw [BitVec.getLsbD_or, hi]; rfl) ?_
  apply Classical.byContradiction
  intro hn
  apply h
  refine eq_of_bits (fun i hi => ?_)
  cases hs : s.getLsbD i with
  | true => rw [BitVec.getLsbD_or, hs]; rfl
  | false =>
    cases hu : (s ||| t).getLsbD i with
    | false => rfl
    | true => exact absurd ⟨i, List.mem_range.2 hi, hu, hs⟩ hn
theorem card_le_n {s : W64} {n : Nat} (hn : n ≤ 64) (h : ∀ i, s.getLsbD i = true → i < n) : card s ≤ n := by
  have e : List.range 64 = List.range (n + (64 - n)) := by rw [show n + (64 - n) = 64 from by omega]
  unfold card
  rw [e, List.range_add, List.countP_append]
  have h2 : ((List.range (64 - n)).map (n + ·)).countP (fun i => s.getLsbD i) = 0 := by
    rw [List.countP_eq_zero]
    intro x hx
    obtain ⟨y, _, rfl⟩ := List.mem_map.1 hx
    intro hb
    have := h _ hb
    omega
  rw [h2]
  exact Nat.le_trans (Nat.add_le_add_right List.countP_le_length _) (by simp)
theorem card_seen {r : List W64} {t : W64} : ∀ {m : Nat}, (∀ d, d < m → lay r t d ≠ 0#64) → m ≤ card (seenU r t m)
  | 0, _ => Nat.zero_le _
  | m + 1, h => by
    have h1 := card_seen (m := m) (fun d hd => h d (by omega))
    have := card_lt (lay_grows (h m (by omega)))
    rw [← seen_succ] at this
    omega
/-- a shortest path is no longer than there are points -/
theorem Short.le {r : List W64} (hv : Val r) {f t : W64} {k : Nat} (h : Short r f t k) : k ≤ r.length := by
  have hne : ∀ d, d < k → lay r t d ≠ 0#64 := by
    intro d hd e
    obtain ⟨h1, h2⟩ := AtL.start h
    obtain ⟨j, h3, h4, h5⟩ := no_more hv e k _ h.one h1
    rw [h2 j h3 (by omega)] at h5; cases h5
  refine Nat.le_trans (card_seen hne) (card_le_n hv.len (fun i hi => ?_))
  obtain ⟨j, h1, _, h3⟩ := seen_bit.1 hi
  obtain ⟨j', rfl⟩ : ∃ j', j = j' + 1 := ⟨j - 1, by omega⟩
  exact near_lt hv h3
def layers (r : List W64) (t : W64) (m : Nat) : List W64 := (List.range m).map (lay r t)
end Go.Proofs.Wit
namespace Go.Proofs.Wit
open Go Go.RowKit
theorem in_bit {s : W64} {i : Nat} : ((s >>> i) &&& 1#64 == 1#64) = s.getLsbD i := by
  cases hb : s.getLsbD i with
  | true =>
    rw [beq_iff_eq]
    refine eq_of_bits (fun j _ => ?_)
    rw [BitVec.getLsbD_and, BitVec.getLsbD_ushiftRight, BitVec.getLsbD_one]
    by_cases e : j = 0
    · subst e; simp [hb]
    · simp [e]
  | false =>
    rw [beq_eq_false_iff_ne]
    intro e
    have := congrArg (fun x => BitVec.getLsbD x 0) e
    simp [hb] at this
theorem GoodS.least {g : List W64 → List W64} {F : List W64 → Prop} (h : GoodS g F) {r : List W64} (hv : Val r) (hF : F (g r)) : Least F r (g r) :=
  ⟨h.val hv, h.infl hv, hF, fun c hc hl hFc => by
    have := h.mono hv hc hl
    rwa [(h.fix hc).2 hFc] at this⟩
theorem ne_zero_iff {s : W64} : s ≠ 0#64 ↔ ∃ i, s.getLsbD i = true := by
  constructor
  · intro h; exact ⟨tz s, (tz_spec h).2.1⟩
  · rintro ⟨i, hi⟩ rfl; simp at hi
end Go.Proofs.Wit
namespace Go.Proofs.Wit
/-- the reference's step at a pair -/
def pairAt (e : Bool) (w u : Nat) : Nat := if e = true then u else w
def pairSrc (e : Bool) (w u : Nat) : Nat := if e = true then w else u
def pairS (e : Bool) (w u : Nat) (l : List W64) : List W64 := l.set (pairAt e w u) (l.getD (pairAt e w u) 0#64 ||| l.getD (pairSrc e w u) 0#64)
def stG (e : Bool) (w u : Nat) (l : List W64) : List W64 := if (l.getD w 0#64).getLsbD u = true then pairS e w u l else l
def clG (e : Bool) (w u : Nat) (l : List W64) : Prop := Rl l w u → ∀ x, Rl l (pairSrc e w u) x → Rl l (pairAt e w u) x
def allG (e : Bool) (l : List W64) : Prop := if e = true then euclR l else tranR l
theorem allG_iff {e : Bool} {l : List W64} : allG e l ↔ ∀ w u, clG e w u l := by
  unfold allG clG pairAt pairSrc
  cases e
  · simp only [Bool.false_eq_true, if_false]
    exact ⟨fun h w u h1 x h2 => h w u x h1 h2, fun h w u x h1 h2 => h w u h1 x h2⟩
  · simp only [if_true]
    exact ⟨fun h w u h1 x h2 => h w u x h1 h2, fun h w u x h1 h2 => h w u h1 x h2⟩
theorem pair_good (e : Bool) (w u : Nat) : GoodS (stG e w u) (clG e w u) := by
  refine (GoodS.ofBits (fun l a b => Rl l w u ∧ a = pairAt e w u ∧ Rl l (pairSrc e w u) b) (fun l => ?_) (fun l hv a b => ?_) (fun l hv a b h => hv.lt _ _ h.2.2) (fun l m _ _ le a b h => ⟨le.sub _ _ h.1, h.2.1, le.sub _ _ h.2.2⟩)).iff (fun {l} _ => ?_)
  · unfold stG; split
    · rw [pairS, List.length_set]
    · rfl
  · unfold stG
    by_cases h : (l.getD w 0#64).getLsbD u = true
    · rw [if_pos h, pairS, set_bit]
      refine or_congr Iff.rfl ⟨fun ⟨h1, _, h2⟩ => ⟨h, h1, h2⟩, fun ⟨_, h1, h2⟩ => ⟨h1, ?_, h2⟩⟩
      unfold pairAt; split
      · exact hv.lt w u h
      · exact Rl.dom (v := u) h
    · rw [if_neg h]
      exact ⟨.inl, fun x => x.elim (fun x => x) (fun x => absurd x.1 h)⟩
  · exact ⟨fun h h1 x h2 => h _ x ⟨h1, rfl, h2⟩, fun h a b ⟨h1, h2, h3⟩ => h2 ▸ h h1 b h3⟩
/-- what is known of the list in a pass of the reference -/
structure Pass (e : Bool) (r o0 out : List W64) (again : Bool) (k j : Nat) : Prop where
  val : Val out
  le : Le r out
  min : ∀ c, Val c → Le r c → allG e c → Le out c
  up : Le o0 out
  yes : again = true → o0 ≠ out
  no : again = false → out = o0 ∧ ∀ w u, (w < k ∨ (w = k ∧ u < j)) → clG e w u out
theorem Pass.go {e : Bool} {r o0 out : List W64} {again : Bool} {k j : Nat} (h : Pass e r o0 out again k j) (again' : Bool) (hy : again' = true → again = true ∨ stG e k j out ≠ out) (hn : again' = false → again = false ∧ stG e k j out = out) :
    Pass e r o0 (stG e k j out) again' k (j + 1) where
  val := (pair_good e k j).val h.val
  le := h.le.trans ((pair_good e k j).infl h.val)
  min c h1 h2 h3 := by
    have := (pair_good e k j).mono h.val h1 (h.min c h1 h2 h3)
    rwa [((pair_good e k j).fix h1).2 (allG_iff.1 h3 k j)] at this
  up := h.up.trans ((pair_good e k j).infl h.val)
  yes ha := by
    intro e1
    have hle := (pair_good e k j).infl h.val
    have : Le out o0 := by rw [e1]; exact hle
    have e2 : o0 = out := h.up.antisymm this
    rcases hy ha with h3 | h3
    · exact h.yes h3 e2
    · exact h3 (e1.symm.trans e2)
  no ha := by
    obtain ⟨h1, h2⟩ := hn ha
    obtain ⟨h3, h4⟩ := h.no h1
    refine ⟨h2.trans h3, fun w u hwu => ?_⟩
    rw [h2]
    rcases hwu with h5 | ⟨rfl, h5⟩
    · exact h4 w u (.inl h5)
    · rcases Nat.lt_succ_iff_lt_or_eq.1 h5 with h6 | rfl
      · exact h4 w u (.inr ⟨rfl, h6⟩)
      · exact ((pair_good e w u).fix h.val).1 h2
theorem Pass.row {e : Bool} {r o0 out : List W64} {again : Bool} {k j : Nat} (h : Pass e r o0 out again k j) (hj : out.length ≤ j) : Pass e r o0 out again (k + 1) 0 :=
  { h with no := fun ha => ⟨(h.no ha).1, fun w u hwu => by
      rcases hwu with h5 | ⟨_, h5⟩
      · rcases Nat.lt_succ_iff_lt_or_eq.1 h5 with h6 | rfl
        · exact (h.no ha).2 w u (.inl h6)
        · by_cases hu : u < j
          · exact (h.no ha).2 w u (.inr ⟨rfl, hu⟩)
          · intro h7
            have := h.val.lt _ _ h7
            omega
      · omega⟩ }
theorem Pass.done {e : Bool} {r o0 out : List W64} {k : Nat} (h : Pass e r o0 out false k 0) (hk : out.length ≤ k) : allG e out :=
  allG_iff.2 (fun w u => by
    by_cases hw : w < k
    · exact (h.no rfl).2 w u (.inl hw)
    · intro h7
      have := h7.dom
      omega)
/-- a round of the reference's walk finds a point -/
def WalkOk (r : List W64) (t : W64) : Nat → W64 → Prop
  | 0, _ => True
  | c + 1, s => s &&& near r t c ≠ 0#64 ∧ AtL r t c (tz (s &&& near r t c))
theorem WalkOk.next {r : List W64} {t s : W64} {c : Nat} (hv : Val r) (h : WalkOk r t (c + 1) s) : WalkOk r t c (r.getD (tz (s &&& near r t c)) 0#64) := by
  cases c with
  | zero => trivial
  | succ c => exact ⟨(h.2.next hv).1, (h.2.next hv).2.1⟩
end Go.Proofs.Wit
namespace Go.Proofs.Wit
end Go.Proofs.Wit
namespace Go.Proofs.Wit
open Go Go.RowKit
/-! values of many cells: structs, slices of structs -/
section
variable {P : Program} {r : Option Nat} {f : FuncId} {R : Value → World → Prop} {w0 : World} {S : List Nat} {Y : List (Nat × Obj)} {n : Nat} {k : List Item} {l : Fl} {h : Hl}
variable {ops : Array Oper} {i d : Nat} {rest : List Nat} {ty : TypeId} {pos : String} {aft : Array Edge} {g : Option (Nat × Bool)}
theorem addr_off (b o q : Nat) : (⟨b, o, none⟩ : Addr).add q = ⟨b, o + q, none⟩ := by
  unfold Addr.add; split
  · rename_i h0; subst h0; rfl
  · rfl
theorem adr_adr (a : Option Addr) (i q : Nat) : (adr a i).add q = adr a (i + q) := by
  unfold adr; rw [addr_off, Nat.add_assoc]
/-- the address of a field -/
theorem Vop.fldP {s : TypeId} {x : Operand} {b o q : Nat} {fs : Array Field} {fd : Field} {sz : Nat} (ho : ops[i]? = some ⟨some d, .fieldAddr s x q, ty, pos, aft, g⟩) (hw : wantL ops l g = true)
    (hx : opd l x = some (.pointer (some ⟨b, o, none⟩))) (hd : Nat.blt d n = true) (hu : P.underlying s = some (.struct fs)) (hq : fs[q]? = some fd) (he : ∀ w, (sizeOf fd.type).run P w = .ok (sz + 1) w) (o' : Nat) (hO : o + fd.offset = o') :
    Vop P w0 S n h ops i l d (.pointer (some ⟨b, o', none⟩)) := by
  subst hO
  exact .of ho hw rfl rfl hd (fun t w Ds _ hF hS => ⟨.value (.pointer (some ⟨b, o + fd.offset, none⟩)), by
    simp only [execOp, hF.opd hx, Instr.fieldAt, Sem.run_bind, run_underlying hu, Result.andThen_ok, hq, Instr.sureAddr, Sem.run_pure, fieldPlace, he]
    rw [if_neg (by omega)]
    simp [addr_off], rfl⟩)
/-- a field of a struct that is a value -/
theorem Vop.fld {s : TypeId} {x : Operand} {q : Nat} {cs : Array Value} {fs : Array Field} {fd : Field} {v : Value} (ho : ops[i]? = some ⟨some d, .field s x q, ty, pos, aft, g⟩) (hw : wantL ops l g = true)
    (hx : opd l x = some (.agg cs)) (hd : Nat.blt d n = true) (hu : P.underlying s = some (.struct fs)) (hq : fs[q]? = some fd) (ha : ∀ w, (isAgg fd.type).run P w = .ok false w) (hv : cs[fd.offset]? = some v) :
    Vop P w0 S n h ops i l d v :=
  .of ho hw rfl rfl hd (fun t w Ds _ hF hS => ⟨.value v, by
    simp only [execOp, hF.opd hx, Instr.field, Sem.run_bind, run_underlying hu, Result.andThen_ok, hq, asAgg, Sem.run_pure, part, ha, hv]
    rfl, rfl⟩)
theorem loadAgg_run {t : TypeId} {w : World} {a : Addr} {cs : List Value} (ha : ∀ w, (isAgg t).run P w = .ok true w) (hz : ∀ w, (sizeOf t).run P w = .ok cs.length w) (hc : ∀ j v, cs[j]? = some v → w.cell? (a.add j) = some v) :
    (Instr.loadAt t (.pointer (some a))).run P w = .ok (.agg cs.toArray) w := by
  simp only [Instr.loadAt, Instr.sureAddr, loadVar, Sem.run_bind, Sem.run_pure, Result.andThen_ok, ha, hz, if_true, run_loadCells_list w a cs hc]
/-- a struct in memory -/
theorem Vop.ldN {t : TypeId} {x : Operand} {p : Addr} {cs : List Value} (ho : ops[i]? = some ⟨some d, .load t x, ty, pos, aft, g⟩) (hw : wantL ops l g = true)
    (hx : opd l x = some (.pointer (some p))) (hd : Nat.blt d n = true) (ha : ∀ w, (isAgg t).run P w = .ok true w) (hz : ∀ w, (sizeOf t).run P w = .ok cs.length w) (hc : ∀ w Y', St w0 S w h Y' → ∀ j v, cs[j]? = some v → w.cell? (p.add j) = some v) : Vop P w0 S n h ops i l d (.agg cs.toArray) :=
  .of ho hw rfl rfl hd (fun t w Ds _ hF hS => ⟨.value (.agg cs.toArray), by
    simp only [execOp, hF.opd hx, Sem.run_bind, loadAgg_run ha hz (hc w _ hS)]; rfl, rfl⟩)
/-- a struct in a block of one's own -/
theorem Vop.ldB {t : TypeId} {x : Operand} {b : Nat} {cs : Array Value} {e : TypeId} {fr : Nat × Nat} {m : Nat} (ho : ops[i]? = some ⟨some d, .load t x, ty, pos, aft, g⟩) (hw : wantL ops l g = true)
    (hx : opd l x = some (.pointer (some ⟨b, 0, none⟩))) (hd : Nat.blt d n = true) (ha : ∀ w, (isAgg t).run P w = .ok true w) (j : Nat) (hj : h[j]? = some (some b, .cells cs e fr)) (hz : ∀ w, (sizeOf t).run P w = .ok m w) (hm : cs.size = m) : Vop P w0 S n h ops i l d (.agg cs) := by
  subst hm
  have := Vop.ldN (P := P) (w0 := w0) (S := S) (h := h) (cs := cs.toList) ho hw hx hd ha (fun w => by rw [hz]; simp) (fun w Y' hS q v hv => by
    rw [addr_off, Nat.zero_add]
    simp [World.cell?, hS.get hj] at hv ⊢
    exact hv)
  rw [Array.toArray_toList] at this
  exact this
/-- a whole struct is stored into a block of one's own -/
theorem GoH.stB {t : TypeId} {x y : Operand} {b : Nat} {cs : Array Value} {e : TypeId} {v : Value} {m : Nat} (ho : ops[i]? = some ⟨none, .store t x y, ty, pos, aft, g⟩) (hw : wantL ops l g = true)
    (hx : opd l x = some (.pointer (some ⟨b, 0, none⟩))) (hy : opd l y = some v) (hz : ∀ w, (sizeOf t).run P w = .ok m w) (j : Nat) (hj : h[j]? = some (some b, .cells cs e (0, 0))) (hm : cs.size = m) (hv : v.cells.size = m) (h1 : v.cells.toList.all Value.oneCell' = true)
    (hk : GoH P r f R w0 S Y n (.inRegion ops rest :: k) l (h.set j (some b, .cells v.cells e (0, 0)))) : GoH P r f R w0 S Y n (.inRegion ops (i :: rest) :: k) l h :=
  .eff ho hw rfl rfl (fun t' w Ds _ hF hS => by
    have hb := hS.get hj
    have hrun := run_storeCells_at (P := P) b 0 e v.cells.toList 0 cs w hb (by simp; omega) (fun u hu => List.all_eq_true.1 h1 u hu)
    have hrow : (cs.toList.take (0 + 0) ++ v.cells.toList ++ cs.toList.drop (0 + 0 + v.cells.toList.length)).toArray = v.cells := by
      rw [← Array.toList_inj]
      simp
      omega
    rw [hrow] at hrun
    refine ⟨w.setRow b v.cells, _, ?_, hS.turn hj (o' := .cells v.cells e (0, 0)) rfl rfl rfl rfl (by simp [World.setRow]) (setRow_heap w b _ _ e _ hb) (fun q _ hq => setRow_other w b q _ hq), hk⟩
    simp only [execOp, hF.opd hx, hF.opd hy, Sem.run_bind, Instr.storeAt, Instr.sureAddr, storeVar, Sem.run_pure, Result.andThen_ok, hz, hv]
    simp only [ne_eq, not_true_eq_false, if_false, hrun]; rfl)

/-! building -/
def setAt (cells : List Value) (off : Nat) (vs : List Value) : List Value := cells.take off ++ vs ++ cells.drop (off + vs.length)
def fillL (place : Nat → Option (Nat × Nat)) (cells : List Value) : List (Nat × Value) → Option (List Value)
  | [] => some cells
  | (i, v) :: rest => match place i with
    | none => none
    | some (off, size) => match Nat.beq v.cells.toList.length size && Nat.ble (off + size) cells.length with
      | true => fillL place (setAt cells off v.cells.toList) rest
      | false => none
theorem foldl_set : ∀ (vs : List Value) (cs : List Value) (off j : Nat), off + j + vs.length ≤ cs.length →
    (vs.zipIdx j).foldl (fun (cs : Array Value) (c : Value × Nat) => cs.setIfInBounds (off + c.2) c.1) cs.toArray = (setAt cs (off + j) vs).toArray
  | [], cs, off, j, _ => by simp [setAt]
  | v :: vs, cs, off, j, hl => by
    simp only [List.length_cons] at hl
    rw [List.zipIdx_cons, List.foldl_cons]
    have h1 : cs.toArray.setIfInBounds (off + j) v = (cs.set (off + j) v).toArray := by simp
    rw [h1, foldl_set vs (cs.set (off + j) v) off (j + 1) (by simp; omega)]
    congr 1
    have hlt : off + j < cs.length := by omega
    have hset : cs.set (off + j) v = cs.take (off + j) ++ v :: cs.drop (off + j + 1) := by
      rw [List.set_eq_take_append_cons_drop, if_pos hlt]
    have hlen : (cs.take (off + j)).length = off + j := by simp; omega
    have t1 : (cs.set (off + j) v).take (off + (j + 1)) = cs.take (off + j) ++ [v] := by
      rw [hset, List.take_append, List.take_of_length_le (by omega), hlen, show off + (j + 1) - (off + j) = 1 from by omega]; simp
    have t2 : (cs.set (off + j) v).drop (off + (j + 1) + vs.length) = cs.drop (off + j + (vs.length + 1)) := by
      rw [hset, List.drop_append, List.drop_eq_nil_of_le (by omega), hlen, show off + (j + 1) + vs.length - (off + j) = vs.length + 1 from by omega]
      simp [Nat.add_assoc, Nat.add_comm 1]
    unfold setAt
    rw [t1, t2]; simp
theorem fill_eq {place : Nat → Option (Nat × Nat)} : ∀ {ps : List (Nat × Value)} {cells c : List Value}, fillL place cells ps = some c → Instr.fill place cells.toArray ps = some c.toArray
  | [], cells, c, e => by cases e; rfl
  | (i, v) :: rest, cells, c, e => by
    unfold fillL at e
    unfold Instr.fill
    split at e
    · cases e
    · rename_i off size hp
      rw [hp]
      split at e
      · rename_i hb
        rw [Bool.and_eq_true, Nat.beq_eq, Nat.ble_eq] at hb
        obtain ⟨h1, h2⟩ := hb
        rw [Array.length_toList] at h1
        simp only
        rw [if_neg (by simp; omega)]
        have h3 := foldl_set v.cells.toList cells off 0 (by simp; omega)
        rw [Nat.add_zero] at h3
        have h4 : v.cells.zipIdx.foldl (fun cs (x : Value × Nat) => cs.setIfInBounds (off + x.2) x.1) cells.toArray = (setAt cells off v.cells.toList).toArray := by
          rw [← h3, ← Array.foldl_toList]; simp
        rw [h4]
        exact fill_eq e
      · cases e
def Szs (P : Program) : List Field → List Nat → Prop
  | [], [] => True
  | f :: fs, s :: ss => (∀ w, (sizeOf f.type).run P w = .ok s w) ∧ Szs P fs ss
  | _, _ => False
theorem Szs.nil : Szs P [] [] := trivial
theorem Szs.cons {f : Field} {fs : List Field} {s : Nat} {ss : List Nat} (h : ∀ w, (sizeOf f.type).run P w = .ok s w) (hs : Szs P fs ss) : Szs P (f :: fs) (s :: ss) := ⟨h, hs⟩
theorem szs_run : ∀ {fs : List Field} {ss : List Nat}, Szs P fs ss → ∀ w, (fs.mapM (m := Sem) fun f => do pure (f.offset, ← sizeOf f.type)).run P w = .ok ((fs.zip ss).map fun x => (x.1.offset, x.2)) w
  | [], [], _, w => rfl
  | f :: fs, s :: ss, hs, w => by
    rw [List.mapM_cons]
    simp only [Sem.run_bind, Sem.run_pure, Result.andThen_ok, hs.1, szs_run hs.2]; rfl
  | [], _ :: _, hs, _ => hs.elim
  | _ :: _, [], hs, _ => hs.elim
/-- what a struct's literal is -/
def Bld (P : Program) (t : TypeId) (ps : List (Nat × Value)) (v : Value) : Prop := ∀ w, (Instr.build t ps.toArray).run P w = .ok v w
theorem bld {t : TypeId} {fs : Array Field} {ss : List Nat} {z : Value} {ps : List (Nat × Value)} {c : List Value} (hu : P.underlying t = some (.struct fs)) (hs : Szs P fs.toList ss) (hz : ∀ w, (zeroValue t).run P w = .ok z w)
    (hf : fillL (fun i => ((fs.toList.zip ss)[i]?).map fun x => (x.1.offset, x.2)) z.cells.toList ps = some c) : Bld P t ps (.agg c.toArray) := by
  intro w
  have h1 := fill_eq hf
  rw [Array.toArray_toList] at h1
  simp only [Instr.build, Sem.run_bind, hz, Result.andThen_ok, run_underlying hu]
  rw [Array.mapM_eq_mapM_toList]
  simp only [Sem.run_map, szs_run hs]
  have h2 : (fun (i : Nat) => (List.map (fun x => (x.1.offset, x.2)) (fs.toList.zip ss)).toArray[i]?) = fun i => ((fs.toList.zip ss)[i]?).map fun x => (x.1.offset, x.2) := by
    funext i; simp
  show ((match Instr.fill (fun (i : Nat) => (List.map (fun x => (x.1.offset, x.2)) (fs.toList.zip ss)).toArray[i]?) z.cells ps with
    | some cells => pure (.agg cells)
    | _ => stuck "build: no such field, or a part of the wrong size" : Sem Value)).run P w = _
  rw [h2, h1]; rfl
def partsL (l : Fl) : List (Nat × Operand) → Option (List (Nat × Value))
  | [] => some []
  | (q, x) :: xs => match Wit.opd l x, partsL l xs with
    | some v, some vs => some ((q, v) :: vs)
    | _, _ => none
theorem Frm.parts {t : Array Value} (hF : Frm n t l) (ds : List Deferred) : ∀ {xs : List (Nat × Operand)} {vs : List (Nat × Value)}, partsL l xs = some vs → xs.map (fun x => (x.1, Act.eval ⟨t, ds⟩ x.2)) = vs
  | [], vs, e => by cases e; rfl
  | (q, x) :: xs, vs, e => by
    simp only [partsL] at e
    split at e
    · rename_i v us hx hxs
      cases e
      rw [List.map_cons, hF.opd hx, hF.parts ds hxs]
    · cases e
theorem Vop.bld {t : TypeId} {az : Array (Nat × Operand)} {ps : List (Nat × Value)} {v : Value} (ho : ops[i]? = some ⟨some d, .build t az, ty, pos, aft, g⟩) (hw : wantL ops l g = true) (hx : partsL l az.toList = some ps) (hd : Nat.blt d n = true) (hb : Bld P t ps v) :
    Vop P w0 S n h ops i l d v :=
  .of ho hw rfl rfl hd (fun t w Ds _ hF hS => ⟨.value v, by
    have e1 : az.map (fun (x : Nat × Operand) => (x.1, Act.eval ⟨t, Ds.map mark⟩ x.2)) = ps.toArray := by rw [← Array.toList_inj]; simp [hF.parts (Ds.map mark) hx]
    have := hb w
    rw [← e1] at this
    simp only [execOp, Sem.run_bind]
    refine (congrArg (fun x => Result.andThen x _) this).trans ?_
    rfl, rfl⟩)
theorem bsN_run {t e : TypeId} {len : Nat} {az : Array (Nat × Operand)} {ps : List (Nat × Value)} {z : Value} {size : Nat} {c : List Value} {t' : Array Value} (hF : Frm n t' l) (hx : partsL l az.toList = some ps)
    (hu : P.underlying t = some (.slice e)) (hs : ∀ w, (sizeOf e).run P w = .ok size w) (hz : ∀ w, (zeroValue e).run P w = .ok z w) (hm : Nat.ble (len * size) 16777216 = true)
    (hf : fillL (fun i => some (i * size, size)) ((List.range (len * size)).map fun i => z.cells.toList.getD (i % z.cells.toList.length) default) ps = some c) (Ds : List Nat) (w : World) :
    (execOp (Act.eval ⟨t', Ds.map mark⟩) ⟨some d, .buildSlice t len az, ty, pos, aft, g⟩).run P w = .ok (.value (.slice (some ⟨w.heap.size, 0, none⟩) len len)) (w.alloc (.cells (c ++ []).toArray e)) := by
  have e1 : az.map (fun (x : Nat × Operand) => (x.1, Act.eval ⟨t', Ds.map mark⟩ x.2)) = ps.toArray := by rw [← Array.toList_inj]; simp [hF.parts (Ds.map mark) hx]
  have h1 := fill_eq hf
  have h2 : (Array.range (len * size)).map (fun i => (if len * size = 0 then #[] else z.cells)[i % (if len * size = 0 then #[] else z.cells).size]!) = ((List.range (len * size)).map fun i => z.cells.toList.getD (i % z.cells.toList.length) default).toArray := by
    by_cases h0 : len * size = 0
    · rw [h0]; simp
    · rw [if_neg h0, ← Array.toList_inj]; simp
      intro a _
      rw [getElem!_def]
      cases z.cells[a % z.cells.size]? <;> rfl
  rw [← h2] at h1
  have hrun : (Instr.buildSlice t len ps.toArray).run P w = .ok (.slice (some ⟨w.heap.size, 0, none⟩) len len) (w.alloc (.cells (c ++ []).toArray e)) := by
    have hm' : ¬ len * size > 2 ^ 24 := by have := Nat.le_of_ble_eq_true hm; omega
    by_cases h0 : len * size = 0
    · simp only [if_pos h0] at h1
      simp only [Instr.buildSlice, Sem.run_bind, run_underlying hu, Result.andThen_ok, hs, if_neg hm', if_pos h0, Sem.run_pure]
      rw [h1]; simp [newRow]
    · simp only [if_neg h0] at h1
      simp only [Instr.buildSlice, Sem.run_bind, run_underlying hu, Result.andThen_ok, hs, if_neg hm', if_neg h0, Sem.run_pure, hz]
      rw [h1]; simp [newRow]
  rw [← e1] at hrun
  simp only [execOp, Sem.run_bind]
  refine (congrArg (fun x => Result.andThen x _) hrun).trans ?_
  rfl
/-- a slice's literal: a new block -/
theorem GoH.bsN {t e : TypeId} {len : Nat} {az : Array (Nat × Operand)} {ps : List (Nat × Value)} {z : Value} {size : Nat} {c : List Value} (ho : ops[i]? = some ⟨some d, .buildSlice t len az, ty, pos, aft, g⟩) (hw : wantL ops l g = true) (hx : partsL l az.toList = some ps) (hd : Nat.blt d n = true)
    (hu : P.underlying t = some (.slice e)) (hs : ∀ w, (sizeOf e).run P w = .ok size w) (hz : ∀ w, (zeroValue e).run P w = .ok z w) (hm : Nat.ble (len * size) 16777216 = true)
    (hf : fillL (fun i => some (i * size, size)) ((List.range (len * size)).map fun i => z.cells.toList.getD (i % z.cells.toList.length) default) ps = some c)
    (hk : ∀ b, GoH P r f R w0 S Y n (.inRegion ops rest :: k) ((d, .slice (some ⟨b, 0, none⟩) len len) :: l) ((some b, .cells (c ++ []).toArray e) :: h)) : GoH P r f R w0 S Y n (.inRegion ops (i :: rest) :: k) l h :=
  .mem ho hw rfl rfl hd (fun _ w Ds _ hF hS => ⟨.slice (some ⟨w.heap.size, 0, none⟩) len len, w.alloc (.cells (c ++ []).toArray e), _, bsN_run hF hx hu hs hz hm hf Ds w, hS.alloc rfl, hk _⟩)
/-! calls of function values -/
theorem GoH.callC {az : Array Operand} {ts : Array TypeId} {cal : Operand} {gf : FuncId} {fs cs vs : List Value} (Rc : World → Value → World → Prop) (ho : ops[i]? = some ⟨some d, .call ⟨.value cal, az, ts⟩, ty, pos, aft, g⟩) (hw : wantL ops l g = true)
    (hc : opd l cal = some (.func (.func gf) fs.toArray cs.toArray)) (hx : opds l az.toList = some vs) (hd : Nat.blt d n = true) (hcf : ∀ args w, (callFunc gf args).run P w = .ok (.enter gf args) w)
    (hcall : ∀ w Y', St w0 S w h Y' → Cn P gf (fs ++ vs ++ cs) w (Rc w))
    (hk : ∀ v w w' Y', St w0 S w h Y' → Ex [] w w' → Rc w v w' → ∃ h', St w0 S w' h' Y' ∧ GoH P r f R w0 S Y n (.inRegion ops rest :: k) ((d, v) :: l) h') : GoH P r f R w0 S Y n (.inRegion ops (i :: rest) :: k) l h :=
  .callG ho hw hc hx hd hcf (fun w Ds hS => ⟨fun u w' => Ex [] w w' ∧ Rc w u w', by
    have := hcall w Ds hS
    unfold Cn at this
    simpa using this, fun u w' ⟨he, hu⟩ => hk u w w' Ds hS he hu⟩)
theorem GoH.callCP {az : Array Operand} {ts : Array TypeId} {cal : Operand} {gf : FuncId} {fs cs vs : List Value} {v : Value} (ho : ops[i]? = some ⟨some d, .call ⟨.value cal, az, ts⟩, ty, pos, aft, g⟩) (hw : wantL ops l g = true)
    (hc : opd l cal = some (.func (.func gf) fs.toArray cs.toArray)) (hx : opds l az.toList = some vs) (hd : Nat.blt d n = true) (hcf : ∀ args w, (callFunc gf args).run P w = .ok (.enter gf args) w)
    (hcall : ∀ w Y', St w0 S w h Y' → Cn P gf (fs ++ vs ++ cs) w (fun u _ => u = v))
    (hk : GoH P r f R w0 S Y n (.inRegion ops rest :: k) ((d, v) :: l) h) : GoH P r f R w0 S Y n (.inRegion ops (i :: rest) :: k) l h :=
  .callC (fun _ u _ => u = v) ho hw hc hx hd hcf hcall (fun _ _ _ _ hS he e => ⟨h, hS.later he, e ▸ hk⟩)
end
/-! a function whose results lie in cells -/
def resH (P : Program) (l : Fl) (h : Hl) : List ResultVar → List Value → Prop
  | [], [] => True
  | .tmp t :: rs, v :: vs => look l t = some v ∧ resH P l h rs vs
  | .cell a ty :: rs, v :: vs => (∃ b, look l a = some (.pointer (some ⟨b, 0, none⟩)) ∧ ∃ (j : Nat) (cs : Array Value) (e : TypeId) (fr : Nat × Nat), h[j]? = some (some b, Obj.cells cs e fr) ∧
    ((∀ w, (isAgg ty).run P w = .ok true w) ∧ (∀ w, (sizeOf ty).run P w = .ok cs.size w) ∧ v = .agg cs ∨ (∀ w, (isAgg ty).run P w = .ok false w) ∧ cs[0]? = some v)) ∧ resH P l h rs vs
  | _, _ => False
section
variable {P : Program} {f : FuncId} {R : Value → World → Prop} {w0 : World} {S : List Nat} {Y : List (Nat × Obj)} {n : Nat} {k : List Item} {l : Fl} {h : Hl} {fn : Func}
theorem resH.nil : resH P l h [] [] := trivial
theorem resH.tmp {t : Tmp} {v : Value} {rs : List ResultVar} {vs : List Value} (hv : look l t = some v) (hr : resH P l h rs vs) : resH P l h (.tmp t :: rs) (v :: vs) := ⟨hv, hr⟩
theorem resH.cell {a : Tmp} {ty : TypeId} {b m j : Nat} {cs : Array Value} {e : TypeId} {fr : Nat × Nat} {rs : List ResultVar} {vs : List Value} (ha : look l a = some (.pointer (some ⟨b, 0, none⟩))) (h1 : ∀ w, (isAgg ty).run P w = .ok true w) (h2 : ∀ w, (sizeOf ty).run P w = .ok m w) (hj : h[j]? = some (some b, Obj.cells cs e fr)) (hm : cs.size = m) (hr : resH P l h rs vs) : resH P l h (.cell a ty :: rs) (.agg cs :: vs) :=
  ⟨⟨b, ha, j, cs, e, fr, hj, .inl ⟨h1, fun w => by rw [h2, hm], rfl⟩⟩, hr⟩
theorem resH.cell1 {a : Tmp} {ty : TypeId} {b j : Nat} {cs : Array Value} {e : TypeId} {fr : Nat × Nat} {v : Value} {rs : List ResultVar} {vs : List Value} (ha : look l a = some (.pointer (some ⟨b, 0, none⟩))) (h1 : ∀ w, (isAgg ty).run P w = .ok false w) (hj : h[j]? = some (some b, Obj.cells cs e fr)) (hv : cs[0]? = some v) (hr : resH P l h rs vs) : resH P l h (.cell a ty :: rs) (v :: vs) :=
  ⟨⟨b, ha, j, cs, e, fr, hj, .inr ⟨h1, hv⟩⟩, hr⟩
theorem mapM_resH {w : World} {t : Array Value} (hF : Frm n t l) (hS : St w0 S w h Y) : ∀ {rs : List ResultVar} {vs : List Value}, resH P l h rs vs →
    (rs.mapM (m := Sem) fun | .tmp t' => pure (t.getD t' undef) | .cell a ty => do loadVar ty (← asAddr (t.getD a undef))).run P w = .ok vs w
  | [], [], _ => rfl
  | .tmp q :: rs, v :: vs, ⟨hv, hr⟩ => by
    rw [List.mapM_cons]
    simp only [Sem.run_bind, Sem.run_pure, Result.andThen_ok, mapM_resH hF hS hr, hF.2 _ _ hv]
  | .cell a ty :: rs, v :: vs, ⟨⟨b, ha, j, cs, e, fr, hj, hv⟩, hr⟩ => by
    rw [List.mapM_cons]
    have hl2 : (loadVar ty ⟨b, 0, none⟩).run P w = .ok v w := by
      rcases hv with ⟨hag, hsz, rfl⟩ | ⟨hag, hv⟩
      · have hl := loadAgg_run (P := P) (w := w) (a := ⟨b, 0, none⟩) (cs := cs.toList) hag (fun w => by rw [hsz]; simp) (fun q v hv => by
          rw [addr_off, Nat.zero_add]
          simp [World.cell?, hS.get hj] at hv ⊢
          exact hv)
        rw [Array.toArray_toList] at hl
        simpa only [Instr.loadAt, Instr.sureAddr, Sem.run_bind, Sem.run_pure, Result.andThen_ok] using hl
      · have hc := cell_of_row w b 0 cs e fr (hS.get hj)
        rw [hv] at hc
        simp [loadVar, hag, hc]
    have hA : (asAddr (t.getD a undef)).run P w = .ok ⟨b, 0, none⟩ w := by rw [hF.2 _ _ ha]; rfl
    simp only [Sem.run_bind, Sem.run_pure, Result.andThen_ok, hA, hl2, mapM_resH hF hS hr]
  | [], _ :: _, hr => hr.elim
  | .tmp _ :: _, [], hr => hr.elim
  | .cell _ _ :: _, [], hr => hr.elim
theorem GoH.retH (fn : Func) (hf : P.funcs[f]? = some fn) (vs : List Value) (hres : resH P l h fn.results.toList vs) (hR : ∀ w, St w0 S w h Y → R (retV vs) w) : GoH P none f R w0 S Y n (.code .ret :: k) l h := fun t w Ds hF hS => by
  refine gos_leave hf hS (fun cs => by rw [mkF_at]; exact stepR_ret rfl) ?_ (hR _ hS.shut)
  unfold results
  rw [Array.mapM_eq_mapM_toList]
  have hm := mapM_resH (P := P) hF hS.shut hres
  simp only [Sem.run_bind, Sem.run_map, Sem.run_pure]
  refine (congrArg (fun x => (x.andThen fun a w' => Result.ok a.toArray w').andThen fun a w' => Result.ok (if h : a.size = 1 then a[0] else Value.tuple a) w') hm).trans ?_
  simp only [Result.andThen_ok]
  cases vs with
  | nil => rfl
  | cons v us => cases us with
    | nil => rfl
    | cons u us => simp [retV]
end
end Go.Proofs.Wit
