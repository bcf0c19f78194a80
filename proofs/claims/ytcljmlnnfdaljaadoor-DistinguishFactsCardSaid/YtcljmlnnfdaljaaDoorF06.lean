/- Laws of walks, for any program, under the conditions that each theorem states. -/
import Derived.Test.YtcljmlnnfdaljaaDoorF04
namespace Go.Proofs.Wit
open Go Go.RowKit
/-! plain facts on shortest paths -/
/-- the points from which k steps lead to a point of t -/
def near (r : List W64) (t : W64) : Nat → W64
  | 0 => t
  | k + 1 => mapR (revR r) (near r t k)
/-- the points from which d + 1 steps lead to a point of t, and not fewer; and those of the layers before -/
def seenU (r : List W64) (t : W64) : Nat → W64
  | 0 => 0#64
  | d + 1 => seenU r t d ||| (near r t (d + 1) &&& ~~~ seenU r t d)
def lay (r : List W64) (t : W64) (d : Nat) : W64 := near r t (d + 1) &&& ~~~ seenU r t d
structure Short (r : List W64) (f t : W64) (k : Nat) : Prop where
  one : 1 ≤ k
  ne : f &&& near r t k ≠ 0#64
  least : ∀ j, 1 ≤ j → j < k → f &&& near r t j = 0#64
section
variable {r : List W64} {t : W64}
theorem near_bit (hv : Val r) {k w : Nat} : (near r t (k + 1)).getLsbD w = true ↔ ∃ v, Rl r w v ∧ (near r t k).getLsbD v = true := by
  rw [near, mapR_bit]
  constructor
  · rintro ⟨v, h1, h2⟩
    have hd := h2.dom
    rw [revR_length] at hd
    exact ⟨v, (revR_bit hv hd).1 h2, h1⟩
  · rintro ⟨v, h1, h2⟩
    exact ⟨v, h2, (revR_bit hv (hv.lt _ _ h1)).2 h1⟩
theorem seen_bit {m w : Nat} : (seenU r t m).getLsbD w = true ↔ ∃ j, 1 ≤ j ∧ j ≤ m ∧ (near r t j).getLsbD w = true := by
  induction m with
  | zero => rw [seenU]; simp; intro j h1 h2; omega
  | succ m ih =>
    rw [seenU, BitVec.getLsbD_or, Bool.or_eq_true, ih, BitVec.getLsbD_and, BitVec.getLsbD_not, Bool.and_eq_true]
    constructor
    · rintro (⟨j, h1, h2, h3⟩ | ⟨h1, _⟩)
      · exact ⟨j, h1, by omega, h3⟩
      · exact ⟨m + 1, by omega, Nat.le_refl _, h1⟩
    · rintro ⟨j, h1, h2, h3⟩
      by_cases e : j = m + 1
      · subst e
        cases hs : (seenU r t m).getLsbD w with
        | true => exact .inl (ih.1 hs)
        | false => exact .inr ⟨h3, by rw [decide_eq_true (bit_lt h3)]; rfl⟩
      · exact .inl ⟨j, h1, by omega, h3⟩
theorem lay_bit {d w : Nat} : (lay r t d).getLsbD w = true ↔ (near r t (d + 1)).getLsbD w = true ∧ ∀ j, 1 ≤ j → j ≤ d → (near r t j).getLsbD w = false := by
  rw [lay, BitVec.getLsbD_and, BitVec.getLsbD_not, Bool.and_eq_true]
  refine and_congr_right (fun h => ?_)
  simp only [bit_lt h, decide_true, Bool.true_and, Bool.not_eq_true']
  rw [← Bool.not_eq_true, seen_bit]
  constructor
  · intro hn j h1 h2
    rw [← Bool.not_eq_true]; exact fun h3 => hn ⟨j, h1, h2, h3⟩
  · rintro hn ⟨j, h1, h2, h3⟩
    rw [hn j h1 h2] at h3; cases h3
theorem seen_succ (m : Nat) : seenU r t (m + 1) = seenU r t m ||| lay r t m := rfl
theorem lay_grows {m : Nat} (h : lay r t m ≠ 0#64) : seenU r t m ||| lay r t m ≠ seenU r t m := by
  intro e
  have h1 := andNot_zero.1 (or_eq_left e)
  apply h
  refine eq_of_bits (fun i _ => ?_)
  cases hb : (lay r t m).getLsbD i with
  | false => simp
  | true =>
    have := h1 i hb
    rw [lay, BitVec.getLsbD_and, BitVec.getLsbD_not, this] at hb
    simp at hb
/-- w is of the layer c - 1 (c = 0: of t) -/
def AtL (r : List W64) (t : W64) (c w : Nat) : Prop := (near r t c).getLsbD w = true ∧ ∀ j, 1 ≤ j → j < c → (near r t j).getLsbD w = false
theorem AtL.next (hv : Val r) {c w : Nat} (h : AtL r t (c + 1) w) : r.getD w 0#64 &&& near r t c ≠ 0#64 ∧ AtL r t c (tz (r.getD w 0#64 &&& near r t c)) ∧ Rl r w (tz (r.getD w 0#64 &&& near r t c)) := by
  obtain ⟨v, h1, h2⟩ := (near_bit hv).1 h.1
  have hne : r.getD w 0#64 &&& near r t c ≠ 0#64 := by
    intro e
    have := congrArg (fun x => BitVec.getLsbD x v) e
    rw [BitVec.getLsbD_and, h2, show (r.getD w 0#64).getLsbD v = true from h1] at this
    simp at this
  have hb := (tz_spec hne).2.1
  rw [BitVec.getLsbD_and, Bool.and_eq_true] at hb
  refine ⟨hne, ⟨hb.2, fun j hj hj2 => ?_⟩, hb.1⟩
  rw [← Bool.not_eq_true]
  intro h3
  have := h.2 (j + 1) (by omega) (by omega)
  rw [(near_bit hv).2 ⟨_, hb.1, h3⟩] at this
  cases this
theorem near_lt (hv : Val r) {k w : Nat} (h : (near r t (k + 1)).getLsbD w = true) : w < r.length := by
  obtain ⟨v, h1, _⟩ := (near_bit hv).1 h
  exact h1.dom
/-- an empty layer: no further one has a point -/
theorem no_more (hv : Val r) {m : Nat} (h : lay r t m = 0#64) : ∀ k w, 1 ≤ k → (near r t k).getLsbD w = true → ∃ j, 1 ≤ j ∧ j ≤ m ∧ (near r t j).getLsbD w = true := by
  have h0 : ∀ w, (near r t (m + 1)).getLsbD w = true → ∃ j, 1 ≤ j ∧ j ≤ m ∧ (near r t j).getLsbD w = true := by
    intro w hw
    apply Classical.byContradiction
    intro hn
    have : (lay r t m).getLsbD w = true := lay_bit.2 ⟨hw, fun j h1 h2 => by
      rw [← Bool.not_eq_true]; exact fun h3 => hn ⟨j, h1, h2, h3⟩⟩
    rw [h] at this; simp at this
  intro k
  induction k with
  | zero => intro w hk; omega
  | succ k ih =>
    intro w _ hw
    by_cases hk : k < m
    · exact ⟨k + 1, by omega, by omega, hw⟩
    by_cases hkm : k = m
    · subst hkm; exact h0 w hw
    obtain ⟨v, h1, h2⟩ := (near_bit hv).1 hw
    obtain ⟨j, h3, h4, h5⟩ := ih v (by omega) h2
    by_cases hj : j = m
    · subst hj; exact h0 w ((near_bit hv).2 ⟨v, h1, h5⟩)
    · exact ⟨j + 1, by omega, by omega, (near_bit hv).2 ⟨v, h1, h5⟩⟩
theorem AtL.start {f : W64} {m : Nat} (h : Short r f t m) : AtL r t m (tz (f &&& near r t m)) := by
  have hb := (tz_spec h.ne).2.1
  rw [BitVec.getLsbD_and, Bool.and_eq_true] at hb
  refine ⟨hb.2, fun j h1 h2 => ?_⟩
  have := congrArg (fun x => BitVec.getLsbD x (tz (f &&& near r t m))) (h.least j h1 h2)
  simp only [BitVec.getLsbD_and, hb.1, Bool.true_and] at this
  rw [this]; simp
end
theorem countP_lt {α : Type} {p q : α → Bool} : ∀ {l : List α}, (∀ x ∈ l, p x = true → q x = true) → (∃ x ∈ l, q x = true ∧ p x = false) → l.countP p < l.countP q
  | [], _, ⟨_, h, _⟩ => by cases h
  | a :: l, h, ⟨x, hx, h1, h2⟩ => by
    have hle : l.countP p ≤ l.countP q := List.countP_mono_left (fun y hy => h y (List.mem_cons_of_mem _ hy))
    rw [List.countP_cons, List.countP_cons]
    rcases List.mem_cons.1 hx with rfl | hx
    · rw [h1, h2]; simp; omega
    · have := countP_lt (fun y hy => h y (List.mem_cons_of_mem _ hy)) ⟨x, hx, h1, h2⟩
      have h3 := h a (List.mem_cons_self ..)
      cases hp : p a with
      | false => simp; split <;> omega
      | true => rw [h3 hp]; omega
/-- how many points a set has -/
def card (s : W64) : Nat := (List.range 64).countP (fun i => s.getLsbD i)
theorem card_lt {s t : W64} (h : s ||| t ≠ s) : card s < card (s ||| t) := by
  refine countP_lt (fun i _ hi => by rw [BitVec.getLsbD_or, hi]; rfl) ?_
  apply Classical.byContradiction
  intro hn
  apply h
  refine eq_of_bits (fun i hi => ?_)
  cases hs : s.getLsbD i with
  | true => rw [BitVec.getLsbD_or, hs]; rfl
  | false =>
    cases hu : (s ||| t).getLsbD i with
    | false => rfl
    | true => exact absurd ⟨i, List.mem_range.2 hi, hu, hs⟩ hn
theorem card_le_n {s : W64} {n : Nat} (hn : n ≤ 64) (h : ∀ i, s.getLsbD i = true → i < n) : card s ≤ n := by
  have e : List.range 64 = List.range (n + (64 - n)) := by rw [show n + (64 - n) = 64 from by omega]
  unfold card
  rw [e, List.range_add, List.countP_append]
  have h2 : ((List.range (64 - n)).map (n + ·)).countP (fun i => s.getLsbD i) = 0 := by
    rw [List.countP_eq_zero]
    intro x hx
    obtain ⟨y, _, rfl⟩ := List.mem_map.1 hx
    intro hb
    have := h _ hb
    omega
  rw [h2]
  exact Nat.le_trans (Nat.add_le_add_right List.countP_le_length _) (by simp)
theorem card_seen {r : List W64} {t : W64} : ∀ {m : Nat}, (∀ d, d < m → lay r t d ≠ 0#64) → m ≤ card (seenU r t m)
  | 0, _ => Nat.zero_le _
  | m + 1, h => by
    have h1 := card_seen (m := m) (fun d hd => h d (by omega))
    have := card_lt (lay_grows (h m (by omega)))
    rw [← seen_succ] at this
    omega
/-- a shortest path is no longer than there are points -/
theorem Short.le {r : List W64} (hv : Val r) {f t : W64} {k : Nat} (h : Short r f t k) : k ≤ r.length := by
  have hne : ∀ d, d < k → lay r t d ≠ 0#64 := by
    intro d hd e
    obtain ⟨h1, h2⟩ := AtL.start h
    obtain ⟨j, h3, h4, h5⟩ := no_more hv e k _ h.one h1
    rw [h2 j h3 (by omega)] at h5; cases h5
  refine Nat.le_trans (card_seen hne) (card_le_n hv.len (fun i hi => ?_))
  obtain ⟨j, h1, _, h3⟩ := seen_bit.1 hi
  obtain ⟨j', rfl⟩ : ∃ j', j = j' + 1 := ⟨j - 1, by omega⟩
  exact near_lt hv h3
def layers (r : List W64) (t : W64) (m : Nat) : List W64 := (List.range m).map (lay r t)
end Go.Proofs.Wit
namespace Go.Proofs.Wit
open Go Go.RowKit
theorem in_bit {s : W64} {i : Nat} : ((s >>> i) &&& 1#64 == 1#64) = s.getLsbD i := by
  cases hb : s.getLsbD i with
  | true =>
    rw [beq_iff_eq]
    refine eq_of_bits (fun j _ => ?_)
    rw [BitVec.getLsbD_and, BitVec.getLsbD_ushiftRight, BitVec.getLsbD_one]
    by_cases e : j = 0
    · subst e; simp [hb]
    · simp [e]
  | false =>
    rw [beq_eq_false_iff_ne]
    intro e
    have := congrArg (fun x => BitVec.getLsbD x 0) e
    simp [hb] at this
theorem GoodS.least {g : List W64 → List W64} {F : List W64 → Prop} (h : GoodS g F) {r : List W64} (hv : Val r) (hF : F (g r)) : Least F r (g r) :=
  ⟨h.val hv, h.infl hv, hF, fun c hc hl hFc => by
    have := h.mono hv hc hl
    rwa [(h.fix hc).2 hFc] at this⟩
end Go.Proofs.Wit
namespace Go.Proofs.Wit
/-- the reference's step at a pair -/
def pairAt (e : Bool) (w u : Nat) : Nat := if e = true then u else w
def pairSrc (e : Bool) (w u : Nat) : Nat := if e = true then w else u
def pairS (e : Bool) (w u : Nat) (l : List W64) : List W64 := l.set (pairAt e w u) (l.getD (pairAt e w u) 0#64 ||| l.getD (pairSrc e w u) 0#64)
def stG (e : Bool) (w u : Nat) (l : List W64) : List W64 := if (l.getD w 0#64).getLsbD u = true then pairS e w u l else l
def clG (e : Bool) (w u : Nat) (l : List W64) : Prop := Rl l w u → ∀ x, Rl l (pairSrc e w u) x → Rl l (pairAt e w u) x
def allG (e : Bool) (l : List W64) : Prop := if e = true then euclR l else tranR l
theorem allG_iff {e : Bool} {l : List W64} : allG e l ↔ ∀ w u, clG e w u l := by
  unfold allG clG pairAt pairSrc
  cases e
  · simp only [Bool.false_eq_true, if_false]
    exact ⟨fun h w u h1 x h2 => h w u x h1 h2, fun h w u x h1 h2 => h w u h1 x h2⟩
  · simp only [if_true]
    exact ⟨fun h w u h1 x h2 => h w u x h1 h2, fun h w u x h1 h2 => h w u h1 x h2⟩
theorem pair_good (e : Bool) (w u : Nat) : GoodS (stG e w u) (clG e w u) := by
  refine (GoodS.ofBits (fun l a b => Rl l w u ∧ a = pairAt e w u ∧ Rl l (pairSrc e w u) b) (fun l => ?_) (fun l hv a b => ?_) (fun l hv a b h => hv.lt _ _ h.2.2) (fun l m _ _ le a b h => ⟨le.sub _ _ h.1, h.2.1, le.sub _ _ h.2.2⟩)).iff (fun {l} _ => ?_)
  · unfold stG; split
    · rw [pairS, List.length_set]
    · rfl
  · unfold stG
    by_cases h : (l.getD w 0#64).getLsbD u = true
    · rw [if_pos h, pairS, set_bit]
      refine or_congr Iff.rfl ⟨fun ⟨h1, _, h2⟩ => ⟨h, h1, h2⟩, fun ⟨_, h1, h2⟩ => ⟨h1, ?_, h2⟩⟩
      unfold pairAt; split
      · exact hv.lt w u h
      · exact Rl.dom (v := u) h
    · rw [if_neg h]
      exact ⟨.inl, fun x => x.elim (fun x => x) (fun x => absurd x.1 h)⟩
  · exact ⟨fun h h1 x h2 => h _ x ⟨h1, rfl, h2⟩, fun h a b ⟨h1, h2, h3⟩ => h2 ▸ h h1 b h3⟩
/-- what is known of the list in a pass of the reference -/
structure Pass (e : Bool) (r o0 out : List W64) (again : Bool) (k j : Nat) : Prop where
  val : Val out
  le : Le r out
  min : ∀ c, Val c → Le r c → allG e c → Le out c
  up : Le o0 out
  yes : again = true → o0 ≠ out
  no : again = false → out = o0 ∧ ∀ w u, (w < k ∨ (w = k ∧ u < j)) → clG e w u out
theorem Pass.go {e : Bool} {r o0 out : List W64} {again : Bool} {k j : Nat} (h : Pass e r o0 out again k j) (again' : Bool) (hy : again' = true → again = true ∨ stG e k j out ≠ out) (hn : again' = false → again = false ∧ stG e k j out = out) :
    Pass e r o0 (stG e k j out) again' k (j + 1) where
  val := (pair_good e k j).val h.val
  le := h.le.trans ((pair_good e k j).infl h.val)
  min c h1 h2 h3 := by
    have := (pair_good e k j).mono h.val h1 (h.min c h1 h2 h3)
    rwa [((pair_good e k j).fix h1).2 (allG_iff.1 h3 k j)] at this
  up := h.up.trans ((pair_good e k j).infl h.val)
  yes ha := by
    intro e1
    have hle := (pair_good e k j).infl h.val
    have : Le out o0 := by rw [e1]; exact hle
    have e2 : o0 = out := h.up.antisymm this
    rcases hy ha with h3 | h3
    · exact h.yes h3 e2
    · exact h3 (e1.symm.trans e2)
  no ha := by
    obtain ⟨h1, h2⟩ := hn ha
    obtain ⟨h3, h4⟩ := h.no h1
    refine ⟨h2.trans h3, fun w u hwu => ?_⟩
    rw [h2]
    rcases hwu with h5 | ⟨rfl, h5⟩
    · exact h4 w u (.inl h5)
    · rcases Nat.lt_succ_iff_lt_or_eq.1 h5 with h6 | rfl
      · exact h4 w u (.inr ⟨rfl, h6⟩)
      · exact ((pair_good e w u).fix h.val).1 h2
theorem Pass.row {e : Bool} {r o0 out : List W64} {again : Bool} {k j : Nat} (h : Pass e r o0 out again k j) (hj : out.length ≤ j) : Pass e r o0 out again (k + 1) 0 :=
  { h with no := fun ha => ⟨(h.no ha).1, fun w u hwu => by
      rcases hwu with h5 | ⟨_, h5⟩
      · rcases Nat.lt_succ_iff_lt_or_eq.1 h5 with h6 | rfl
        · exact (h.no ha).2 w u (.inl h6)
        · by_cases hu : u < j
          · exact (h.no ha).2 w u (.inr ⟨rfl, hu⟩)
          · intro h7
            have := h.val.lt _ _ h7
            omega
      · omega⟩ }
theorem Pass.done {e : Bool} {r o0 out : List W64} {k : Nat} (h : Pass e r o0 out false k 0) (hk : out.length ≤ k) : allG e out :=
  allG_iff.2 (fun w u => by
    by_cases hw : w < k
    · exact (h.no rfl).2 w u (.inl hw)
    · intro h7
      have := h7.dom
      omega)
/-- a round of the reference's walk finds a point -/
def WalkOk (r : List W64) (t : W64) : Nat → W64 → Prop
  | 0, _ => True
  | c + 1, s => s &&& near r t c ≠ 0#64 ∧ AtL r t c (tz (s &&& near r t c))
theorem WalkOk.next {r : List W64} {t s : W64} {c : Nat} (hv : Val r) (h : WalkOk r t (c + 1) s) : WalkOk r t c (r.getD (tz (s &&& near r t c)) 0#64) := by
  cases c with
  | zero => trivial
  | succ c => exact ⟨(h.2.next hv).1, (h.2.next hv).2.1⟩
end Go.Proofs.Wit
namespace Go.Proofs.Wit
end Go.Proofs.Wit
namespace Go.Proofs.Wit
open Go Go.RowKit
/-! values of many cells: structs, slices of structs -/
section
variable {P : Program} {r : Option Nat} {f : FuncId} {R : Value → World → Prop} {w0 : World} {S : List Nat} {Y : List (Nat × Obj)} {n : Nat} {k : List Item} {l : Fl} {h : Hl}
variable {ops : Array Oper} {i d : Nat} {rest : List Nat} {ty : TypeId} {pos : String} {aft : Array Edge} {g : Option (Nat × Bool)}
theorem addr_off (b o q : Nat) : (⟨b, o, none⟩ : Addr).add q = ⟨b, o + q, none⟩ := by
  unfold Addr.add; split
  · rename_i h0; subst h0; rfl
  · rfl
theorem adr_adr (a : Option Addr) (i q : Nat) : (adr a i).add q = adr a (i + q) := by
  unfold adr; rw [addr_off, Nat.add_assoc]
/-- the address of a field -/
theorem Vop.fldP {s : TypeId} {x : Operand} {b o q : Nat} {fs : Array Field} {fd : Field} {sz : Nat} (ho : ops[i]? = some ⟨some d, .fieldAddr s x q, ty, pos, aft, g⟩) (hw : wantL ops l g = true)
    (hx : opd l x = some (.pointer (some ⟨b, o, none⟩))) (hd : Nat.blt d n = true) (hu : P.underlying s = some (.struct fs)) (hq : fs[q]? = some fd) (he : ∀ w, (sizeOf fd.type).run P w = .ok (sz + 1) w) (o' : Nat) (hO : o + fd.offset = o') :
    Vop P w0 S n h ops i l d (.pointer (some ⟨b, o', none⟩)) := by
  subst hO
  exact .of ho hw rfl rfl hd (fun t w Ds _ hF hS => ⟨.value (.pointer (some ⟨b, o + fd.offset, none⟩)), by
    simp only [execOp, hF.opd hx, Instr.fieldAt, Sem.run_bind, run_underlying hu, Result.andThen_ok, hq, Instr.sureAddr, Sem.run_pure, fieldPlace, he]
    rw [if_neg (by omega)]
    simp [addr_off], rfl⟩)
/-- a field of a struct that is a value -/
theorem Vop.fld {s : TypeId} {x : Operand} {q : Nat} {cs : Array Value} {fs : Array Field} {fd : Field} {v : Value} (ho : ops[i]? = some ⟨some d, .field s x q, ty, pos, aft, g⟩) (hw : wantL ops l g = true)
    (hx : opd l x = some (.agg cs)) (hd : Nat.blt d n = true) (hu : P.underlying s = some (.struct fs)) (hq : fs[q]? = some fd) (ha : ∀ w, (isAgg fd.type).run P w = .ok false w) (hv : cs[fd.offset]? = some v) :
    Vop P w0 S n h ops i l d v :=
  .of ho hw rfl rfl hd (fun t w Ds _ hF hS => ⟨.value v, by
    simp only [execOp, hF.opd hx, Instr.field, Sem.run_bind, run_underlying hu, Result.andThen_ok, hq, asAgg, Sem.run_pure, part, ha, hv]
    rfl, rfl⟩)
theorem loadAgg_run {t : TypeId} {w : World} {a : Addr} {cs : List Value} (ha : ∀ w, (isAgg t).run P w = .ok true w) (hz : ∀ w, (sizeOf t).run P w = .ok cs.length w) (hc : ∀ j v, cs[j]? = some v → w.cell? (a.add j) = some v) :
    (Instr.loadAt t (.pointer (some a))).run P w = .ok (.agg cs.toArray) w := by
  simp only [Instr.loadAt, Instr.sureAddr, loadVar, Sem.run_bind, Sem.run_pure, Result.andThen_ok, ha, hz, if_true, run_loadCells_list w a cs hc]
/-- a struct in memory -/
theorem Vop.ldN {t : TypeId} {x : Operand} {p : Addr} {cs : List Value} (ho : ops[i]? = some ⟨some d, .load t x, ty, pos, aft, g⟩) (hw : wantL ops l g = true)
    (hx : opd l x = some (.pointer (some p))) (hd : Nat.blt d n = true) (ha : ∀ w, (isAgg t).run P w = .ok true w) (hz : ∀ w, (sizeOf t).run P w = .ok cs.length w) (hc : ∀ w Y', St w0 S w h Y' → ∀ j v, cs[j]? = some v → w.cell? (p.add j) = some v) : Vop P w0 S n h ops i l d (.agg cs.toArray) :=
  .of ho hw rfl rfl hd (fun t w Ds _ hF hS => ⟨.value (.agg cs.toArray), by
    simp only [execOp, hF.opd hx, Sem.run_bind, loadAgg_run ha hz (hc w _ hS)]; rfl, rfl⟩)
/-- a struct in a block of one's own -/
theorem Vop.ldB {t : TypeId} {x : Operand} {b : Nat} {cs : Array Value} {e : TypeId} {fr : Nat × Nat} {m : Nat} (ho : ops[i]? = some ⟨some d, .load t x, ty, pos, aft, g⟩) (hw : wantL ops l g = true)
    (hx : opd l x = some (.pointer (some ⟨b, 0, none⟩))) (hd : Nat.blt d n = true) (ha : ∀ w, (isAgg t).run P w = .ok true w) (j : Nat) (hj : h[j]? = some (some b, .cells cs e fr)) (hz : ∀ w, (sizeOf t).run P w = .ok m w) (hm : cs.size = m) : Vop P w0 S n h ops i l d (.agg cs) := by
  subst hm
  have := Vop.ldN (P := P) (w0 := w0) (S := S) (h := h) (cs := cs.toList) ho hw hx hd ha (fun w => by rw [hz]; simp) (fun w Y' hS q v hv => by
    rw [addr_off, Nat.zero_add]
    simp [World.cell?, hS.get hj] at hv ⊢
    exact hv)
  rw [Array.toArray_toList] at this
  exact this
/-- a whole struct is stored into a block of one's own -/
theorem GoH.stB {t : TypeId} {x y : Operand} {b : Nat} {cs : Array Value} {e : TypeId} {v : Value} {m : Nat} (ho : ops[i]? = some ⟨none, .store t x y, ty, pos, aft, g⟩) (hw : wantL ops l g = true)
    (hx : opd l x = some (.pointer (some ⟨b, 0, none⟩))) (hy : opd l y = some v) (hz : ∀ w, (sizeOf t).run P w = .ok m w) (j : Nat) (hj : h[j]? = some (some b, .cells cs e (0, 0))) (hm : cs.size = m) (hv : v.cells.size = m) (h1 : v.cells.toList.all Value.oneCell' = true)
    (hk : GoH P r f R w0 S Y n (.inRegion ops rest :: k) l (h.set j (some b, .cells v.cells e (0, 0)))) : GoH P r f R w0 S Y n (.inRegion ops (i :: rest) :: k) l h :=
  .eff ho hw rfl rfl (fun t' w Ds _ hF hS => by
    have hb := hS.get hj
    have hrun := run_storeCells_at (P := P) b 0 e v.cells.toList 0 cs w hb (by simp; omega) (fun u hu => List.all_eq_true.1 h1 u hu)
    have hrow : (cs.toList.take (0 + 0) ++ v.cells.toList ++ cs.toList.drop (0 + 0 + v.cells.toList.length)).toArray = v.cells := by
      rw [← Array.toList_inj]
      simp
      omega
    rw [hrow] at hrun
    refine ⟨w.setRow b v.cells, _, ?_, hS.turn hj (o' := .cells v.cells e (0, 0)) rfl rfl rfl rfl (by simp [World.setRow]) (setRow_heap w b _ _ e _ hb) (fun q _ hq => setRow_other w b q _ hq), hk⟩
    simp only [execOp, hF.opd hx, hF.opd hy, Sem.run_bind, Instr.storeAt, Instr.sureAddr, storeVar, Sem.run_pure, Result.andThen_ok, hz, hv]
    simp only [ne_eq, not_true_eq_false, if_false, hrun]; rfl)

/-! building -/
def setAt (cells : List Value) (off : Nat) (vs : List Value) : List Value := cells.take off ++ vs ++ cells.drop (off + vs.length)
def fillL (place : Nat → Option (Nat × Nat)) (cells : List Value) : List (Nat × Value) → Option (List Value)
  | [] => some cells
  | (i, v) :: rest => match place i with
    | none => none
    | some (off, size) => match Nat.beq v.cells.toList.length size && Nat.ble (off + size) cells.length with
      | true => fillL place (setAt cells off v.cells.toList) rest
      | false => none
theorem foldl_set : ∀ (vs : List Value) (cs : List Value) (off j : Nat), off + j + vs.length ≤ cs.length →
    (vs.zipIdx j).foldl (fun (cs : Array Value) (c : Value × Nat) => cs.setIfInBounds (off + c.2) c.1) cs.toArray = (setAt cs (off + j) vs).toArray
  | [], cs, off, j, _ => by simp [setAt]
  | v :: vs, cs, off, j, hl => by
    simp only [List.length_cons] at hl
    rw [List.zipIdx_cons, List.foldl_cons]
    have h1 : cs.toArray.setIfInBounds (off + j) v = (cs.set (off + j) v).toArray := by simp
    rw [h1, foldl_set vs (cs.set (off + j) v) off (j + 1) (by simp; omega)]
    congr 1
    have hlt : off + j < cs.length := by omega
    have hset : cs.set (off + j) v = cs.take (off + j) ++ v :: cs.drop (off + j + 1) := by
      rw [List.set_eq_take_append_cons_drop, if_pos hlt]
    have hlen : (cs.take (off + j)).length = off + j := by simp; omega
    have t1 : (cs.set (off + j) v).take (off + (j + 1)) = cs.take (off + j) ++ [v] := by
      rw [hset, List.take_append, List.take_of_length_le (by omega), hlen, show off + (j + 1) - (off + j) = 1 from by omega]; simp
    have t2 : (cs.set (off + j) v).drop (off + (j + 1) + vs.length) = cs.drop (off + j + (vs.length + 1)) := by
      rw [hset, List.drop_append, List.drop_eq_nil_of_le (by omega), hlen, show off + (j + 1) + vs.length - (off + j) = vs.length + 1 from by omega]
      simp [Nat.add_assoc, Nat.add_comm 1]
    unfold setAt
    rw [t1, t2]; simp
theorem fill_eq {place : Nat → Option (Nat × Nat)} : ∀ {ps : List (Nat × Value)} {cells c : List Value}, fillL place cells ps = some c → Instr.fill place cells.toArray ps = some c.toArray
  | [], cells, c, e => by cases e; rfl
  | (i, v) :: rest, cells, c, e => by
    unfold fillL at e
    unfold Instr.fill
    split at e
    · cases e
    · rename_i off size hp
      rw [hp]
      split at e
      · rename_i hb
        rw [Bool.and_eq_true, Nat.beq_eq, Nat.ble_eq] at hb
        obtain ⟨h1, h2⟩ := hb
        rw [Array.length_toList] at h1
        simp only
        rw [if_neg (by simp; omega)]
        have h3 := foldl_set v.cells.toList cells off 0 (by simp; omega)
        rw [Nat.add_zero] at h3
        have h4 : v.cells.zipIdx.foldl (fun cs (x : Value × Nat) => cs.setIfInBounds (off + x.2) x.1) cells.toArray = (setAt cells off v.cells.toList).toArray := by
          rw [← h3, ← Array.foldl_toList]; simp
        rw [h4]
        exact fill_eq e
      · cases e
def Szs (P : Program) : List Field → List Nat → Prop
  | [], [] => True
  | f :: fs, s :: ss => (∀ w, (sizeOf f.type).run P w = .ok s w) ∧ Szs P fs ss
  | _, _ => False
theorem Szs.nil : Szs P [] [] := trivial
theorem Szs.cons {f : Field} {fs : List Field} {s : Nat} {ss : List Nat} (h : ∀ w, (sizeOf f.type).run P w = .ok s w) (hs : Szs P fs ss) : Szs P (f :: fs) (s :: ss) := ⟨h, hs⟩
theorem szs_run : ∀ {fs : List Field} {ss : List Nat}, Szs P fs ss → ∀ w, (fs.mapM (m := Sem) fun f => do pure (f.offset, ← sizeOf f.type)).run P w = .ok ((fs.zip ss).map fun x => (x.1.offset, x.2)) w
  | [], [], _, w => rfl
  | f :: fs, s :: ss, hs, w => by
    rw [List.mapM_cons]
    simp only [Sem.run_bind, Sem.run_pure, Result.andThen_ok, hs.1, szs_run hs.2]; rfl
  | [], _ :: _, hs, _ => hs.elim
  | _ :: _, [], hs, _ => hs.elim
/-- what a struct's literal is -/
def Bld (P : Program) (t : TypeId) (ps : List (Nat × Value)) (v : Value) : Prop := ∀ w, (Instr.build t ps.toArray).run P w = .ok v w
theorem bld {t : TypeId} {fs : Array Field} {ss : List Nat} {z : Value} {ps : List (Nat × Value)} {c : List Value} (hu : P.underlying t = some (.struct fs)) (hs : Szs P fs.toList ss) (hz : ∀ w, (zeroValue t).run P w = .ok z w)
    (hf : fillL (fun i => ((fs.toList.zip ss)[i]?).map fun x => (x.1.offset, x.2)) z.cells.toList ps = some c) : Bld P t ps (.agg c.toArray) := by
  intro w
  have h1 := fill_eq hf
  rw [Array.toArray_toList] at h1
  simp only [Instr.build, Sem.run_bind, hz, Result.andThen_ok, run_underlying hu]
  rw [Array.mapM_eq_mapM_toList]
  simp only [Sem.run_map, szs_run hs]
  have h2 : (fun (i : Nat) => (List.map (fun x => (x.1.offset, x.2)) (fs.toList.zip ss)).toArray[i]?) = fun i => ((fs.toList.zip ss)[i]?).map fun x => (x.1.offset, x.2) := by
    funext i; simp
  show ((match Instr.fill (fun (i : Nat) => (List.map (fun x => (x.1.offset, x.2)) (fs.toList.zip ss)).toArray[i]?) z.cells ps with
    | some cells => pure (.agg cells)
    | _ => stuck "build: no such field, or a part of the wrong size" : Sem Value)).run P w = _
  rw [h2, h1]; rfl
def partsL (l : Fl) : List (Nat × Operand) → Option (List (Nat × Value))
  | [] => some []
  | (q, x) :: xs => match Wit.opd l x, partsL l xs with
    | some v, some vs => some ((q, v) :: vs)
    | _, _ => none
theorem Frm.parts {t : Array Value} (hF : Frm n t l) (ds : List Deferred) : ∀ {xs : List (Nat × Operand)} {vs : List (Nat × Value)}, partsL l xs = some vs → xs.map (fun x => (x.1, Act.eval ⟨t, ds⟩ x.2)) = vs
  | [], vs, e => by cases e; rfl
  | (q, x) :: xs, vs, e => by
    simp only [partsL] at e
    split at e
    · rename_i v us hx hxs
      cases e
      rw [List.map_cons, hF.opd hx, hF.parts ds hxs]
    · cases e
theorem Vop.bld {t : TypeId} {az : Array (Nat × Operand)} {ps : List (Nat × Value)} {v : Value} (ho : ops[i]? = some ⟨some d, .build t az, ty, pos, aft, g⟩) (hw : wantL ops l g = true) (hx : partsL l az.toList = some ps) (hd : Nat.blt d n = true) (hb : Bld P t ps v) :
    Vop P w0 S n h ops i l d v :=
  .of ho hw rfl rfl hd (fun t w Ds _ hF hS => ⟨.value v, by
    have e1 : az.map (fun (x : Nat × Operand) => (x.1, Act.eval ⟨t, Ds.map mark⟩ x.2)) = ps.toArray := by rw [← Array.toList_inj]; simp [hF.parts (Ds.map mark) hx]
    have := hb w
    rw [← e1] at this
    simp only [execOp, Sem.run_bind]
    refine (congrArg (fun x => Result.andThen x _) this).trans ?_
    rfl, rfl⟩)
theorem bsN_run {t e : TypeId} {len : Nat} {az : Array (Nat × Operand)} {ps : List (Nat × Value)} {z : Value} {size : Nat} {c : List Value} {t' : Array Value} (hF : Frm n t' l) (hx : partsL l az.toList = some ps)
    (hu : P.underlying t = some (.slice e)) (hs : ∀ w, (sizeOf e).run P w = .ok size w) (hz : ∀ w, (zeroValue e).run P w = .ok z w) (hm : Nat.ble (len * size) 16777216 = true)
    (hf : fillL (fun i => some (i * size, size)) ((List.range (len * size)).map fun i => z.cells.toList.getD (i % z.cells.toList.length) default) ps = some c) (Ds : List Nat) (w : World) :
    (execOp (Act.eval ⟨t', Ds.map mark⟩) ⟨some d, .buildSlice t len az, ty, pos, aft, g⟩).run P w = .ok (.value (.slice (some ⟨w.heap.size, 0, none⟩) len len)) (w.alloc (.cells (c ++ []).toArray e)) := by
  have e1 : az.map (fun (x : Nat × Operand) => (x.1, Act.eval ⟨t', Ds.map mark⟩ x.2)) = ps.toArray := by rw [← Array.toList_inj]; simp [hF.parts (Ds.map mark) hx]
  have h1 := fill_eq hf
  have h2 : (Array.range (len * size)).map (fun i => (if len * size = 0 then #[] else z.cells)[i % (if len * size = 0 then #[] else z.cells).size]!) = ((List.range (len * size)).map fun i => z.cells.toList.getD (i % z.cells.toList.length) default).toArray := by
    by_cases h0 : len * size = 0
    · rw [h0]; simp
    · rw [if_neg h0, ← Array.toList_inj]; simp
      intro a _
      rw [getElem!_def]
      cases z.cells[a % z.cells.size]? <;> rfl
  rw [← h2] at h1
  have hrun : (Instr.buildSlice t len ps.toArray).run P w = .ok (.slice (some ⟨w.heap.size, 0, none⟩) len len) (w.alloc (.cells (c ++ []).toArray e)) := by
    have hm' : ¬ len * size > 2 ^ 24 := by have := Nat.le_of_ble_eq_true hm; omega
    by_cases h0 : len * size = 0
    · simp only [if_pos h0] at h1
      simp only [Instr.buildSlice, Sem.run_bind, run_underlying hu, Result.andThen_ok, hs, if_neg hm', if_pos h0, Sem.run_pure]
      rw [h1]; simp [newRow]
    · simp only [if_neg h0] at h1
      simp only [Instr.buildSlice, Sem.run_bind, run_underlying hu, Result.andThen_ok, hs, if_neg hm', if_neg h0, Sem.run_pure, hz]
      rw [h1]; simp [newRow]
  rw [← e1] at hrun
  simp only [execOp, Sem.run_bind]
  refine (congrArg (fun x => Result.andThen x _) hrun).trans ?_
  rfl
/-- a slice's literal: a new block -/
theorem GoH.bsN {t e : TypeId} {len : Nat} {az : Array (Nat × Operand)} {ps : List (Nat × Value)} {z : Value} {size : Nat} {c : List Value} (ho : ops[i]? = some ⟨some d, .buildSlice t len az, ty, pos, aft, g⟩) (hw : wantL ops l g = true) (hx : partsL l az.toList = some ps) (hd : Nat.blt d n = true)
    (hu : P.underlying t = some (.slice e)) (hs : ∀ w, (sizeOf e).run P w = .ok size w) (hz : ∀ w, (zeroValue e).run P w = .ok z w) (hm : Nat.ble (len * size) 16777216 = true)
    (hf : fillL (fun i => some (i * size, size)) ((List.range (len * size)).map fun i => z.cells.toList.getD (i % z.cells.toList.length) default) ps = some c)
    (hk : ∀ b, GoH P r f R w0 S Y n (.inRegion ops rest :: k) ((d, .slice (some ⟨b, 0, none⟩) len len) :: l) ((some b, .cells (c ++ []).toArray e) :: h)) : GoH P r f R w0 S Y n (.inRegion ops (i :: rest) :: k) l h :=
  .mem ho hw rfl rfl hd (fun _ w Ds _ hF hS => ⟨.slice (some ⟨w.heap.size, 0, none⟩) len len, w.alloc (.cells (c ++ []).toArray e), _, bsN_run hF hx hu hs hz hm hf Ds w, hS.alloc rfl, hk _⟩)
/-! calls of function values -/
theorem GoH.callC {az : Array Operand} {ts : Array TypeId} {cal : Operand} {gf : FuncId} {fs cs vs : List Value} (Rc : World → Value → World → Prop) (ho : ops[i]? = some ⟨some d, .call ⟨.value cal, az, ts⟩, ty, pos, aft, g⟩) (hw : wantL ops l g = true)
    (hc : opd l cal = some (.func (.func gf) fs.toArray cs.toArray)) (hx : opds l az.toList = some vs) (hd : Nat.blt d n = true) (hcf : ∀ args w, (callFunc gf args).run P w = .ok (.enter gf args) w)
    (hcall : ∀ w Y', St w0 S w h Y' → Cn P gf (fs ++ vs ++ cs) w (Rc w))
    (hk : ∀ v w w' Y', St w0 S w h Y' → Ex [] w w' → Rc w v w' → ∃ h', St w0 S w' h' Y' ∧ GoH P r f R w0 S Y n (.inRegion ops rest :: k) ((d, v) :: l) h') : GoH P r f R w0 S Y n (.inRegion ops (i :: rest) :: k) l h :=
  .callG ho hw hc hx hd hcf (fun w Ds hS => ⟨fun u w' => Ex [] w w' ∧ Rc w u w', by
    have := hcall w Ds hS
    unfold Cn at this
    simpa using this, fun u w' ⟨he, hu⟩ => hk u w w' Ds hS he hu⟩)
theorem GoH.callCP {az : Array Operand} {ts : Array TypeId} {cal : Operand} {gf : FuncId} {fs cs vs : List Value} {v : Value} (ho : ops[i]? = some ⟨some d, .call ⟨.value cal, az, ts⟩, ty, pos, aft, g⟩) (hw : wantL ops l g = true)
    (hc : opd l cal = some (.func (.func gf) fs.toArray cs.toArray)) (hx : opds l az.toList = some vs) (hd : Nat.blt d n = true) (hcf : ∀ args w, (callFunc gf args).run P w = .ok (.enter gf args) w)
    (hcall : ∀ w Y', St w0 S w h Y' → Cn P gf (fs ++ vs ++ cs) w (fun u _ => u = v))
    (hk : GoH P r f R w0 S Y n (.inRegion ops rest :: k) ((d, v) :: l) h) : GoH P r f R w0 S Y n (.inRegion ops (i :: rest) :: k) l h :=
  .callC (fun _ u _ => u = v) ho hw hc hx hd hcf hcall (fun _ _ _ _ hS he e => ⟨h, hS.later he, e ▸ hk⟩)
end
/-! a function whose results lie in cells -/
def resH (P : Program) (l : Fl) (h : Hl) : List ResultVar → List Value → Prop
  | [], [] => True
  | .tmp t :: rs, v :: vs => look l t = some v ∧ resH P l h rs vs
  | .cell a ty :: rs, v :: vs => (∃ b, look l a = some (.pointer (some ⟨b, 0, none⟩)) ∧ ∃ (j : Nat) (cs : Array Value) (e : TypeId) (fr : Nat × Nat), h[j]? = some (some b, Obj.cells cs e fr) ∧
    ((∀ w, (isAgg ty).run P w = .ok true w) ∧ (∀ w, (sizeOf ty).run P w = .ok cs.size w) ∧ v = .agg cs ∨ (∀ w, (isAgg ty).run P w = .ok false w) ∧ cs[0]? = some v)) ∧ resH P l h rs vs
  | _, _ => False
section
variable {P : Program} {f : FuncId} {R : Value → World → Prop} {w0 : World} {S : List Nat} {Y : List (Nat × Obj)} {n : Nat} {k : List Item} {l : Fl} {h : Hl} {fn : Func}
theorem resH.nil : resH P l h [] [] := trivial
theorem resH.tmp {t : Tmp} {v : Value} {rs : List ResultVar} {vs : List Value} (hv : look l t = some v) (hr : resH P l h rs vs) : resH P l h (.tmp t :: rs) (v :: vs) := ⟨hv, hr⟩
theorem resH.cell {a : Tmp} {ty : TypeId} {b m j : Nat} {cs : Array Value} {e : TypeId} {fr : Nat × Nat} {rs : List ResultVar} {vs : List Value} (ha : look l a = some (.pointer (some ⟨b, 0, none⟩))) (h1 : ∀ w, (isAgg ty).run P w = .ok true w) (h2 : ∀ w, (sizeOf ty).run P w = .ok m w) (hj : h[j]? = some (some b, Obj.cells cs e fr)) (hm : cs.size = m) (hr : resH P l h rs vs) : resH P l h (.cell a ty :: rs) (.agg cs :: vs) :=
  ⟨⟨b, ha, j, cs, e, fr, hj, .inl ⟨h1, fun w => by rw [h2, hm], rfl⟩⟩, hr⟩
theorem resH.cell1 {a : Tmp} {ty : TypeId} {b j : Nat} {cs : Array Value} {e : TypeId} {fr : Nat × Nat} {v : Value} {rs : List ResultVar} {vs : List Value} (ha : look l a = some (.pointer (some ⟨b, 0, none⟩))) (h1 : ∀ w, (isAgg ty).run P w = .ok false w) (hj : h[j]? = some (some b, Obj.cells cs e fr)) (hv : cs[0]? = some v) (hr : resH P l h rs vs) : resH P l h (.cell a ty :: rs) (v :: vs) :=
  ⟨⟨b, ha, j, cs, e, fr, hj, .inr ⟨h1, hv⟩⟩, hr⟩
theorem mapM_resH {w : World} {t : Array Value} (hF : Frm n t l) (hS : St w0 S w h Y) : ∀ {rs : List ResultVar} {vs : List Value}, resH P l h rs vs →
    (rs.mapM (m := Sem) fun | .tmp t' => pure (t.getD t' undef) | .cell a ty => do loadVar ty (← asAddr (t.getD a undef))).run P w = .ok vs w
  | [], [], _ => rfl
  | .tmp q :: rs, v :: vs, ⟨hv, hr⟩ => by
    rw [List.mapM_cons]
    simp only [Sem.run_bind, Sem.run_pure, Result.andThen_ok, mapM_resH hF hS hr, hF.2 _ _ hv]
  | .cell a ty :: rs, v :: vs, ⟨⟨b, ha, j, cs, e, fr, hj, hv⟩, hr⟩ => by
    rw [List.mapM_cons]
    have hl2 : (loadVar ty ⟨b, 0, none⟩).run P w = .ok v w := by
      rcases hv with ⟨hag, hsz, rfl⟩ | ⟨hag, hv⟩
      · have hl := loadAgg_run (P := P) (w := w) (a := ⟨b, 0, none⟩) (cs := cs.toList) hag (fun w => by rw [hsz]; simp) (fun q v hv => by
          rw [addr_off, Nat.zero_add]
          simp [World.cell?, hS.get hj] at hv ⊢
          exact hv)
        rw [Array.toArray_toList] at hl
        simpa only [Instr.loadAt, Instr.sureAddr, Sem.run_bind, Sem.run_pure, Result.andThen_ok] using hl
      · have hc := cell_of_row w b 0 cs e fr (hS.get hj)
        rw [hv] at hc
        simp [loadVar, hag, hc]
    have hA : (asAddr (t.getD a undef)).run P w = .ok ⟨b, 0, none⟩ w := by rw [hF.2 _ _ ha]; rfl
    simp only [Sem.run_bind, Sem.run_pure, Result.andThen_ok, hA, hl2, mapM_resH hF hS hr]
  | [], _ :: _, hr => hr.elim
  | .tmp _ :: _, [], hr => hr.elim
  | .cell _ _ :: _, [], hr => hr.elim
theorem GoH.retH (fn : Func) (hf : P.funcs[f]? = some fn) (vs : List Value) (hres : resH P l h fn.results.toList vs) (hR : ∀ w, St w0 S w h Y → R (retV vs) w) : GoH P none f R w0 S Y n (.code .ret :: k) l h := fun t w Ds hF hS => by
  refine gos_leave hf hS (fun cs => by rw [mkF_at]; exact stepR_ret rfl) ?_ (hR _ hS.shut)
  unfold results
  rw [Array.mapM_eq_mapM_toList]
  have hm := mapM_resH (P := P) hF hS.shut hres
  simp only [Sem.run_bind, Sem.run_map, Sem.run_pure]
  refine (congrArg (fun x => (x.andThen fun a w' => Result.ok a.toArray w').andThen fun a w' => Result.ok (if h : a.size = 1 then a[0] else Value.tuple a) w') hm).trans ?_
  simp only [Result.andThen_ok]
  cases vs with
  | nil => rfl
  | cons v us => cases us with
    | nil => rfl
    | cons u us => simp [retV]
end
end Go.Proofs.Wit
namespace Go.Proofs.Wit
open Go Go.RowKit
/-! regions that draw their order: operations that only read, and behind them a tail that may make new blocks -/
def reach (ops : Array Oper) : Nat → List Nat → List Nat
  | 0, acc => acc
  | j + 1, acc => reach ops j (cond (acc.any fun z => (dirs ops z).contains j) (j :: acc) acc)
/-- x, and what comes before it -/
def below (ops : Array Oper) (x : Nat) : List Nat := reach ops x [x]
def forced (ops : Array Oper) : List Nat → List Nat → Bool
  | listed, [] => (readyL ops listed).isEmpty
  | listed, x :: rest => (readyL ops listed == [x]) && forced ops (x :: listed) rest
def tailOk (ops : Array Oper) (_l : Fl) (m : Nat) : Bool :=
  Nat.ble m ops.size &&
  (List.range ops.size).all (fun i => (dirs ops i).all (fun j => Nat.blt j i)) &&
  (List.range m).all (fun i => match ops[i]? with
    | none => false
    | some o => notSel o.op && match o.dst with
      | none => false
      | some d => (List.range ops.size).all (fun j => Nat.beq j i || !(dstOf ops j == some d)) &&
        (eyes ops o).all (fun s => (List.range ops.size).all (fun j => !(dstOf ops j == some s) || (dirs ops i).contains j || (Nat.ble m j && (below ops j).contains i)))) &&
  (List.range' m (ops.size - m)).all (fun i => match ops[i]? with
    | none => false
    | some o => (eyes ops o).all (fun s => (List.range m).all (fun j => !(dstOf ops j == some s) || (dirs ops i).contains j)))
section
variable {P : Program} {r : Option Nat} {f : FuncId} {R : Value → World → Prop} {w0 : World} {S : List Nat} {Y : List (Nat × Obj)} {n : Nat} {k : List Item} {l : Fl} {h : Hl} {ops : Array Oper}
/-- an operation, what it yields and what is known of memory behind it -/
def Mop (P : Program) (w0 : World) (S : List Nat) (n : Nat) (h : Hl) (ops : Array Oper) (i : Nat) (l : Fl) (d : Nat) (K : Value → Hl → Prop) : Prop :=
  ∃ o, ops[i]? = some o ∧ o.dst = some d ∧ isDefer o.op = false ∧ notSel o.op = true ∧ Nat.blt d n = true ∧
    ((wantL ops l o.guard = true ∧ ∀ (t : Array Value) (w : World) (Ds : List Nat) (Y' : List (Nat × Obj)), Frm n t l → St w0 S w h Y' →
      (∃ v w' h', (execOp (Act.eval ⟨t, Ds.map mark⟩) o).run P w = .ok (.value v) w' ∧ St w0 S w' h' Y' ∧ K v h') ∨
      (∃ gf args, ∃ Rc : Value → World → Prop, (execOp (Act.eval ⟨t, Ds.map mark⟩) o).run P w = .ok (.enter gf args) w ∧ (Calls P gf args w fun e w' => ∃ v, e = .returned v ∧ Rc v w') ∧ ∀ v w', Rc v w' → ∃ h', St w0 S w' h' Y' ∧ K v h')) ∨
    (skipL ops l o.guard = true ∧ K undef h))
theorem Mop.v {i d : Nat} {v : Value} {K : Value → Hl → Prop} (hv : Vop P w0 S n h ops i l d v) (hsel : ∀ o, ops[i]? = some o → notSel o.op = true) (hk : K v h) : Mop P w0 S n h ops i l d K := by
  obtain ⟨o, ho, hw, hdst, hnd, hd, hr⟩ := hv
  exact ⟨o, ho, hdst, hnd, hsel o ho, hd, .inl ⟨hw, fun t w Ds Y' hF hS => .inl (by
    obtain ⟨nx, h1, rfl⟩ := hr t w Ds Y' hF hS; exact ⟨v, w, h, h1, hS, hk⟩)⟩⟩
theorem Mop.no {i d : Nat} {o : Oper} {K : Value → Hl → Prop} (ho : ops[i]? = some o) (hw : skipL ops l o.guard = true) (hdst : o.dst = some d) (hnd : isDefer o.op = false) (hsel : notSel o.op = true) (hd : Nat.blt d n = true) (hk : K undef h) : Mop P w0 S n h ops i l d K :=
  ⟨o, ho, hdst, hnd, hsel, hd, .inr ⟨hw, hk⟩⟩
section
variable {i d : Nat} {ty : TypeId} {pos : String} {aft : Array Edge} {g : Option (Nat × Bool)} {K : Value → Hl → Prop}
theorem Mop.alc {e : TypeId} {z : Value} (ho : ops[i]? = some ⟨some d, .alloc e, ty, pos, aft, g⟩) (hw : wantL ops l g = true) (hd : Nat.blt d n = true) (hz : ∀ w, (zeroValue e).run P w = .ok z w)
    (hk : ∀ b, K (.pointer (some ⟨b, 0, none⟩)) ((some b, .cells z.cells e) :: h)) : Mop P w0 S n h ops i l d K :=
  ⟨_, ho, rfl, rfl, rfl, hd, .inl ⟨hw, fun t w Ds Y' hF hS => .inl ⟨.pointer (some ⟨w.heap.size, 0, none⟩), w.alloc (.cells z.cells e), _, by
    simp [execOp, Instr.alloc, hz, newVar, newRow], hS.alloc rfl, hk _⟩⟩⟩
theorem Mop.bx {e : TypeId} {x : Operand} {v : Value} (ho : ops[i]? = some ⟨some d, .box e x, ty, pos, aft, g⟩) (hw : wantL ops l g = true) (hx : opd l x = some v) (hd : Nat.blt d n = true)
    (hk : ∀ b, K (.pointer (some ⟨b, 0, none⟩)) ((some b, .cells v.cells e) :: h)) : Mop P w0 S n h ops i l d K :=
  ⟨_, ho, rfl, rfl, rfl, hd, .inl ⟨hw, fun t w Ds Y' hF hS => .inl ⟨.pointer (some ⟨w.heap.size, 0, none⟩), w.alloc (.cells v.cells e), _, by
    simp [execOp, Instr.box, hF.opd hx, newVar, newRow], hS.alloc rfl, hk _⟩⟩⟩
theorem Mop.bsN {t e : TypeId} {len : Nat} {az : Array (Nat × Operand)} {ps : List (Nat × Value)} {z : Value} {size : Nat} {c : List Value} (ho : ops[i]? = some ⟨some d, .buildSlice t len az, ty, pos, aft, g⟩) (hw : wantL ops l g = true) (hx : partsL l az.toList = some ps) (hd : Nat.blt d n = true)
    (hu : P.underlying t = some (.slice e)) (hs : ∀ w, (sizeOf e).run P w = .ok size w) (hz : ∀ w, (zeroValue e).run P w = .ok z w) (hm : Nat.ble (len * size) 16777216 = true)
    (hf : fillL (fun i => some (i * size, size)) ((List.range (len * size)).map fun i => z.cells.toList.getD (i % z.cells.toList.length) default) ps = some c)
    (hk : ∀ b, K (.slice (some ⟨b, 0, none⟩) len len) ((some b, .cells (c ++ []).toArray e) :: h)) : Mop P w0 S n h ops i l d K :=
  ⟨_, ho, rfl, rfl, rfl, hd, .inl ⟨hw, fun _ w Ds _ hF hS => .inl ⟨.slice (some ⟨w.heap.size, 0, none⟩) len len, w.alloc (.cells (c ++ []).toArray e), _,
    bsN_run hF hx hu hs hz hm hf Ds w, hS.alloc rfl, hk _⟩⟩⟩
theorem Mop.callM {az : Array Operand} {ts : Array TypeId} {cal : Operand} {gf : FuncId} {fs cs vs : List Value} (Rc : World → Value → World → Prop) (ho : ops[i]? = some ⟨some d, .call ⟨.value cal, az, ts⟩, ty, pos, aft, g⟩) (hw : wantL ops l g = true)
    (hc : opd l cal = some (.func (.func gf) fs.toArray cs.toArray)) (hx : opds l az.toList = some vs) (hd : Nat.blt d n = true) (hcf : ∀ args w, (callFunc gf args).run P w = .ok (.enter gf args) w)
    (hcall : ∀ w Y', St w0 S w h Y' → Cn P gf (fs ++ vs ++ cs) w (Rc w))
    (hk : ∀ v w w' Y', St w0 S w h Y' → Ex [] w w' → Rc w v w' → ∃ h', St w0 S w' h' Y' ∧ K v h') : Mop P w0 S n h ops i l d K :=
  ⟨_, ho, rfl, rfl, rfl, hd, .inl ⟨hw, fun t w Ds Y' hF hS => .inr ⟨gf, (fs ++ vs ++ cs).toArray, fun u w' => Ex [] w w' ∧ Rc w u w', by
    have e1 := resolve_run (P := P) (ty := ty) (ts := ts) (Ds := Ds) (w := w) hF hc hx
    simp only [execOp, Sem.run_bind, e1, Result.andThen_ok, invoke, hcf]
    simp, hcall w Y' hS, fun u w' ⟨he, hu⟩ => hk u w w' Y' hS he hu⟩⟩⟩
end
theorem Mop.call {i d : Nat} {ty : TypeId} {pos : String} {aft : Array Edge} {g : Option (Nat × Bool)} {K : Value → Hl → Prop} {az : Array Operand} {ts : Array TypeId} {cal : Operand} {gf : FuncId} {vs : List Value} (Rc : World → Value → World → Prop) (ho : ops[i]? = some ⟨some d, .call ⟨.value cal, az, ts⟩, ty, pos, aft, g⟩) (hw : wantL ops l g = true)
    (hc : opd l cal = some (.func (.func gf) #[] #[])) (hx : opds l az.toList = some vs) (hd : Nat.blt d n = true) (hcf : ∀ args w, (callFunc gf args).run P w = .ok (.enter gf args) w)
    (hcall : ∀ w Y', St w0 S w h Y' → Cn P gf vs w (Rc w))
    (hk : ∀ v w w' Y', St w0 S w h Y' → Ex [] w w' → Rc w v w' → ∃ h', St w0 S w' h' Y' ∧ K v h') : Mop P w0 S n h ops i l d K :=
  .callM (fs := []) (cs := []) Rc ho hw hc hx hd hcf (fun w Y' hS => by rw [List.nil_append, List.append_nil]; exact hcall w Y' hS) hk
/-- what comes first of rest comes behind all reads -/
def afterAll (ops : Array Oper) (m : Nat) : List Nat → Bool
  | [] => true
  | x :: _ => (List.range m).all (fun i => (below ops x).contains i && !(Nat.beq i x))
/-- the tail of a region: TL of it is done, and all that only read -/
def Tl (P : Program) (r : Option Nat) (f : FuncId) (R : Value → World → Prop) (w0 : World) (S : List Nat) (Y : List (Nat × Obj)) (n : Nat) (k : List Item) (ops : Array Oper) (m : Nat) (hb : Hl) : Nat → List Nat → Fl → Hl → Prop
  | 0, _, _, _ => False
  | q + 1, TL, l, h =>
    (∃ rest, forced ops (TL ++ List.range m) rest = true ∧ afterAll ops m rest = true ∧ GoH P r f R w0 S Y n (.inRegion ops rest :: k) l h) ∨
    (readyL ops (TL ++ List.range m) ≠ [] ∧ ∀ i ∈ readyL ops (TL ++ List.range m), ∃ d, Mop P w0 S n h ops i l d (fun v h' => hb.Sublist h' ∧ Tl P r f R w0 S Y n k ops m hb q (i :: TL) ((d, v) :: l) h'))
/-- the reads, in the order of the text -/
def RdT (P : Program) (w0 : World) (S : List Nat) (n : Nat) (ops : Array Oper) (h : Hl) (F : Fl → Prop) (i m : Nat) (l : Fl) : Prop :=
  ∀ t, Frm n t l → RdS P w0 S n h ops (fun t' => ∃ l', Frm n t' l' ∧ F l') i m t
theorem RdT.nil {F : Fl → Prop} {i : Nat} (hg : F l) : RdT P w0 S n ops h F i 0 l := fun _ hF => ⟨l, hF, hg⟩
theorem RdT.v {F : Fl → Prop} {i m d : Nat} {v : Value} (hv : Vop P w0 S n h ops i l d v) (hg : RdT P w0 S n ops h F (i + 1) m ((d, v) :: l)) : RdT P w0 S n ops h F i (m + 1) l := by
  intro t hF
  obtain ⟨o, ho, hw, hdst, hnd, hd, hr⟩ := hv
  exact ⟨d, v, ⟨o, ho, hdst, by simpa [Nat.blt_eq] using hd, hnd, .inl ⟨want_of hF hw, fun w Ds Y' hS => by
    obtain ⟨nx, h1, rfl⟩ := hr t w Ds Y' hF hS; exact .inl h1⟩⟩, hg _ (hF.put v hd)⟩
theorem RdT.callP {F : Fl → Prop} {i m d : Nat} {v : Value} {ty : TypeId} {pos : String} {aft : Array Edge} {g : Option (Nat × Bool)} {az : Array Operand} {ts : Array TypeId} {cal : Operand} {gf : FuncId} {vs : List Value} (ho : ops[i]? = some ⟨some d, .call ⟨.value cal, az, ts⟩, ty, pos, aft, g⟩) (hw : wantL ops l g = true)
    (hc : opd l cal = some (.func (.func gf) #[] #[])) (hx : opds l az.toList = some vs) (hd : Nat.blt d n = true) (hcf : ∀ args w, (callFunc gf args).run P w = .ok (.enter gf args) w)
    (hcall : ∀ w Y', St w0 S w h Y' → Cn P gf vs w (fun u _ => u = v)) (hg : RdT P w0 S n ops h F (i + 1) m ((d, v) :: l)) : RdT P w0 S n ops h F i (m + 1) l := by
  intro t hF
  refine ⟨d, v, ⟨_, ho, rfl, by simpa [Nat.blt_eq] using hd, rfl, .inl ⟨want_of hF hw, fun w Ds Y' hS => .inr ⟨gf, vs.toArray, ?_, hcall w Y' hS⟩⟩⟩, hg _ (hF.put v hd)⟩
  have e1 := resolve_run (P := P) (ty := ty) (ts := ts) (Ds := Ds) (w := w) hF hc hx
  simp only [execOp, Sem.run_bind, e1, Result.andThen_ok, invoke, hcf]
  simp
theorem RdT.no {F : Fl → Prop} {i m d : Nat} {o : Oper} (ho : ops[i]? = some o) (hw : skipL ops l o.guard = true) (hdst : o.dst = some d) (hnd : isDefer o.op = false) (hd : Nat.blt d n = true) (hg : RdT P w0 S n ops h F (i + 1) m ((d, undef) :: l)) : RdT P w0 S n ops h F i (m + 1) l :=
  fun t hF => ⟨d, undef, ⟨o, ho, hdst, by simpa [Nat.blt_eq] using hd, hnd, .inr ⟨skip_of hF hw, rfl⟩⟩, hg _ (hF.put undef hd)⟩
theorem RdT.cases {F : Fl → Prop} {i m d : Nat} {b : Bool} (hv : look l d = some (.bool b)) (ht : b = true → RdT P w0 S n ops h F i m ((d, .bool true) :: l)) (hf : b = false → RdT P w0 S n ops h F i m ((d, .bool false) :: l)) : RdT P w0 S n ops h F i m l := by
  intro t hF
  cases hb : b with
  | true => exact ht hb t (frm_case hF hv hb)
  | false => exact hf hb t (frm_case hF hv hb)
theorem mem_reach {x : Nat} {listed : List Nat} (hc : ∀ j ∈ listed, ∀ e ∈ dirs ops j, e ∈ listed) (hx : ∀ e ∈ dirs ops x, e ∈ listed) : ∀ {j : Nat} {acc : List Nat}, (∀ z ∈ acc, z = x ∨ z ∈ listed) → ∀ y ∈ reach ops j acc, y = x ∨ y ∈ listed
  | 0, _, ha, y, hy => ha y hy
  | j + 1, acc, ha, y, hy => by
    rw [reach] at hy
    refine mem_reach hc hx (acc := cond (acc.any fun z => (dirs ops z).contains j) (j :: acc) acc) (fun z hz => ?_) y hy
    cases hb : acc.any fun z => (dirs ops z).contains j with
    | false => rw [hb] at hz; exact ha z hz
    | true =>
      rw [hb] at hz
      rcases List.mem_cons.1 hz with rfl | hz
      · obtain ⟨u, hu, hd⟩ := List.any_eq_true.1 hb
        have hd := List.contains_iff_mem.1 hd
        rcases ha u hu with rfl | h
        · exact .inr (hx _ hd)
        · exact .inr (hc u h _ hd)
      · exact ha z hz
theorem mem_below {x : Nat} {listed : List Nat} (hc : ∀ j ∈ listed, ∀ e ∈ dirs ops j, e ∈ listed) (hx : ∀ e ∈ dirs ops x, e ∈ listed) : ∀ y ∈ below ops x, y = x ∨ y ∈ listed :=
  mem_reach hc hx (fun _ hz => .inl (List.mem_singleton.1 hz))
theorem mem_readyL {listed : List Nat} {i : Nat} : i ∈ readyL ops listed ↔ i < ops.size ∧ i ∉ listed ∧ ∀ e ∈ dirs ops i, e ∈ listed := by
  simp [readyL, List.mem_filter]
structure TailFacts (ops : Array Oper) (m : Nat) : Prop where
  size : m ≤ ops.size
  lt : ∀ i, i < ops.size → ∀ j ∈ dirs ops i, j < i
  sel : ∀ i, i < m → ∀ o, ops[i]? = some o → notSel o.op = true
  inj : ∀ i j d, i < m → j < ops.size → dstOf ops i = some d → dstOf ops j = some d → i = j
  eye : ∀ i, i < m → ∀ o, ops[i]? = some o → ∀ s ∈ eyes ops o, ∀ j, j < ops.size → dstOf ops j = some s → j ∈ dirs ops i ∨ (m ≤ j ∧ i ∈ below ops j)
  eyeT : ∀ i, m ≤ i → ∀ o, ops[i]? = some o → ∀ s ∈ eyes ops o, ∀ j, j < m → dstOf ops j = some s → j ∈ dirs ops i
theorem tailFacts_of {m : Nat} (hc : tailOk ops l m = true) : TailFacts ops m := by
  simp only [tailOk, Bool.and_eq_true, List.all_eq_true, List.mem_range, List.mem_range'_1, Nat.blt_eq, Nat.ble_eq] at hc
  obtain ⟨⟨⟨hsz, hlt⟩, hr⟩, ht⟩ := hc
  have hat : ∀ i, i < m → ∃ o d, ops[i]? = some o ∧ o.dst = some d ∧ notSel o.op = true ∧ (∀ j, j < ops.size → j = i ∨ dstOf ops j ≠ some d) ∧ (∀ s ∈ eyes ops o, ∀ j, j < ops.size → (dstOf ops j ≠ some s ∨ j ∈ dirs ops i) ∨ (m ≤ j ∧ i ∈ below ops j)) := by
    intro i hi
    have := hr i hi
    cases ho : ops[i]? with
    | none => simp [ho] at this
    | some o =>
      cases hd : o.dst with
      | none => simp [ho, hd] at this
      | some d =>
        simp only [ho, hd, Bool.and_eq_true, List.all_eq_true, List.mem_range, Bool.or_eq_true, Nat.beq_eq, Bool.not_eq_true', beq_eq_false_iff_ne, List.contains_iff_mem, Nat.ble_eq] at this
        exact ⟨o, d, rfl, hd, this.1, this.2.1, this.2.2⟩
  refine ⟨hsz, hlt, fun i hi o ho => ?_, fun i j d hi hj h1 h2 => ?_, fun i hi o ho s hs j hj hd => ?_, fun i hi o ho s hs j hj hd => ?_⟩
  · obtain ⟨o', d, h1, _, h3, _⟩ := hat i hi
    rw [ho] at h1; cases h1; exact h3
  · obtain ⟨o, d', e1, e2, _, e5, _⟩ := hat i hi
    have : d' = d := by simp [dstOf, e1, e2] at h1; exact h1
    subst this
    rcases e5 j hj with e | e
    · exact e.symm
    · exact absurd h2 e
  · obtain ⟨o', d, e1, _, _, _, e6⟩ := hat i hi
    rw [ho] at e1; cases e1
    rcases e6 s hs j hj with (e | e) | e
    · exact absurd hd e
    · exact .inl e
    · exact .inr e
  · have hiN := (Array.getElem?_eq_some_iff.1 ho).1
    have := ht i ⟨hi, by omega⟩
    simp only [ho, List.all_eq_true, Bool.or_eq_true, Bool.not_eq_true', beq_eq_false_iff_ne, List.contains_iff_mem, List.mem_range] at this
    rcases this s hs j hj with e | e
    · exact absurd hd e
    · exact e
theorem forced_go : ∀ {rest listed : List Nat} {fuel τ : Nat} {arr : Array Bool}, forced ops listed rest = true → arr.size = ops.size → (∀ j, arr.getD j false = listed.contains j) → rest.length ≤ fuel →
    Region.linearise.go .any ops fuel τ arr [] = rest
  | [], listed, fuel, τ, arr, hf, hs, h, _ => by
    have h0 : readyL ops listed = [] := by simpa [forced] using hf
    cases fuel with
    | zero => rfl
    | succ fuel =>
      simp only [Region.linearise.go]
      change (match (Region.ready .any ops arr)[_ % (Region.ready .any ops arr).length]? with
        | some i => _
        | none => [].reverse) = []
      rw [ready_eq hs h, h0]; rfl
  | x :: rest, listed, 0, τ, arr, hf, hs, h, hl => by simp at hl
  | x :: rest, listed, fuel + 1, τ, arr, hf, hs, h, hl => by
    simp only [forced, Bool.and_eq_true, beq_iff_eq] at hf
    simp only [Region.linearise.go]
    change (match (Region.ready .any ops arr)[_ % (Region.ready .any ops arr).length]? with
      | some i => Region.linearise.go .any ops fuel (τ / (Region.ready .any ops arr).length) (arr.setIfInBounds i true) [i]
      | none => [].reverse) = _
    rw [ready_eq hs h, hf.1]
    simp only [List.length_singleton, Nat.mod_one, List.getElem?_cons_zero]
    rw [linearise_go_acc, List.reverse_singleton, List.singleton_append]
    have hx : x ∈ readyL ops listed := by rw [hf.1]; simp
    have hxl := (mem_readyL.1 hx).1
    rw [forced_go (listed := x :: listed) hf.2 (by simpa using hs) (fun j => ?_) (by simpa using hl)]
    rw [getD_listed (by omega), h j, List.contains_cons]
    split
    · rename_i e; subst e; simp
    · rename_i e; rw [beq_false_of_ne (Ne.symm e)]; rfl
theorem forced_len : ∀ {rest listed : List Nat}, forced ops listed rest = true → rest.length ≤ (List.range ops.size).countP (fun j => !listed.contains j)
  | [], _, _ => Nat.zero_le _
  | x :: rest, listed, hf => by
    simp only [forced, Bool.and_eq_true, beq_iff_eq] at hf
    have hx : x ∈ readyL ops listed := by rw [hf.1]; simp
    obtain ⟨h1, h2, _⟩ := mem_readyL.1 hx
    have ih := forced_len hf.2
    have := countP_lt (l := List.range ops.size) (p := fun j => !(x :: listed).contains j) (q := fun j => !listed.contains j) (fun y _ hy => by simp at hy ⊢; exact hy.2) ⟨x, by simpa using h1, by simpa using h2, by simp⟩
    simp only [List.length_cons]; omega
theorem Outc.goS {i d : Nat} {v : Value} {t : Array Value} {rest : List Nat} {w : World} {Ds : List Nat} {hb : Hl} (ho : Outc P w0 S n hb ops i t d v) (hs : hb.Sublist h) (hS : St w0 S w h (mkY Ds ++ Y))
    (hk : ∀ w', St w0 S w' h (mkY Ds ++ Y) → Gos P r f R (.inRegion ops rest :: k) (t.setIfInBounds d v) (Ds.map mark) w') : Gos P r f R (.inRegion ops (i :: rest) :: k) t (Ds.map mark) w := by
  obtain ⟨o, h1, h2, h3, h4, h5⟩ := ho
  rcases h5 with ⟨a, b⟩ | ⟨a, rfl⟩
  · rcases b w Ds _ (hS.subH hs) with hb | ⟨gf, args, hb, hcall⟩
    · refine Gos.op h1 a (not_defer h4) hb (.inl rfl) ?_
      rw [h2]; exact hk w hS
    · refine Gos.call h1 a (not_defer h4) hb hcall (fun u w2 hu => ?_)
      obtain ⟨he, rfl⟩ := hu
      rw [h2]; exact hk w2 (hS.later he)
  · refine Gos.opSkip h1 a ?_
    rw [h2]; exact hk w hS
theorem wanted_congr {o : Oper} {t t' : Array Value} (hs : t'.size = t.size) (he : ∀ s ∈ eyes ops o, t'.getD s undef = t.getD s undef) : Region.wanted o (yielded ops t') = Region.wanted o (yielded ops t) := by
  unfold Region.wanted
  cases hg : o.guard with
  | none => rfl
  | some p =>
    obtain ⟨j, want⟩ := p
    have : yielded ops t' j = yielded ops t j := by
      unfold yielded
      cases hd : (ops[j]?).bind (·.dst) with
      | none => rfl
      | some dj =>
        simp only [Option.bind_some]
        rw [opt_of_getD hs (he dj (by simp [eyes, hg, dstOf, hd]))]
    simp only [this]
theorem Mop.go {i d : Nat} {K : Value → Hl → Prop} {T t : Array Value} {rest : List Nat} {w : World} {Ds : List Nat} (hm : Mop P w0 S n h ops i l d K) (hF : Frm n T l) (hs : t.size = T.size)
    (he : ∀ o, ops[i]? = some o → ∀ s ∈ eyes ops o, t.getD s undef = T.getD s undef) (hS : St w0 S w h (mkY Ds ++ Y))
    (hk : ∀ v w' h', K v h' → St w0 S w' h' (mkY Ds ++ Y) → Gos P r f R (.inRegion ops rest :: k) (t.setIfInBounds d v) (Ds.map mark) w') : Gos P r f R (.inRegion ops (i :: rest) :: k) t (Ds.map mark) w := by
  obtain ⟨o, ho, hdst, hnd, hsel, hd, hr⟩ := hm
  have hw := wanted_congr (ops := ops) (o := o) hs (he o ho)
  rcases hr with ⟨hwant, hr⟩ | ⟨hskip, hK⟩
  · have hexec : execOp (Act.eval ⟨t, Ds.map mark⟩) o = execOp (Act.eval ⟨T, Ds.map mark⟩) o := execOp_congr (ρ' := Act.eval ⟨T, Ds.map mark⟩) o (fun cs bb e => by rw [e] at hsel; cases hsel) (fun x hx => by
      cases x with
      | tmp s => exact he o ho s (by
          simp only [eyes, List.mem_append]
          exact .inr (List.mem_filterMap.2 ⟨.tmp s, by simpa using hx, rfl⟩))
      | const v => rfl
      | global g => rfl
      | func g => rfl)
    rcases hr T w Ds _ hF hS with ⟨v, w', h', h1, h2, h3⟩ | ⟨gf, args, Rc, h1, h2, h3⟩
    · refine Gos.op ho (hw.trans (want_of hF hwant)) (not_defer hnd) (by rw [hexec]; exact h1) (.inl rfl) ?_
      rw [hdst]; exact hk v w' h' h3 h2
    · refine Gos.call ho (hw.trans (want_of hF hwant)) (not_defer hnd) (by rw [hexec]; exact h1) h2 (fun u w2 hu => ?_)
      obtain ⟨h', h4, h5⟩ := h3 u w2 hu
      rw [hdst]; exact hk u w2 h' h5 h4
  · refine Gos.opSkip ho (hw.trans (skip_of hF hskip)) ?_
    rw [hdst]; exact hk undef w h hK hS
theorem tail_core {m : Nat} (hf : TailFacts ops m) {D : Nat → Nat} {V : Nat → Value} {t0 : Array Value} {hB : Hl} (ht0 : t0.size = n)
    (hout : ∀ j, j < m → Outc P w0 S n hB ops j (tsq D V t0 j) (D j) (V j)) :
    ∀ (fuel τ : Nat) (arr : Array Bool) (TL : List Nat) (q : Nat) (l : Fl) (h : Hl) (t T : Array Value), arr.size = ops.size → (∀ j, arr.getD j false = true → ∀ e ∈ dirs ops j, arr.getD e false = true) →
      (∀ j, m ≤ j → (arr.getD j false = true ↔ j ∈ TL)) → (∀ j ∈ TL, m ≤ j) → Frm n T l → Tl P r f R w0 S Y n k ops m hB q TL l h → hB.Sublist h → t.size = n →
      (∀ j, j < m → T.getD (D j) undef = V j) → (∀ s, (∀ j, j < m → arr.getD j false = false → D j ≠ s) → t.getD s undef = T.getD s undef) → (∀ s, (∀ j, j < m → D j ≠ s) → (∀ j, m ≤ j → j < ops.size → dstOf ops j = some s → arr.getD j false = false) → T.getD s undef = t0.getD s undef) →
      (List.range ops.size).countP (fun j => !arr.getD j false) ≤ fuel → ∀ w Ds, St w0 S w h (mkY Ds ++ Y) → Gos P r f R (.inRegion ops (Region.linearise.go .any ops fuel τ arr []) :: k) t (Ds.map mark) w := by
  have hDst : ∀ j, j < m → dstOf ops j = some (D j) := fun j hj => by
    obtain ⟨o, h1, h2, _⟩ := hout j hj
    simp [dstOf, h1, h2]
  have hDlt : ∀ j, j < m → D j < t0.size := fun j hj => by
    obtain ⟨o, _, _, h3, _⟩ := hout j hj; omega
  have hmN := hf.size
  have hDinj : ∀ i j, i < m → j < m → D i = D j → i = j := fun i j hi hj e => hf.inj i j (D i) hi (by omega) (hDst i hi) (by rw [hDst j hj, e])
  -- all reads are done, and what is left has one order
  have hsw : ∀ {fuel τ : Nat} {arr : Array Bool} {TL rest : List Nat} {l : Fl} {h : Hl} {t T : Array Value}, arr.size = ops.size → (∀ j, m ≤ j → (arr.getD j false = true ↔ j ∈ TL)) → (∀ j ∈ TL, m ≤ j) → Frm n T l → t.size = n →
      (∀ s, (∀ j, j < m → arr.getD j false = false → D j ≠ s) → t.getD s undef = T.getD s undef) → (∀ j, j < m → arr.getD j false = true) → forced ops (TL ++ List.range m) rest = true →
      GoH P r f R w0 S Y n (.inRegion ops rest :: k) l h → (List.range ops.size).countP (fun j => !arr.getD j false) ≤ fuel → ∀ w Ds, St w0 S w h (mkY Ds ++ Y) → Gos P r f R (.inRegion ops (Region.linearise.go .any ops fuel τ arr []) :: k) t (Ds.map mark) w := by
    intro fuel τ arr TL rest l h t T hls hTL hTm hF hts hb hall hfo hg hc w Ds hS
    have hcont : ∀ j, arr.getD j false = (TL ++ List.range m).contains j := fun j => by
      rw [Bool.eq_iff_iff, List.contains_iff_mem, List.mem_append, List.mem_range]
      rcases Nat.lt_or_ge j m with hj | hj
      · exact ⟨fun _ => .inr hj, fun _ => hall j hj⟩
      · exact ⟨fun x => .inl ((hTL j hj).1 x), fun x => (hTL j hj).2 (by rcases x with x | x; exact x; omega)⟩
    have hlen := forced_len hfo
    have e1 : (fun j => !(TL ++ List.range m).contains j) = fun j => !arr.getD j false := by funext j; rw [hcont]
    rw [e1] at hlen
    rw [forced_go hfo hls hcont (by omega)]
    have ht : t = T := Array.ext_getElem? (fun s => opt_of_getD (by rw [hts, hF.1]) (hb s (fun j hj hu => by rw [hall j hj] at hu; cases hu)))
    rw [ht]; exact hg T w Ds hF hS
  intro fuel
  induction fuel with
  | zero =>
    intro τ arr TL q l h t T hls hcl hTL hTm hF htl hsub hts ha hb hcb hc w Ds hS
    have hl : ∀ j, j < ops.size → arr.getD j false = true := fun j hj => by
      have := List.countP_eq_zero.1 (Nat.le_zero.1 hc) j (by simpa using hj)
      simpa using this
    cases q with
    | zero => exact htl.elim
    | succ q =>
      rcases htl with ⟨rest, h1, _, h3⟩ | ⟨hne, _⟩
      · exact hsw hls hTL hTm hF hts hb (fun j hj => hl j (by omega)) h1 h3 hc w Ds hS
      · exfalso
        apply hne
        rw [List.eq_nil_iff_forall_not_mem]
        intro j hj
        obtain ⟨a1, a2, _⟩ := mem_readyL.1 hj
        apply a2
        rw [List.mem_append, List.mem_range]
        rcases Nat.lt_or_ge j m with hj | hj
        · exact .inr hj
        · exact .inl ((hTL j hj).1 (hl j a1))
  | succ fuel ih =>
    intro τ arr TL q l h t T hls hcl hTL hTm hF htl hsub hts ha hb hcb hc w Ds hS
    have hready : (∃ j, j < ops.size ∧ arr.getD j false = false) → Region.ready .any ops arr ≠ [] := by
      rintro ⟨j, hj, hu⟩
      have key : ∀ q, q < ops.size → arr.getD q false = false → Region.ready .any ops arr ≠ [] := by
        intro q
        induction q using Nat.strongRecOn with
        | _ q ihq =>
          intro hq hqu
          by_cases hb : ∃ e ∈ dirs ops q, arr.getD e false = false
          · obtain ⟨e, he, heu⟩ := hb
            have hlt := hf.lt q hq e he
            exact ihq e hlt (by omega) heu
          · obtain ⟨o, ho⟩ : ∃ o, ops[q]? = some o := ⟨ops[q], Array.getElem?_eq_getElem hq⟩
            have : q ∈ Region.ready .any ops arr := by
              rw [mem_ready]
              refine ⟨by rw [getD_tf (by omega)]; exact hqu, o, ho, fun e he hbd => ?_⟩
              cases hx : arr.getD e.on false with
              | true => rfl
              | false => exact absurd ⟨e.on, (mem_dirs ho).2 ⟨e, he, hbd, rfl⟩, hx⟩ hb
            exact List.ne_nil_of_mem this
      exact key j hj hu
    -- what is ready behind the reads is ready when all reads are done
    have hrT : ∀ i, m ≤ i → i < ops.size → arr.getD i false = false → (∀ e ∈ dirs ops i, arr.getD e false = true) → i ∈ readyL ops (TL ++ List.range m) := fun i him hiN hu hd => by
      rw [mem_readyL]
      refine ⟨hiN, fun hx => ?_, fun e he => ?_⟩
      · rw [List.mem_append, List.mem_range] at hx
        rcases hx with hx | hx
        · rw [(hTL i him).2 hx] at hu; cases hu
        · omega
      · rw [List.mem_append, List.mem_range]
        rcases Nat.lt_or_ge e m with hj | hj
        · exact .inr hj
        · exact .inl ((hTL e hj).1 (hd e he))
    by_cases hdone : ∃ rest, forced ops (TL ++ List.range m) rest = true ∧ GoH P r f R w0 S Y n (.inRegion ops rest :: k) l h ∧ ∀ j, j < m → arr.getD j false = true
    · obtain ⟨rest, h1, h2, h3⟩ := hdone
      exact hsw hls hTL hTm hF hts hb h3 h1 h2 hc w Ds hS
    simp only [Region.linearise.go]
    change Gos P r f R (.inRegion ops (match (Region.ready .any ops arr)[τ % (Region.ready .any ops arr).length]? with
      | some i => Region.linearise.go .any ops fuel (τ / (Region.ready .any ops arr).length) (arr.setIfInBounds i true) [i]
      | none => [].reverse) :: k) t (Ds.map mark) w
    cases hi : (Region.ready .any ops arr)[τ % (Region.ready .any ops arr).length]? with
    | none =>
      exfalso
      have hnil : Region.ready .any ops arr = [] := by
        cases hr : Region.ready .any ops arr with
        | nil => rfl
        | cons x xs =>
          rw [hr] at hi
          have hlt : τ % (x :: xs).length < (x :: xs).length := Nat.mod_lt _ (by simp)
          rw [List.getElem?_eq_getElem hlt] at hi; cases hi
      have hl : ∀ j, j < ops.size → arr.getD j false = true := fun j hj => by
        cases hx : arr.getD j false with
        | true => rfl
        | false => exact absurd hnil (hready ⟨j, hj, hx⟩)
      cases q with
      | zero => exact htl.elim
      | succ q =>
        rcases htl with ⟨rest, h1, _, h3⟩ | ⟨hne, _⟩
        · exact hdone ⟨rest, h1, h3, fun j hj => hl j (by omega)⟩
        · apply hne
          rw [List.eq_nil_iff_forall_not_mem]
          intro j hj
          obtain ⟨a1, a2, _⟩ := mem_readyL.1 hj
          apply a2
          rw [List.mem_append, List.mem_range]
          rcases Nat.lt_or_ge j m with hj | hj
          · exact .inr hj
          · exact .inl ((hTL j hj).1 (hl j a1))
    | some i =>
      have hmem := List.mem_of_getElem? hi
      rw [mem_ready] at hmem
      obtain ⟨hu, o, ho, hdep⟩ := hmem
      have hiN : i < ops.size := (Array.getElem?_eq_some_iff.1 ho).1
      rw [getD_tf (by omega)] at hu
      simp only []
      rw [linearise_go_acc, List.reverse_singleton, List.singleton_append]
      have hdl : ∀ e ∈ dirs ops i, arr.getD e false = true := fun e he => by
        obtain ⟨e', he', hb, rfl⟩ := (mem_dirs ho).1 he
        exact hdep e' he' hb
      have hcl' : ∀ j, (arr.setIfInBounds i true).getD j false = true → ∀ e ∈ dirs ops j, (arr.setIfInBounds i true).getD e false = true := by
        intro j hj e he
        rw [getD_listed (by omega)] at hj ⊢
        split
        · rfl
        · split at hj
          · rename_i hij; subst hij; exact hdl e he
          · exact hcl j hj e he
      have hcnt := count_set (listed := arr) hls hiN hu
      by_cases him : i < m
      · -- a read
        have hgo := hout i him
        have hDi : D i < t.size := by rw [hts, ← ht0]; exact hDlt i him
        have heq : Outc P w0 S n hB ops i t (D i) (V i) := by
          refine hgo.congr (hf.sel i him) (by rw [hts, tsq_size, ht0]) (fun o' ho' s hs => ?_)
          obtain ⟨g1, g2⟩ := tsq_get hDlt hDinj i (by omega)
          by_cases hx : ∃ j, j < m ∧ D j = s
          · obtain ⟨j, hj, rfl⟩ := hx
            have hjd := (hf.eye i him o' ho' (D j) hs j (by omega) (hDst j hj)).resolve_right (fun x => by omega)
            rw [g1 j (hf.lt i hiN j hjd), hb (D j) (fun j' hj' hu' e => by
              have := hDinj j' j hj' hj e
              subst this
              rw [hdl j' hjd] at hu'; cases hu'), ha j hj]
          · rw [hb s (fun j hj _ e => hx ⟨j, hj, e⟩), g2 s (fun j hj e => hx ⟨j, by omega, e⟩)]
            refine hcb s (fun j hj e => hx ⟨j, hj, e⟩) (fun j hmj hj hd => ?_)
            rcases hf.eye i him o' ho' s hs j hj hd with hjd | ⟨_, hjb⟩
            · have hjl := hf.lt i hiN j hjd
              omega
            · cases hja : arr.getD j false with
              | false => rfl
              | true =>
                exfalso
                have := mem_below (ops := ops) (listed := (List.range ops.size).filter (fun j => arr.getD j false)) (x := j) (fun j hj e he => by
                  rw [List.mem_filter, List.mem_range] at hj ⊢
                  have hlt := hf.lt j hj.1 e he
                  exact ⟨by omega, hcl j hj.2 e he⟩) (fun e he => by
                  rw [List.mem_filter, List.mem_range]
                  have hlt := hf.lt j hj e he
                  exact ⟨by omega, hcl j hja e he⟩) i hjb
                rcases this with h | h
                · omega
                · rw [(List.mem_filter.1 h).2] at hu; cases hu
        refine heq.goS hsub hS (fun w hS => ?_)
        refine ih _ _ TL q l h _ T (by simpa using hls) hcl' (fun j hj => ?_) hTm hF htl hsub (by simpa using hts) ha (fun s hs => ?_) (fun s hs1 hs2 => hcb s hs1 (fun j hj hjN hd => by
          have := hs2 j hj hjN hd
          rwa [getD_listed (by omega), if_neg (by omega)] at this)) (by omega) w Ds hS
        · rw [getD_listed (by omega), if_neg (by omega)]; exact hTL j hj
        · rw [getD_set hDi]
          split
          · rename_i e; subst e; exact (ha i him).symm
          · rename_i e
            refine hb s (fun j hj hu' => ?_)
            by_cases e2 : i = j
            · subst e2; exact e
            · exact hs j hj (by rw [getD_listed (by omega), if_neg e2]; exact hu')
      · -- of the tail
        have him' : m ≤ i := by omega
        have hir := hrT i him' hiN hu hdl
        cases q with
        | zero => exact htl.elim
        | succ q =>
          rcases htl with ⟨rest, h1, hbel, h3⟩ | ⟨_, hop⟩
          · exfalso
            cases rest with
            | nil =>
              have h0 : readyL ops (TL ++ List.range m) = [] := by simpa [forced] using h1
              rw [h0] at hir; cases hir
            | cons x rest =>
              have hx : readyL ops (TL ++ List.range m) = [x] := by
                simp only [forced, Bool.and_eq_true, beq_iff_eq] at h1; exact h1.1
              rw [hx] at hir
              obtain rfl := List.mem_singleton.1 hir
              refine hdone ⟨i :: rest, h1, h3, fun j hj => ?_⟩
              have hmem : j ∈ below ops i ∧ j ≠ i := by
                have := List.all_eq_true.1 hbel j (by simpa using hj)
                rw [Bool.and_eq_true, List.contains_iff_mem, Bool.not_eq_true'] at this
                exact ⟨this.1, fun e => by rw [e, Nat.beq_refl] at this; cases this.2⟩
              have := mem_below (ops := ops) (listed := (List.range ops.size).filter (fun j => arr.getD j false)) (x := i) (fun j hj e he => by
                rw [List.mem_filter, List.mem_range] at hj ⊢
                have hlt := hf.lt j hj.1 e he
                exact ⟨by omega, hcl j hj.2 e he⟩) (fun e he => by
                rw [List.mem_filter, List.mem_range]
                have hlt := hf.lt i hiN e he
                exact ⟨by omega, hdl e he⟩) j hmem.1
              exact (List.mem_filter.1 (this.resolve_left hmem.2)).2
          · obtain ⟨d, hmop⟩ := hop i hir
            have hdi : dstOf ops i = some d := by
              obtain ⟨o', e1, e2, _⟩ := hmop
              simp [dstOf, e1, e2]
            have hdn : d < n := by
              obtain ⟨o', _, _, _, _, hd, _⟩ := hmop
              simpa [Nat.blt_eq] using hd
            refine hmop.go hF (by rw [hts, hF.1]) (fun o' ho' s hs => ?_) hS (fun v w' h' hK hS' => ?_)
            · refine hb s (fun j hj hu' e => ?_)
              subst e
              have hjd := hf.eyeT i him' o' ho' (D j) hs j hj (hDst j hj)
              rw [hdl j hjd] at hu'; cases hu'
            · obtain ⟨hsub', htl'⟩ := hK
              refine ih _ _ (i :: TL) q ((d, v) :: l) h' _ (T.setIfInBounds d v) (by simpa using hls) hcl' (fun j hj => ?_) (fun j hj => ?_) (hF.put v (by simpa [Nat.blt_eq] using hdn)) htl' hsub' (by simpa using hts) (fun j hj => ?_) (fun s hs => ?_) (fun s hs1 hs2 => ?_) (by omega) w' Ds hS'
              · rw [getD_listed (by omega), List.mem_cons]
                split
                · rename_i e; subst e; simp
                · rename_i e
                  rw [hTL j hj]
                  exact ⟨.inr, fun x => x.resolve_left (Ne.symm e)⟩
              · rcases List.mem_cons.1 hj with rfl | hj
                · exact him'
                · exact hTm j hj
              · rw [getD_set (by rw [hF.1]; exact hdn)]
                split
                · rename_i e
                  have := hf.inj j i d hj hiN (by rw [hDst j hj, e]) hdi
                  omega
                · exact ha j hj
              · rw [getD_set (by rw [hts]; exact hdn), getD_set (by rw [hF.1]; exact hdn)]
                split
                · rfl
                · refine hb s (fun j hj hu' => hs j hj ?_)
                  rw [getD_listed (by omega), if_neg (by omega)]; exact hu'
              · rw [getD_set (by rw [hF.1]; exact hdn)]
                split
                · rename_i e
                  have := hs2 i him' hiN (by rw [hdi, e])
                  rw [getD_listed (by omega), if_pos rfl] at this; cases this
                · refine hcb s hs1 (fun j hj hjN hd => ?_)
                  have := hs2 j hj hjN hd
                  rw [getD_listed (by omega)] at this
                  split at this
                  · cases this
                  · exact this
/-- **a region that draws its order: its first m operations only read; those behind them may make new blocks; then what is left has one order** -/
theorem GoH.drawT {id : Nat} (m q : Nat) (hmix : P.follows .mixedOrders = true) (hc : tailOk ops l m = true) (hg : RdT P w0 S n ops h (fun l' => Tl P r f R w0 S Y n k ops m h q [] l' h) 0 m l) : GoH P r f R w0 S Y n (.code (.region id ops true) :: k) l h := by
  intro t w Ds hF hS
  have hf := tailFacts_of hc
  refine .regionDraw (fun τ => ?_)
  obtain ⟨D, V, hout, l', hF', htl⟩ := (hg t hF).seq
  simp only [Nat.zero_add] at hout
  simp only [Region.schedule, hmix, Bool.true_or, if_true, Region.linearise]
  have hDst : ∀ j, j < m → dstOf ops j = some (D j) := fun j hj => by
    obtain ⟨o, h1, h2, _⟩ := hout j hj
    simp [dstOf, h1, h2]
  have hDlt : ∀ j, j < m → D j < t.size := fun j hj => by
    obtain ⟨o, _, _, h3, _⟩ := hout j hj
    rw [hF.1]; exact h3
  have hmN := hf.size
  have hDinj : ∀ i j, i < m → j < m → D i = D j → i = j := fun i j hi hj e => hf.inj i j (D i) hi (by omega) (hDst i hi) (by rw [hDst j hj, e])
  obtain ⟨g1, g2⟩ := tsq_get hDlt hDinj m (Nat.le_refl _)
  have harr : ∀ j, (Array.replicate ops.size false).getD j false = false := fun j => by
    simp [Array.getD_eq_getD_getElem?, Array.getElem?_replicate]; split <;> simp
  refine tail_core hf hF.1 hout ops.size τ _ [] q l' h t _ (by simp) (fun j hj => ?_) (fun j _ => ?_) (by simp) hF' htl (List.Sublist.refl _) hF.1 g1 (fun s hs => ?_) (fun s hs _ => ?_) ?_ _ Ds hS.drew
  · rw [harr] at hj; cases hj
  · rw [harr]; simp
  · rw [g2 s (fun j hj => hs j hj (harr j))]
  · exact g2 s (fun j hj e => hs j hj e)
  · exact Nat.le_trans (List.countP_le_length) (by simp)
theorem Tl.sw {m q : Nat} {hb : Hl} {TL : List Nat} (rest : List Nat) (h1 : forced ops (TL ++ List.range m) rest = true) (h2 : afterAll ops m rest = true)
    (hg : GoH P r f R w0 S Y n (.inRegion ops rest :: k) l h) : Tl P r f R w0 S Y n k ops m hb (q + 1) TL l h := .inl ⟨rest, h1, h2, hg⟩
/-- one operation is next -/
theorem Tl.one {m q i d : Nat} {hb : Hl} {TL : List Nat} (h1 : readyL ops (TL ++ List.range m) = [i]) (hm : Mop P w0 S n h ops i l d (fun v h' => hb.Sublist h' ∧ Tl P r f R w0 S Y n k ops m hb q (i :: TL) ((d, v) :: l) h')) : Tl P r f R w0 S Y n k ops m hb (q + 1) TL l h :=
  .inr ⟨by rw [h1]; simp, fun j hj => by rw [h1] at hj; obtain rfl := List.mem_singleton.1 hj; exact ⟨d, hm⟩⟩
/-- one of two operations is next -/
theorem Tl.two {m q i d i2 d2 : Nat} {hb : Hl} {TL : List Nat} (h1 : readyL ops (TL ++ List.range m) = [i, i2]) (hm : Mop P w0 S n h ops i l d (fun v h' => hb.Sublist h' ∧ Tl P r f R w0 S Y n k ops m hb q (i :: TL) ((d, v) :: l) h'))
    (hm2 : Mop P w0 S n h ops i2 l d2 (fun v h' => hb.Sublist h' ∧ Tl P r f R w0 S Y n k ops m hb q (i2 :: TL) ((d2, v) :: l) h')) : Tl P r f R w0 S Y n k ops m hb (q + 1) TL l h :=
  .inr ⟨by rw [h1]; simp, fun j hj => by
    rw [h1] at hj
    rcases List.mem_cons.1 hj with rfl | hj
    · exact ⟨d, hm⟩
    · obtain rfl := List.mem_singleton.1 hj; exact ⟨d2, hm2⟩⟩
end
end Go.Proofs.Wit
namespace Go.Proofs.Wit
open Go Go.RowKit
theorem GoH.sub' {P : Program} {r : Option Nat} {f : FuncId} {R : Value → World → Prop} {w0 : World} {S : List Nat} {Y : List (Nat × Obj)} {n : Nat} {k : List Item} {l l' : Fl} {h h' : Hl} (hg : GoH P r f R w0 S Y n k l' h') (hl : SubF l' l) (hh : ∀ w Y', St w0 S w h Y' → St w0 S w h' Y') : GoH P r f R w0 S Y n k l h :=
  fun t w Ds hF hS => hg t w Ds (hF.sub hl) (hh w _ hS)
/-- what comes behind a region is walked once -/
theorem GoH.regionK {P : Program} {r : Option Nat} {f : FuncId} {R : Value → World → Prop} {w0 : World} {S : List Nat} {Y : List (Nat × Obj)} {n : Nat} {k : List Item} {l : Fl} {h : Hl} {ops : Array Oper} {id : Nat} {dr : Bool} {α : Type} (restc : List Nat) (lf : α → Fl) (hf : α → Hl)
    (hK : ∀ a, GoH P r f R w0 S Y n (.inRegion ops restc :: k) (lf a) (hf a))
    (hg : (∀ a l h, SubF (lf a) l → (∀ w Y', St w0 S w h Y' → St w0 S w (hf a) Y') → GoH P r f R w0 S Y n (.inRegion ops restc :: k) l h) → GoH P r f R w0 S Y n (.code (.region id ops dr) :: k) l h) : GoH P r f R w0 S Y n (.code (.region id ops dr) :: k) l h :=
  hg (fun a _ _ hl hh => (hK a).sub' hl hh)
end Go.Proofs.Wit
namespace Go.Proofs.Wit
open Go Go.RowKit
section
variable {P : Program} {r : Option Nat} {f : FuncId} {R : Value → World → Prop} {w0 : World} {S : List Nat} {Y : List (Nat × Obj)} {n : Nat} {k : List Item} {l : Fl} {h : Hl} {ops : Array Oper}
theorem RdGo.sub {i m : Nat} {l' : Fl} (hg : RdGo P r f R w0 S Y n k ops i m l' h) (hl : SubF l' l) : RdGo P r f R w0 S Y n k ops i m l h := fun t hF => hg t (hF.sub hl)
theorem RdGo.callCP {i m d : Nat} {v : Value} {ty : TypeId} {pos : String} {aft : Array Edge} {g : Option (Nat × Bool)} {az : Array Operand} {ts : Array TypeId} {cal : Operand} {gf : FuncId} {fs cs vs : List Value} (ho : ops[i]? = some ⟨some d, .call ⟨.value cal, az, ts⟩, ty, pos, aft, g⟩) (hw : wantL ops l g = true)
    (hc : opd l cal = some (.func (.func gf) fs.toArray cs.toArray)) (hx : opds l az.toList = some vs) (hd : Nat.blt d n = true) (hcf : ∀ args w, (callFunc gf args).run P w = .ok (.enter gf args) w)
    (hcall : ∀ w Y', St w0 S w h Y' → Cn P gf (fs ++ vs ++ cs) w (fun u _ => u = v)) (hg : RdGo P r f R w0 S Y n k ops (i + 1) m ((d, v) :: l) h) : RdGo P r f R w0 S Y n k ops i (m + 1) l h := by
  intro t hF
  refine ⟨d, v, ⟨_, ho, rfl, by simpa [Nat.blt_eq] using hd, rfl, .inl ⟨want_of hF hw, fun w Ds Y' hS => .inr ⟨gf, (fs ++ vs ++ cs).toArray, ?_, hcall w Y' hS⟩⟩⟩, ?_⟩
  · have e1 := resolve_run (P := P) (ty := ty) (ts := ts) (Ds := Ds) (w := w) hF hc hx
    simp only [execOp, Sem.run_bind, e1, Result.andThen_ok, invoke, hcf]
    simp
  · have := hg _ (hF.put v hd)
    rw [show i + (m + 1) = i + 1 + m from by omega]; exact this
end
theorem Ex.cells {w w' : World} (_e : Ex [] w w') {b : Nat} {cs : Array Value} {t : TypeId} {fr : Nat × Nat} (_h : w.heap[b]? = some (.cells cs t fr)) (hk : w'.heap[b]? = some (.cells cs t fr)) : ∀ q v, cs.toList[q]? = some v → w'.cell? ((⟨b, 0, none⟩ : Addr).add q) = some v := fun q v hv => by
  rw [addr_off, Nat.zero_add, cell_of_row w' b q cs t fr hk]; simpa using hv
end Go.Proofs.Wit
namespace Go.Proofs.Wit
open Go Go.RowKit
/-! blocks of a callee's, many at once; lists of lists; models -/
/-- blocks that are new since w, as they lie in w' -/
structure NewH (w w' : World) (H : Hl) : Prop where
  own : ∀ p ∈ H, ∀ b, p.1 = some b → w'.heap[b]? = some p.2 ∧ isSys p.2 = false ∧ w.heap.size ≤ b
  apart : H.Pairwise apartH
theorem NewH.of {w w' : World} {h : Hl} {Y : List (Nat × Obj)} (s : St w [] w' h Y) : NewH w w' h :=
  ⟨fun p hp b hb => by
    obtain ⟨h1, h2, h3⟩ := s.own p hp b hb
    exact ⟨h1, h2, h3.resolve_right (by simp)⟩, s.apart⟩
theorem NewH.sub {w w' : World} {H H' : Hl} (g : NewH w w' H) (hs : H'.Sublist H) : NewH w w' H' := ⟨fun p hp => g.own p (hs.subset hp), g.apart.sublist hs⟩
theorem St.gainL {w0 w w' : World} {S : List Nat} {h : Hl} {Y : List (Nat × Obj)} (s : St w0 S w h Y) (e : Ex [] w w') {H : Hl} (g : NewH w w' H) : St w0 S w' (H ++ h) Y := by
  have s' := s.later e
  refine ⟨s'.ext, fun p hp b hb => ?_, List.pairwise_append.2 ⟨g.apart, s.apart, fun p hp q hq b hb hqb => ?_⟩, s'.sys, s'.ynd⟩
  · rcases List.mem_append.1 hp with hp | hp
    · obtain ⟨h1, h2, h3⟩ := g.own p hp b hb
      exact ⟨h1, h2, .inl (Nat.le_trans s.ext.size h3)⟩
    · exact s'.own p hp b hb
  · have h1 := (g.own p hp b hb).2.2
    have h2 := (Array.getElem?_eq_some_iff.1 (s.own q hq b hqb).1).1
    omega
theorem St.pickT {w0 w : World} {S : List Nat} {pre pre' HR : Hl} {Y : List (Nat × Obj)} (s : St w0 S w (pre ++ HR) Y) (is : List Nat) (hn : is.Nodup) (e : is.map (fun i => pre[i]?) = pre'.map some) : St w0 S w (pre' ++ HR) Y := by
  have hlen : is.length = pre'.length := by have := congrArg List.length e; simpa using this
  have hat : ∀ j (hj : j < pre'.length), ∃ i, is[j]? = some i ∧ pre[i]? = some pre'[j] := fun j hj => by
    have h1 := congrArg (fun l => l[j]?) e
    have hj2 : j < is.length := by omega
    simp only [List.getElem?_map, List.getElem?_eq_getElem hj, List.getElem?_eq_getElem hj2, Option.map_some, Option.some.injEq] at h1
    exact ⟨is[j], List.getElem?_eq_getElem hj2, h1⟩
  have hmem : ∀ p ∈ pre', p ∈ pre := fun p hp => by
    obtain ⟨j, hj, rfl⟩ := List.mem_iff_getElem.1 hp
    obtain ⟨i, _, h2⟩ := hat j hj
    exact List.mem_of_getElem? h2
  have hap := List.pairwise_append.1 s.apart
  refine ⟨s.ext, fun p hp => ?_, List.pairwise_append.2 ⟨?_, hap.2.1, fun p hp q hq => hap.2.2 p (hmem p hp) q hq⟩, s.sys, s.ynd⟩
  · rcases List.mem_append.1 hp with hp | hp
    · exact s.own p (List.mem_append_left _ (hmem p hp))
    · exact s.own p (List.mem_append_right _ hp)
  · rw [List.pairwise_iff_getElem]
    intro j j' hj hj' hlt
    obtain ⟨i, h1, h2⟩ := hat j hj
    obtain ⟨i', h1', h2'⟩ := hat j' hj'
    have hne : i ≠ i' := by
      rintro rfl
      obtain ⟨a1, a2⟩ := List.getElem?_eq_some_iff.1 h1
      obtain ⟨b1, b2⟩ := List.getElem?_eq_some_iff.1 h1'
      have := (List.nodup_iff_pairwise_ne.1 hn)
      exact absurd (a2.trans b2.symm) (List.pairwise_iff_getElem.1 this j j' a1 b1 hlt)
    obtain ⟨a1, a2⟩ := List.getElem?_eq_some_iff.1 h2
    obtain ⟨b1, b2⟩ := List.getElem?_eq_some_iff.1 h2'
    rw [← a2, ← b2]
    rcases Nat.lt_or_gt_of_ne hne with hx | hx
    · exact List.pairwise_iff_getElem.1 hap.1 i i' a1 b1 hx
    · exact apartH_symm (List.pairwise_iff_getElem.1 hap.1 i' i b1 a1 hx)
theorem St.swap2 {w0 w : World} {S : List Nat} {x y : Option Nat × Obj} {h : Hl} {Y : List (Nat × Obj)} (s : St w0 S w (x :: y :: h) Y) : St w0 S w (y :: x :: h) Y := St.pickT (pre := [x, y]) (pre' := [y, x]) s [1, 0] (by decide) rfl
/-- other blocks of what is known, in another order -/
theorem GoH.pickT {P : Program} {r : Option Nat} {f : FuncId} {R : Value → World → Prop} {w0 : World} {S : List Nat} {Y : List (Nat × Obj)} {n : Nat} {k : List Item} {l : Fl} {pre pre' : Hl} (HR : Hl) (is : List Nat) (hn : is.Nodup) (e : is.map (fun i => pre[i]?) = pre'.map some)
    (hg : GoH P r f R w0 S Y n k l (pre' ++ HR)) : GoH P r f R w0 S Y n k l (pre ++ HR) := fun t w Ds hF hS => hg t w Ds hF (hS.pickT is hn e)
theorem GoH.pick {P : Program} {r : Option Nat} {f : FuncId} {R : Value → World → Prop} {w0 : World} {S : List Nat} {Y : List (Nat × Obj)} {n : Nat} {k : List Item} {l : Fl} {pre pre' : Hl} (is : List Nat) (hn : is.Nodup) (e : is.map (fun i => pre[i]?) = pre'.map some)
    (hg : GoH P r f R w0 S Y n k l pre') : GoH P r f R w0 S Y n k l pre := by
  have := GoH.pickT (pre := pre) (pre' := pre') [] is hn e (by rw [List.append_nil]; exact hg)
  rwa [List.append_nil] at this
/-- a list that lies in one of the blocks of H -/
def InS {α : Type} (enc : α → Value) (H : Hl) (a : Option Addr) (xs : List α) : Prop :=
  xs = [] ∨ ∃ b e sp, a = some ⟨b, 0, none⟩ ∧ (some b, ob enc e xs sp) ∈ H
theorem InS.mono {α : Type} {enc : α → Value} {H H' : Hl} {a : Option Addr} {xs : List α} (h : InS enc H a xs) (hs : H ⊆ H') : InS enc H' a xs := by
  rcases h with h | ⟨b, e, sp, h1, h2⟩
  · exact .inl h
  · exact .inr ⟨b, e, sp, h1, hs h2⟩
theorem InS.sl {α : Type} {enc : α → Value} {w0 w : World} {S : List Nat} {h : Hl} {Y : List (Nat × Obj)} {a : Option Addr} {xs : List α} (g : InS enc h a xs) (s : St w0 S w h Y) : Sl w a (xs.map enc) := by
  rcases g with rfl | ⟨b, e, sp, rfl, hm⟩
  · exact Sl.nil _ _
  · exact Sl.blk (s.own _ hm b rfl).1
theorem InS.at {α : Type} {enc : α → Value} {H : Hl} {q : Option Nat} {xs : List α} {e : TypeId} {sp : List Value} (hq : q = none → xs.length = 0) (hm : (q, ob enc e xs sp) ∈ H) : InS enc H (q.map (fun b => ⟨b, 0, none⟩)) xs := by
  cases q with
  | none => exact .inl (List.eq_nil_of_length_eq_zero (hq rfl))
  | some b => exact .inr ⟨b, e, sp, rfl, hm⟩
/-- a list of words as an element of a list: where it lies, its capacity, its words -/
structure Row where
  a : Option Addr
  cap : Nat
  xs : List W64
def Row.v (r : Row) : Value := .slice r.a r.xs.length r.cap
/-- a list of words in memory -/
structure Row.At (r : Row) (w : World) : Prop where
  at_ : SlU w r.a r.xs
  len : r.xs.length ≤ maxLen
  cap : r.xs.length ≤ r.cap
/-- a model: its three fields, and where its lists lie -/
structure MV where
  n : Int
  ra : Option Addr
  rc : Nat
  rows : List Row
  va : Option Addr
  vc : Nat
  val : List W64
abbrev MV.cs (m : MV) : Array Value := #[.int .i64 m.n, .slice m.va m.val.length m.vc, .slice m.ra m.rows.length m.rc]
def MV.v (m : MV) : Value := .agg #[.int .i64 m.n, .slice m.va m.val.length m.vc, .slice m.ra m.rows.length m.rc]
def MV.rel (m : MV) : List (List W64) := m.rows.map Row.xs
def SlR (w : World) (a : Option Addr) (rs : List Row) : Prop := Sl w a (rs.map Row.v)
structure MV.At (m : MV) (w : World) : Prop where
  rel : SlR w m.ra m.rows
  row : ∀ r ∈ m.rows, r.At w
  val : SlU w m.va m.val
  lr : m.rows.length ≤ maxLen
  lv : m.val.length ≤ maxLen
  cr : m.rows.length ≤ m.rc
  cv : m.val.length ≤ m.vc
theorem SlR.ex0 {w0 w : World} {a : Option Addr} {xs : List Row} (h : SlR w0 a xs) {S : List Nat} (e : Ex S w0 w) (hS : ∀ b o, a = some ⟨b, o, none⟩ → b ∉ S := by simp) : SlR w a xs := Sl.ex h e hS
theorem Sl.at {α : Type} {enc : α → Value} {w : World} {a : Option Addr} {xs : List α} (h : Sl w a (xs.map enc)) (k : Nat) (hk : k < xs.length) : w.cell? (adr a k) = some (enc xs[k]) := by
  rw [Sl.cell h k (by simpa using hk)]
  simp [List.getD_eq_getElem?_getD, hk]
theorem Ex.keep {w w' : World} (e : Ex [] w w') {b : Nat} {o : Obj} (h : w.heap[b]? = some o) : w'.heap[b]? = some o := by
  rw [e.block b (Array.getElem?_eq_some_iff.1 h).1 (by simp)]; exact h
theorem Ex.cell {w w' : World} (e : Ex [] w w') {b j : Nat} {cs : Array Value} {t : TypeId} {fr : Nat × Nat} {v : Value} (h : w.heap[b]? = some (.cells cs t fr)) (hv : cs[j]? = some v) : w'.cell? ⟨b, j, none⟩ = some v := by
  rw [cell_of_row w' b j cs t fr (e.keep h), hv]
/-- ints -/
abbrev I64 : Int → Value := Value.int .i64
def SlI (w : World) (a : Option Addr) (xs : List Int) : Prop := Sl w a (xs.map I64)
theorem SlI.ex0 {w0 w : World} {a : Option Addr} {xs : List Int} (h : SlI w0 a xs) {S : List Nat} (e : Ex S w0 w) (hS : ∀ b o, a = some ⟨b, o, none⟩ → b ∉ S := by simp) : SlI w a xs := Sl.ex h e hS
theorem SlI.at {w : World} {a : Option Addr} {xs : List Int} (h : SlI w a xs) (k : Nat) (hk : k < xs.length) : w.cell? (adr a k) = some (.int .i64 xs[k]) := Sl.at h k hk
/-- a list in a block of one's own, or nil -/
def OwnS {α : Type} (enc : α → Value) (e : TypeId) (w w' : World) (v : Value) (xs : List α) : Prop :=
  ∃ q cap sp, v = osv q xs.length cap ∧ (q = none → xs.length = 0 ∧ cap = 0) ∧ (xs.map enc ++ sp).length = cap ∧ ∀ b, q = some b → w.heap.size ≤ b ∧ w'.heap[b]? = some (ob enc e xs sp)
theorem gainS {α : Type} {enc : α → Value} {t : TypeId} {w0 w w' : World} {S : List Nat} {h : Hl} {Y : List (Nat × Obj)} (s : St w0 S w h Y) (e : Ex [] w w') {v : Value} {xs : List α} (ho : OwnS enc t w w' v xs) :
    ∃ q cap sp, v = osv q xs.length cap ∧ (q = none → xs.length = 0 ∧ cap = 0) ∧ (xs.map enc ++ sp).length = cap ∧ St w0 S w' ((q, ob enc t xs sp) :: h) Y := by
  obtain ⟨q, cap, sp, h1, h2, h3, h4⟩ := ho
  refine ⟨q, cap, sp, h1, h2, h3, ?_⟩
  cases q with
  | none => exact (s.later e).none _
  | some b => exact s.gain e (h4 b rfl).2 rfl (h4 b rfl).1
theorem OwnS.mk {α : Type} {enc : α → Value} {t : TypeId} {w0 w : World} {h : Hl} {Y : List (Nat × Obj)} (s : St w0 [] w h Y) (j : Nat) {q : Option Nat} {xs : List α} {sp : List Value} {cap m : Nat} (hj : h[j]? = some (q, ob enc t xs sp)) (hm : m = xs.length)
    (hq : q = none → xs.length = 0 ∧ cap = 0) (hcap : (xs.map enc ++ sp).length = cap) : OwnS enc t w0 w (osv q m cap) xs := by
  subst hm
  refine ⟨q, cap, sp, rfl, hq, hcap, fun b hb => ?_⟩
  subst hb
  exact ⟨s.fresh hj, s.get hj⟩
theorem sliAt {w0 w : World} {S : List Nat} {h : Hl} {Y : List (Nat × Obj)} (s : St w0 S w h Y) (j : Nat) {q : Option Nat} {xs : List Int} {e : TypeId} {sp : List Value} (hj : h[j]? = some (q, ob I64 e xs sp)) (hq : q = none → xs.length = 0) : SlI w (q.map (fun b => ⟨b, 0, none⟩)) xs := by
  cases q with
  | none => rw [List.eq_nil_of_length_eq_zero (hq rfl)]; exact Sl.nil _ _
  | some b => exact Sl.blk (s.get hj)
theorem SlR.at {w : World} {a : Option Addr} {xs : List Row} (h : SlR w a xs) (k : Nat) (hk : k < xs.length) : w.cell? (adr a k) = some xs[k].v := by
  rw [Sl.cell h k (by simpa using hk)]
  simp [List.getD_eq_getElem?_getD, hk]
theorem Row.At.ex0 {w0 w : World} {r : Row} (h : r.At w0) (e : Ex [] w0 w) : r.At w := ⟨h.at_.ex0 e, h.len, h.cap⟩
theorem MV.At.ex0 {w0 w : World} {m : MV} (h : m.At w0) (e : Ex [] w0 w) : m.At w := ⟨h.rel.ex0 e, fun r hr => (h.row r hr).ex0 e, h.val.ex0 e, h.lr, h.lv, h.cr, h.cv⟩
/-- a model that lies in the blocks of H -/
structure MV.In (m : MV) (H : Hl) : Prop where
  rel : InS Row.v H m.ra m.rows
  row : ∀ r ∈ m.rows, InS U H r.a r.xs ∧ r.xs.length ≤ maxLen ∧ r.xs.length ≤ r.cap
  val : InS U H m.va m.val
  lr : m.rows.length ≤ maxLen
  lv : m.val.length ≤ maxLen
  cr : m.rows.length ≤ m.rc
  cv : m.val.length ≤ m.vc
theorem MV.In.mono {m : MV} {H H' : Hl} (h : m.In H) (hs : H ⊆ H') : m.In H' :=
  ⟨h.rel.mono hs, fun r hr => ⟨(h.row r hr).1.mono hs, (h.row r hr).2⟩, h.val.mono hs, h.lr, h.lv, h.cr, h.cv⟩
theorem MV.In.at {m : MV} {w0 w : World} {S : List Nat} {h : Hl} {Y : List (Nat × Obj)} (g : m.In h) (s : St w0 S w h Y) : m.At w :=
  ⟨g.rel.sl s, fun r hr => ⟨(g.row r hr).1.sl s, (g.row r hr).2.1, (g.row r hr).2.2⟩, g.val.sl s, g.lr, g.lv, g.cr, g.cv⟩
end Go.Proofs.Wit
