/- Laws of a calculus of walks, proved for any program: no condition beyond those that each theorem states. -/
import Derived.Test.YtoiafcoaeomnlaaDoorWgo
namespace Go.Proofs.Wit
open Go Go.RowKit

/-! ## What is known of a frame: a list of slots with their values (the first entry of a slot counts) -/
abbrev Fl := List (Nat × Value)
def look : Fl → Nat → Option Value
  | [], _ => none
  | (j, v) :: l, i => cond (Nat.beq j i) (some v) (look l i)
def Frm (n : Nat) (t : Array Value) (l : Fl) : Prop := t.size = n ∧ ∀ i v, look l i = some v → t.getD i undef = v
theorem Frm.put {n : Nat} {t : Array Value} {l : Fl} (h : Frm n t l) {d : Nat} (v : Value) (hd : Nat.blt d n = true) : Frm n (t.setIfInBounds d v) ((d, v) :: l) := by
  have hd' : d < n := by simpa [Nat.blt_eq] using hd
  refine ⟨by simp [h.1], fun i u hu => ?_⟩
  unfold look at hu
  cases hb : Nat.beq d i with
  | true =>
    obtain rfl := Nat.eq_of_beq_eq_true hb
    rw [hb] at hu; cases hu
    simp [Array.getD_eq_getD_getElem?, h.1, hd']
  | false =>
    rw [hb] at hu
    have hne : d ≠ i := Nat.ne_of_beq_eq_false hb
    have := h.2 i u hu
    rw [← this]
    simp [Array.getD_eq_getD_getElem?, hne]
def opd (l : Fl) : Operand → Option Value
  | .tmp i => look l i
  | .const v => some v
  | .global g => some (.pointer (some ⟨g, 0, none⟩))
  | .func f => some (.func (.func f) #[] #[])
theorem Frm.opd {n : Nat} {t : Array Value} {l : Fl} (h : Frm n t l) {x : Operand} {v : Value} (hx : opd l x = some v) (ds : List Deferred) : Act.eval ⟨t, ds⟩ x = v := by
  cases x <;> simp only [Wit.opd, Option.some.injEq] at hx
  · exact h.2 _ _ hx
  all_goals exact hx
def opds (l : Fl) : List Operand → Option (List Value)
  | [] => some []
  | x :: xs => match Wit.opd l x, opds l xs with
    | some v, some vs => some (v :: vs)
    | _, _ => none
theorem Frm.opds {n : Nat} {t : Array Value} {l : Fl} (h : Frm n t l) (ds : List Deferred) : ∀ {xs : List Operand} {vs : List Value}, opds l xs = some vs → xs.map (Act.eval ⟨t, ds⟩) = vs := by
  intro xs
  induction xs with
  | nil => intro vs e; cases e; rfl
  | cons x xs ih =>
    intro vs e
    simp only [Wit.opds] at e
    cases hx : Wit.opd l x with
    | none => simp [hx] at e
    | some v =>
      cases hxs : Wit.opds l xs with
      | none => simp [hx, hxs] at e
      | some us =>
        simp only [hx, hxs, Option.some.injEq] at e
        subst e
        rw [List.map_cons, h.opd hx, ih hxs]
def SubF : Fl → Fl → Prop
  | [], _ => True
  | (i, v) :: l', l => look l i = some v ∧ SubF l' l
theorem SubF.nil {l : Fl} : SubF [] l := trivial
theorem SubF.cons {l l' : Fl} {i : Nat} {v : Value} (h : look l i = some v) (h' : SubF l' l) : SubF ((i, v) :: l') l := ⟨h, h'⟩
theorem SubF.look {l : Fl} : ∀ {l' : Fl}, SubF l' l → ∀ {i v}, look l' i = some v → Wit.look l i = some v
  | [], _, _, _, h => by cases h
  | (j, u) :: l', hs, i, v, h => by
    unfold Wit.look at h
    cases hb : Nat.beq j i with
    | true => rw [hb] at h; obtain rfl := Nat.eq_of_beq_eq_true hb; cases h; exact hs.1
    | false => rw [hb] at h; exact SubF.look hs.2 h
theorem Frm.sub {n : Nat} {t : Array Value} {l l' : Fl} (h : Frm n t l) (hs : SubF l' l) : Frm n t l' := ⟨h.1, fun i v hv => h.2 i v (hs.look hv)⟩

/-! ## What is known of memory -/
def isSys : Obj → Bool
  | .loop _ | .deferred _ => true
  | _ => false
/-- w has come of w0: of what was there only the blocks of S may have turned -/
structure Ex (S : List Nat) (w0 w : World) : Prop where
  os : w.os = w0.os
  tape : w.tape = w0.tape
  output : w.output = w0.output
  size : w0.heap.size ≤ w.heap.size
  block : ∀ b, b < w0.heap.size → b ∉ S → w.heap[b]? = w0.heap[b]?
theorem Ex.refl (S : List Nat) (w : World) : Ex S w w := ⟨rfl, rfl, rfl, Nat.le_refl _, fun _ _ _ => rfl⟩
theorem Ex.trans {S S' : List Nat} {a b c : World} (h : Ex S a b) (k : Ex S' b c) (hS : ∀ x ∈ S', x ∈ S ∨ a.heap.size ≤ x) : Ex S a c :=
  ⟨k.os.trans h.os, k.tape.trans h.tape, k.output.trans h.output, Nat.le_trans h.size k.size, fun i hi hn =>
    (k.block i (Nat.lt_of_lt_of_le hi h.size) (fun hm => by rcases hS i hm with h' | h'; exact hn h'; omega)).trans (h.block i hi hn)⟩
theorem Ex.toBelow {w0 w : World} (h : Ex [] w0 w) : Below w0.heap.size w0 w := ⟨h.os, h.tape, h.output, h.size, fun k hk => h.block k hk (by simp)⟩
theorem Ex.ofBelow {w0 w : World} (h : Below w0.heap.size w0 w) : Ex [] w0 w := ⟨h.os, h.tape, h.output, h.size, fun k hk _ => h.block k hk⟩
/-- blocks that are known: an entry without a number says nothing (a nil slice's) -/
abbrev Hl := List (Option Nat × Obj)
def mark (D : Nat) : Deferred := { target := .collected D, args := #[] }
def apartH (p q : Option Nat × Obj) : Prop := ∀ b, p.1 = some b → q.1 ≠ some b
/-- memory, as the walk knows it -/
structure St (w0 : World) (S : List Nat) (w : World) (h : Hl) (Y : List (Nat × Obj)) : Prop where
  ext : Ex S w0 w
  own : ∀ p ∈ h, ∀ b, p.1 = some b → w.heap[b]? = some p.2 ∧ isSys p.2 = false ∧ (w0.heap.size ≤ b ∨ b ∈ S)
  apart : h.Pairwise apartH
  sys : ∀ p ∈ Y, w0.heap.size ≤ p.1 ∧ w.heap[p.1]? = some p.2 ∧ isSys p.2 = true
  ynd : (Y.map (·.1)).Nodup
/-- the marks of a frame's own loops over functions -/
def mkY (Ds : List Nat) : List (Nat × Obj) := Ds.map (fun D => (D, .deferred (some [])))
section
variable {w0 : World} {S : List Nat} {w w' : World} {h : Hl} {Y : List (Nat × Obj)}
theorem St.get (s : St w0 S w h Y) {j b : Nat} {o : Obj} (hj : h[j]? = some (some b, o)) : w.heap[b]? = some o :=
  (s.own _ (List.mem_of_getElem? hj) b rfl).1
theorem St.lt (s : St w0 S w h Y) {j b : Nat} {o : Obj} (hj : h[j]? = some (some b, o)) : b < w.heap.size :=
  (Array.getElem?_eq_some_iff.1 (s.get hj)).1
theorem St.inj (s : St w0 S w h Y) {i j b : Nat} {o o' : Obj} (hi : h[i]? = some (some b, o)) (hj : h[j]? = some (some b, o')) : i = j := by
  obtain ⟨i1, i2⟩ := List.getElem?_eq_some_iff.1 hi
  obtain ⟨j1, j2⟩ := List.getElem?_eq_some_iff.1 hj
  have := List.pairwise_iff_getElem.1 s.apart
  rcases Nat.lt_trichotomy i j with hlt | he | hlt
  · exact absurd (by rw [j2]) (this i j i1 j1 hlt b (by rw [i2]))
  · exact he
  · exact absurd (by rw [i2]) (this j i j1 i1 hlt b (by rw [j2]))
theorem heap_alloc_new (w : World) (o : Obj) : (w.alloc o).heap[w.heap.size]? = some o := by
  show (w.heap.push o)[w.heap.size]? = some o
  simp
theorem St.new_apart (s : St w0 S w h Y) {b : Nat} {o : Obj} (hb : w.heap.size ≤ b) : ∀ q ∈ h, apartH (some b, o) q := by
  intro q hq c hc hqc
  cases hc
  have := (Array.getElem?_eq_some_iff.1 (s.own q hq b hqc).1).1
  omega
/-- a callee has turned nothing -/
theorem St.later (s : St w0 S w h Y) (e : Ex [] w w') : St w0 S w' h Y := by
  have hk : ∀ b (o : Obj), w.heap[b]? = some o → w'.heap[b]? = some o := fun b o hb => by
    rw [e.block b (Array.getElem?_eq_some_iff.1 hb).1 (by simp)]; exact hb
  refine ⟨s.ext.trans e (by simp), fun p hp b hb => ?_, s.apart, fun D hD => ?_, s.ynd⟩
  · obtain ⟨h1, h2, h3⟩ := s.own p hp b hb
    exact ⟨hk _ _ h1, h2, h3⟩
  · obtain ⟨h1, h2, h3⟩ := s.sys D hD
    exact ⟨h1, hk _ _ h2, h3⟩
/-- a new block of a callee's is known -/
theorem St.gain (s : St w0 S w h Y) (e : Ex [] w w') {b : Nat} {o : Obj} (hb : w'.heap[b]? = some o) (ho : isSys o = false) (hn : w.heap.size ≤ b) : St w0 S w' ((some b, o) :: h) Y := by
  have s' := s.later e
  refine ⟨s'.ext, ?_, List.pairwise_cons.2 ⟨s.new_apart hn, s.apart⟩, s'.sys, s'.ynd⟩
  intro p hp c hc
  rcases List.mem_cons.1 hp with rfl | hp
  · cases hc; exact ⟨hb, ho, .inl (Nat.le_trans s.ext.size hn)⟩
  · exact s'.own p hp c hc
theorem ex_alloc (w : World) (o : Obj) : Ex [] w (w.alloc o) :=
  ⟨rfl, rfl, rfl, by rw [World.size_alloc]; omega, fun b hb _ => Below.heap_alloc _ _ _ hb⟩
theorem St.alloc (s : St w0 S w h Y) {o : Obj} (ho : isSys o = false) : St w0 S (w.alloc o) ((some w.heap.size, o) :: h) Y :=
  s.gain (ex_alloc w o) (heap_alloc_new w o) ho (Nat.le_refl _)
theorem St.none (s : St w0 S w h Y) (o : Obj) : St w0 S w ((none, o) :: h) Y :=
  ⟨s.ext, fun p hp c hc => by
    rcases List.mem_cons.1 hp with rfl | hp
    · cases hc
    · exact s.own p hp c hc, List.pairwise_cons.2 ⟨fun q _ c hc => by simp at hc, s.apart⟩, s.sys, s.ynd⟩
theorem ex_drew (w : World) : Ex [] w { w with drawn := w.drawn + 1 } := ⟨rfl, rfl, rfl, Nat.le_refl _, fun _ _ _ => rfl⟩
theorem St.drew (s : St w0 S w h Y) : St w0 S { w with drawn := w.drawn + 1 } h Y := s.later (ex_drew w)
/-- one block of the call's own is turned, or has gone over into a new one -/
theorem St.turn (s : St w0 S w h Y) {j b : Nat} {o o' : Obj} (hj : h[j]? = some (some b, o)) (ho : isSys o' = false)
    (h1 : w'.os = w.os) (h2 : w'.tape = w.tape) (h3 : w'.output = w.output) (h4 : w.heap.size ≤ w'.heap.size) (h5 : w'.heap[b]? = some o') (h6 : ∀ i, i < w.heap.size → i ≠ b → w'.heap[i]? = w.heap[i]?) : St w0 S w' (h.set j (some b, o')) Y := by
  have hb := s.own _ (List.mem_of_getElem? hj) b rfl
  have hjl : j < h.length := (List.getElem?_eq_some_iff.1 hj).1
  have hbl := s.lt hj
  refine ⟨⟨h1.trans s.ext.os, h2.trans s.ext.tape, h3.trans s.ext.output, Nat.le_trans s.ext.size h4, ?_⟩, ?_, ?_, ?_, s.ynd⟩
  · intro i hi hn
    have hne : i ≠ b := by
      rintro rfl
      rcases hb.2.2 with hc | hc
      · omega
      · exact hn hc
    rw [h6 i (Nat.lt_of_lt_of_le hi s.ext.size) hne]; exact s.ext.block i hi hn
  · intro p hp c hc
    obtain ⟨i, hi⟩ := List.mem_iff_getElem?.1 hp
    rw [List.getElem?_set] at hi
    split at hi
    · rename_i e; subst e
      simp at hi; obtain ⟨_, rfl⟩ := hi
      cases hc
      exact ⟨h5, ho, hb.2.2⟩
    · rename_i hne
      obtain ⟨q1, q2, q3⟩ := s.own p (List.mem_of_getElem? hi) c hc
      refine ⟨?_, q2, q3⟩
      rw [h6 c (Array.getElem?_eq_some_iff.1 q1).1 ?_]; exact q1
      rintro rfl
      obtain ⟨p1, p2⟩ := p
      simp only at hc; subst hc
      exact hne (s.inj hj hi)
  · rw [List.pairwise_iff_getElem]
    intro i i' hi hi' hlt c hc hc'
    rw [List.length_set] at hi hi'
    have hap := List.pairwise_iff_getElem.1 s.apart i i' hi hi' hlt c
    obtain ⟨_, hj2⟩ := List.getElem?_eq_some_iff.1 hj
    rw [List.getElem_set] at hc hc'
    apply hap
    · split at hc
      · rename_i e; subst e; rw [hj2]; exact hc
      · exact hc
    · split at hc'
      · rename_i e; subst e; rw [hj2]; exact hc'
      · exact hc'
  · intro D hD
    obtain ⟨m1, m2, m3⟩ := s.sys D hD
    refine ⟨m1, ?_, m3⟩
    rw [h6 D.1 (Array.getElem?_eq_some_iff.1 m2).1 ?_]; exact m2
    intro e
    rw [e] at m2
    have e1 := Option.some.inj (hb.1.symm.trans m2)
    rw [← e1, hb.2.1] at m3
    cases m3
theorem St.subH {h' : Hl} (s : St w0 S w h Y) (hs : h'.Sublist h) : St w0 S w h' Y :=
  ⟨s.ext, fun p hp => s.own p (hs.subset hp), s.apart.sublist hs, s.sys, s.ynd⟩
/-- an entry is exchanged for a new block -/
theorem St.swap (s : St w0 S w h Y) (e : Ex [] w w') (j : Nat) {b : Nat} {o : Obj} (hb : w'.heap[b]? = some o) (ho : isSys o = false) (hn : w.heap.size ≤ b) : St w0 S w' (h.set j (some b, o)) Y := by
  have s' := s.later e
  refine ⟨s'.ext, ?_, ?_, s'.sys, s'.ynd⟩
  · intro p hp c hc
    obtain ⟨i, hi⟩ := List.mem_iff_getElem?.1 hp
    rw [List.getElem?_set] at hi
    split at hi
    · simp at hi; obtain ⟨_, rfl⟩ := hi
      cases hc; exact ⟨hb, ho, .inl (Nat.le_trans s.ext.size hn)⟩
    · exact s'.own p (List.mem_of_getElem? hi) c hc
  · rw [List.pairwise_iff_getElem]
    intro i i' hi hi' hlt c hc hc'
    rw [List.length_set] at hi hi'
    rw [List.getElem_set] at hc hc'
    split at hc
    · split at hc'
      · omega
      · exact s.new_apart hn (o := o) _ (List.getElem_mem hi') c hc hc'
    · split at hc'
      · exact s.new_apart hn (o := o) _ (List.getElem_mem hi) c hc' hc
      · exact List.pairwise_iff_getElem.1 s.apart i i' hi hi' hlt c hc hc'
end
end Go.Proofs.Wit
