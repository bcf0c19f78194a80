/- Laws of a calculus of walks, proved for any program: no condition beyond those that each theorem states. -/
import Derived.Test.YtoiafcoaeomnlaaDoorWpath

namespace Go.Proofs.Wit
open Go Go.RowKit
theorem upTo_if {σ : Type} {p : Nat → Bool} {f : Nat → σ → σ} {a : σ} : ∀ {n : Nat}, upTo (fun v a => if p v = true then f v a else a) a n = ((List.range n).filter p).foldl (fun a v => f v a) a
  | 0 => rfl
  | n + 1 => by
    rw [upTo, upTo_if, filter_range_succ, List.foldl_append]
    by_cases h : p n = true
    · rw [if_pos h, if_pos h]; rfl
    · rw [if_neg h, if_neg h]; rfl
theorem pts_range {s : W64} {n : Nat} (hn : n ≤ 64) (h : ∀ i, s.getLsbD i = true → i < n) : pts s = (List.range n).filter (fun i => s.getLsbD i) := by
  unfold pts
  have e : List.range 64 = List.range (n + (64 - n)) := by rw [show n + (64 - n) = 64 from by omega]
  rw [e, List.range_add, List.filter_append]
  have h2 : ((List.range (64 - n)).map (n + ·)).filter (fun i => s.getLsbD i) = [] := by
    rw [List.filter_eq_nil_iff]
    intro x hx
    obtain ⟨y, _, rfl⟩ := List.mem_map.1 hx
    intro hb
    have := h _ hb
    omega
  rw [h2, List.append_nil]
theorem in_bit {s : W64} {i : Nat} : ((s >>> i) &&& 1#64 == 1#64) = s.getLsbD i := by
  cases hb : s.getLsbD i with
  | true =>
    rw [beq_iff_eq]
    refine eq_of_bits (fun j _ => ?_)
    rw [BitVec.getLsbD_and, BitVec.getLsbD_ushiftRight, BitVec.getLsbD_one]
    by_cases e : j = 0
    · subst e; simp [hb]
    · simp [e]
  | false =>
    rw [beq_eq_false_iff_ne]
    intro e
    have := congrArg (fun x => BitVec.getLsbD x 0) e
    simp [hb] at this
theorem set_same {l : List W64} {k : Nat} (h : k < l.length) : l.set k (l.getD k 0#64) = l := by
  rw [List.getD_eq_getElem?_getD, List.getElem?_eq_getElem h]; exact List.set_getElem_self ..
/-- the words of Image, one by one -/
def imgU (r : List W64) (s : W64) (n : Nat) : W64 := upTo (fun u o => if s.getLsbD u = true then o ||| r.getD u 0#64 else o) 0#64 n
theorem imgU_bit {r : List W64} {s : W64} {n v : Nat} : (imgU r s n).getLsbD v = true ↔ ∃ w, w < n ∧ s.getLsbD w = true ∧ Rl r w v := by
  rw [imgU, upTo_if, foldl_or_bit]
  simp only [BitVec.getLsbD_zero, Bool.false_or, List.any_eq_true, List.mem_filter, List.mem_range]
  exact ⟨fun ⟨w, ⟨h1, h2⟩, h3⟩ => ⟨w, h1, h2, h3⟩, fun ⟨w, h1, h2, h3⟩ => ⟨w, ⟨h1, h2⟩, h3⟩⟩
theorem imgU_eq (r : List W64) (s : W64) : imgU r s r.length = mapR r s := by
  refine eq_of_bits (fun i _ => ?_)
  rw [Bool.eq_iff_iff, imgU_bit, mapR_bit]
  exact ⟨fun ⟨w, _, h⟩ => ⟨w, h⟩, fun ⟨w, h1, h2⟩ => ⟨w, h2.dom, h1, h2⟩⟩
/-- the lists of Converse, one by one -/
def revU (w : Nat) (s : W64) (out : List W64) (n : Nat) : List W64 := upTo (fun v out => if s.getLsbD v = true then out.set v (out.getD v 0#64 ||| 1#64 <<< w) else out) out n
theorem revU_length {w : Nat} {s : W64} {out : List W64} {n : Nat} : (revU w s out n).length = out.length :=
  upTo_inv (n := n) (fun _ (l : List W64) => l.length = out.length) rfl (fun k a _ h => by
    by_cases e : s.getLsbD k = true
    · rw [if_pos e, List.length_set]; exact h
    · rw [if_neg e]; exact h)
theorem revU_eq {w : Nat} {s : W64} {out : List W64} {n : Nat} (hn : n ≤ 64) (h : ∀ i, s.getLsbD i = true → i < n) : revU w s out n = revS w s out := by
  rw [revU, upTo_if, revS, pts_range hn h]
theorem union_eq {r s : List W64} (f : W64 → W64 → W64) : flm (fun w _ => f (r.getD w 0#64) (s.getD w 0#64)) (List.replicate r.length 0#64) r.length = flm (fun w x => f x (s.getD w 0#64)) r r.length := by
  refine list_ext (by simp [flm_length]) (fun u v => ?_)
  rcases Nat.lt_or_ge u r.length with h | h
  · rw [Rl.toBit, Rl.toBit, flm_get (by simpa using h), flm_get h, if_pos h, if_pos h]
  · constructor
    · intro x; have := x.dom; rw [flm_length, List.length_replicate] at this; omega
    · intro x; have := x.dom; rw [flm_length] at this; omega
theorem GoodS.least {g : List W64 → List W64} {F : List W64 → Prop} (h : GoodS g F) {r : List W64} (hv : Val r) (hF : F (g r)) : Least F r (g r) :=
  ⟨h.val hv, h.infl hv, hF, fun c hc hl hFc => by
    have := h.mono hv hc hl
    rwa [(h.fix hc).2 hFc] at this⟩
theorem Least.self {F : List W64 → Prop} {r c : List W64} (hv : Val r) (h : Least F r c) : c = r ↔ F r :=
  ⟨fun e => e ▸ h.has, fun hF => (h.least r hv (.refl r) hF).antisymm h.le⟩
theorem upTo_refl_length {r : List W64} {n : Nat} : (upTo reflS r n).length = r.length :=
  upTo_inv (n := n) (fun _ (l : List W64) => l.length = r.length) rfl (fun k a _ h => by rw [reflS, List.length_set]; exact h)
theorem refl_least {r : List W64} (hv : Val r) : Least reflR r (upTo reflS r r.length) := by
  refine refl_good.least hv ?_
  intro w hw
  simp only [upTo_refl_length] at hw
  have key : ∀ n, n ≤ r.length → ∀ w, w < n → Rl (upTo reflS r n) w w := by
    intro n
    induction n with
    | zero => intro _ w h; omega
    | succ n ih =>
      intro hn w hwn
      rw [upTo, reflS, set_bit]
      by_cases e : w = n
      · subst e
        exact .inr ⟨rfl, by rw [upTo_refl_length]; omega, (shift_one_bit (by have := hv.len; omega)).2 rfl⟩
      · exact .inl (ih (by omega) w (by omega))
  exact key _ (Nat.le_refl _) w hw
theorem symm_bit {r : List W64} (hv : Val r) (u v : Nat) : Rl (symmG r) u v ↔ Rl r u v ∨ Rl r v u := by
  rcases Nat.lt_or_ge u r.length with h | h
  · have e1 : Rl (symmG r) u v ↔ Rl r u v ∨ Rl (revR r) u v := by
      show ((flm _ r r.length).getD u 0#64).getLsbD v = true ↔ _
      rw [flm_get h, if_pos h, BitVec.getLsbD_or, Bool.or_eq_true]; rfl
    exact e1.trans (or_congr Iff.rfl (revR_bit hv h))
  · constructor
    · intro x
      have := x.dom
      rw [symmG, flm_length] at this
      omega
    · rintro (x | x)
      · have := x.dom; omega
      · have := hv.lt _ _ x; omega
theorem symm_least {r : List W64} (hv : Val r) : Least symmR r (symmG r) := by
  refine symm_good.least hv (fun u v h => ?_)
  exact (symm_bit hv v u).2 ((symm_bit hv u v).1 h).symm
/-- Box and Diamond, by their points -/
def diaU (r : List W64) (s : W64) (n : Nat) : W64 := upTo (fun w out => if (r.getD w 0#64 &&& s != 0#64) = true then out ||| 1#64 <<< w else out) 0#64 n
def boxU (r : List W64) (s : W64) (n : Nat) : W64 := upTo (fun w out => if (r.getD w 0#64 &&& ~~~s == 0#64) = true then out ||| 1#64 <<< w else out) 0#64 n
theorem upTo_ones {p : Nat → Bool} {n v : Nat} (hn : n ≤ 64) : (upTo (fun w (out : W64) => if p w = true then out ||| 1#64 <<< w else out) 0#64 n).getLsbD v = true ↔ v < n ∧ p v = true := by
  induction n with
  | zero => rw [upTo]; simp
  | succ n ih =>
    rw [upTo]
    by_cases h : p n = true
    · rw [if_pos h, BitVec.getLsbD_or, Bool.or_eq_true, ih (by omega), shift_one_bit (by omega)]
      constructor
      · rintro (⟨h1, h2⟩ | rfl)
        · exact ⟨by omega, h2⟩
        · exact ⟨by omega, h⟩
      · rintro ⟨h1, h2⟩
        by_cases e : v = n
        · exact .inr e
        · exact .inl ⟨by omega, h2⟩
    · rw [if_neg h, ih (by omega)]
      constructor
      · rintro ⟨h1, h2⟩; exact ⟨by omega, h2⟩
      · rintro ⟨h1, h2⟩
        refine ⟨?_, h2⟩
        rcases Nat.lt_succ_iff_lt_or_eq.1 h1 with h3 | rfl
        · exact h3
        · exact absurd h2 h
theorem boxU_bit {r : List W64} {s : W64} {v : Nat} (hv : Val r) : (boxU r s r.length).getLsbD v = true ↔ v < r.length ∧ ∀ u, Rl r v u → s.getLsbD u = true := by
  rw [boxU, upTo_ones hv.len, beq_iff_eq, andNot_zero]; rfl
theorem ne_zero_iff {s : W64} : s ≠ 0#64 ↔ ∃ i, s.getLsbD i = true := by
  constructor
  · intro h; exact ⟨tz s, (tz_spec h).2.1⟩
  · rintro ⟨i, hi⟩ rfl; simp at hi
theorem diaU_bit {r : List W64} {s : W64} {v : Nat} (hv : Val r) : (diaU r s r.length).getLsbD v = true ↔ ∃ u, Rl r v u ∧ s.getLsbD u = true := by
  rw [diaU, upTo_ones hv.len, bne_iff_ne, ne_zero_iff]
  simp only [BitVec.getLsbD_and, Bool.and_eq_true]
  constructor
  · rintro ⟨_, u, h1, h2⟩; exact ⟨u, h1, h2⟩
  · rintro ⟨u, h1, h2⟩; exact ⟨h1.dom, u, h1, h2⟩
theorem dia_eq {r : List W64} {s : W64} (hv : Val r) : allW r.length &&& ~~~ (boxU r (~~~s) r.length) = diaU r s r.length := by
  refine eq_of_bits (fun i hi => ?_)
  rw [Bool.eq_iff_iff, diaU_bit hv, BitVec.getLsbD_and, allW_bit hv.len hi, BitVec.getLsbD_not, Bool.and_eq_true, Bool.and_eq_true, decide_eq_true_eq, decide_eq_true_eq, Bool.not_eq_true', ← Bool.not_eq_true, boxU_bit hv]
  constructor
  · rintro ⟨h1, _, h2⟩
    apply Classical.byContradiction
    intro hn
    refine h2 ⟨h1, fun u hu => ?_⟩
    rw [BitVec.getLsbD_not, decide_eq_true (bit_lt hu), Bool.true_and, Bool.not_eq_true', ← Bool.not_eq_true]
    exact fun h3 => hn ⟨u, hu, h3⟩
  · rintro ⟨u, h1, h2⟩
    refine ⟨h1.dom, hi, fun h3 => ?_⟩
    have := h3.2 u h1
    rw [BitVec.getLsbD_not, h2] at this
    simp at this
/-- Reach by rounds -/
def reachU (r : List W64) (s : W64) (n : Nat) : W64 := upTo (fun _ o => o ||| mapR r o) (mapR r s) n
theorem reachU_least {r : List W64} {s : W64} (hv : Val r) :
    mapR r s &&& ~~~(reachU r s r.length) = 0#64 ∧ mapR r (reachU r s r.length) &&& ~~~(reachU r s r.length) = 0#64 ∧ ∀ c, mapR r s &&& ~~~c = 0#64 → mapR r c &&& ~~~c = 0#64 → reachU r s r.length &&& ~~~c = 0#64 := by
  have hb : ∀ n, mapR r s &&& ~~~(reachU r s n) = 0#64 := by
    intro n
    induction n with
    | zero => exact andNot_zero.2 (fun i h => h)
    | succ n ih => exact sub_or ih
  have hc : ∀ c, mapR r s &&& ~~~c = 0#64 → mapR r c &&& ~~~c = 0#64 → ∀ n, reachU r s n &&& ~~~c = 0#64 := by
    intro c h1 h2 n
    induction n with
    | zero => exact h1
    | succ n ih => exact or_sub ih (map_sub ih h2)
  have hd : ∀ n i, (reachU r s n).getLsbD i = true → i < r.length := by
    intro n
    induction n with
    | zero => intro i h; obtain ⟨w, _, h⟩ := mapR_bit.1 h; exact hv.lt w i h
    | succ n ih =>
      intro i h
      rw [reachU, upTo, BitVec.getLsbD_or, Bool.or_eq_true] at h
      rcases h with h | h
      · exact ih i h
      · obtain ⟨w, _, h⟩ := mapR_bit.1 h; exact hv.lt w i h
  refine ⟨hb _, ?_, fun c h1 h2 => hc c h1 h2 _⟩
  -- the rounds stand still at some round
  have key : ∀ n, (mapR r (reachU r s n) &&& ~~~(reachU r s n) = 0#64) ∨ n + 1 ≤ card (reachU r s n) := by
    intro n
    induction n with
    | zero =>
      by_cases h0 : mapR r s = 0#64
      · refine .inl ?_
        show mapR r (mapR r s) &&& ~~~(mapR r s) = 0#64
        rw [h0, andNot_zero]
        intro i hi
        obtain ⟨w, h1, _⟩ := mapR_bit.1 hi
        simp at h1
      · refine .inr ?_
        have := card_lt (s := 0#64) (t := mapR r s) (by simpa using h0)
        rw [BitVec.zero_or] at this
        show 1 ≤ card (mapR r s)
        omega
    | succ n ih =>
      by_cases e : reachU r s n ||| mapR r (reachU r s n) = reachU r s n
      · refine .inl ?_
        have e2 : reachU r s (n + 1) = reachU r s n := e
        rw [e2]; exact or_eq_left e
      · rcases ih with h | h
        · exact absurd (by
            refine eq_of_bits (fun i _ => ?_)
            rw [BitVec.getLsbD_or]
            cases hm : (mapR r (reachU r s n)).getLsbD i with
            | false => simp
            | true => rw [andNot_zero.1 h i hm]; rfl) e
        · refine .inr ?_
          have := card_lt e
          have e2 : reachU r s (n + 1) = reachU r s n ||| mapR r (reachU r s n) := rfl
          rw [e2]; omega
  rcases key r.length with h | h
  · exact h
  · have := card_le_n hv.len (hd r.length)
    omega
end Go.Proofs.Wit
namespace Go.Proofs.Wit
theorem mapR_all {r : List W64} {s : W64} (hv : Val r) : mapR r (s &&& allW r.length) = mapR r s := by
  refine eq_of_bits (fun i _ => ?_)
  rw [Bool.eq_iff_iff, mapR_bit, mapR_bit]
  constructor
  · rintro ⟨w, h1, h2⟩
    rw [BitVec.getLsbD_and, Bool.and_eq_true] at h1
    exact ⟨w, h1.1, h2⟩
  · rintro ⟨w, h1, h2⟩
    refine ⟨w, ?_, h2⟩
    rw [BitVec.getLsbD_and, h1, allW_bit hv.len (bit_lt h1)]
    simpa using h2.dom
/-- the reference's step at a pair -/
def pairAt (e : Bool) (w u : Nat) : Nat := if e = true then u else w
def pairSrc (e : Bool) (w u : Nat) : Nat := if e = true then w else u
def pairS (e : Bool) (w u : Nat) (l : List W64) : List W64 := l.set (pairAt e w u) (l.getD (pairAt e w u) 0#64 ||| l.getD (pairSrc e w u) 0#64)
def stG (e : Bool) (w u : Nat) (l : List W64) : List W64 := if (l.getD w 0#64).getLsbD u = true then pairS e w u l else l
def clG (e : Bool) (w u : Nat) (l : List W64) : Prop := Rl l w u → ∀ x, Rl l (pairSrc e w u) x → Rl l (pairAt e w u) x
def allG (e : Bool) (l : List W64) : Prop := if e = true then euclR l else tranR l
theorem allG_iff {e : Bool} {l : List W64} : allG e l ↔ ∀ w u, clG e w u l := by
  unfold allG clG pairAt pairSrc
  cases e
  · simp only [Bool.false_eq_true, if_false]
    exact ⟨fun h w u h1 x h2 => h w u x h1 h2, fun h w u x h1 h2 => h w u h1 x h2⟩
  · simp only [if_true]
    exact ⟨fun h w u h1 x h2 => h w u x h1 h2, fun h w u x h1 h2 => h w u h1 x h2⟩
theorem pair_good (e : Bool) (w u : Nat) : GoodS (stG e w u) (clG e w u) := by
  refine (GoodS.ofBits (fun l a b => Rl l w u ∧ a = pairAt e w u ∧ Rl l (pairSrc e w u) b) (fun l => ?_) (fun l hv a b => ?_) (fun l hv a b h => hv.lt _ _ h.2.2) (fun l m _ _ le a b h => ⟨le.sub _ _ h.1, h.2.1, le.sub _ _ h.2.2⟩)).iff (fun {l} _ => ?_)
  · unfold stG; split
    · rw [pairS, List.length_set]
    · rfl
  · unfold stG
    by_cases h : (l.getD w 0#64).getLsbD u = true
    · rw [if_pos h, pairS, set_bit]
      refine or_congr Iff.rfl ⟨fun ⟨h1, _, h2⟩ => ⟨h, h1, h2⟩, fun ⟨_, h1, h2⟩ => ⟨h1, ?_, h2⟩⟩
      unfold pairAt; split
      · exact hv.lt w u h
      · exact Rl.dom (v := u) h
    · rw [if_neg h]
      exact ⟨.inl, fun x => x.elim (fun x => x) (fun x => absurd x.1 h)⟩
  · exact ⟨fun h h1 x h2 => h _ x ⟨h1, rfl, h2⟩, fun h a b ⟨h1, h2, h3⟩ => h2 ▸ h h1 b h3⟩
/-- what is known of the list in a pass of the reference -/
structure Pass (e : Bool) (r o0 out : List W64) (again : Bool) (k j : Nat) : Prop where
  val : Val out
  le : Le r out
  min : ∀ c, Val c → Le r c → allG e c → Le out c
  up : Le o0 out
  yes : again = true → o0 ≠ out
  no : again = false → out = o0 ∧ ∀ w u, (w < k ∨ (w = k ∧ u < j)) → clG e w u out
theorem Pass.go {e : Bool} {r o0 out : List W64} {again : Bool} {k j : Nat} (h : Pass e r o0 out again k j) (again' : Bool) (hy : again' = true → again = true ∨ stG e k j out ≠ out) (hn : again' = false → again = false ∧ stG e k j out = out) :
    Pass e r o0 (stG e k j out) again' k (j + 1) where
  val := (pair_good e k j).val h.val
  le := h.le.trans ((pair_good e k j).infl h.val)
  min c h1 h2 h3 := by
    have := (pair_good e k j).mono h.val h1 (h.min c h1 h2 h3)
    rwa [((pair_good e k j).fix h1).2 (allG_iff.1 h3 k j)] at this
  up := h.up.trans ((pair_good e k j).infl h.val)
  yes ha := by
    intro e1
    have hle := (pair_good e k j).infl h.val
    have : Le out o0 := by rw [e1]; exact hle
    have e2 : o0 = out := h.up.antisymm this
    rcases hy ha with h3 | h3
    · exact h.yes h3 e2
    · exact h3 (e1.symm.trans e2)
  no ha := by
    obtain ⟨h1, h2⟩ := hn ha
    obtain ⟨h3, h4⟩ := h.no h1
    refine ⟨h2.trans h3, fun w u hwu => ?_⟩
    rw [h2]
    rcases hwu with h5 | ⟨rfl, h5⟩
    · exact h4 w u (.inl h5)
    · rcases Nat.lt_succ_iff_lt_or_eq.1 h5 with h6 | rfl
      · exact h4 w u (.inr ⟨rfl, h6⟩)
      · exact ((pair_good e w u).fix h.val).1 h2
theorem Pass.row {e : Bool} {r o0 out : List W64} {again : Bool} {k j : Nat} (h : Pass e r o0 out again k j) (hj : out.length ≤ j) : Pass e r o0 out again (k + 1) 0 :=
  { h with no := fun ha => ⟨(h.no ha).1, fun w u hwu => by
      rcases hwu with h5 | ⟨_, h5⟩
      · rcases Nat.lt_succ_iff_lt_or_eq.1 h5 with h6 | rfl
        · exact (h.no ha).2 w u (.inl h6)
        · by_cases hu : u < j
          · exact (h.no ha).2 w u (.inr ⟨rfl, hu⟩)
          · intro h7
            have := h.val.lt _ _ h7
            omega
      · omega⟩ }
theorem Pass.done {e : Bool} {r o0 out : List W64} {k : Nat} (h : Pass e r o0 out false k 0) (hk : out.length ≤ k) : allG e out :=
  allG_iff.2 (fun w u => by
    by_cases hw : w < k
    · exact (h.no rfl).2 w u (.inl hw)
    · intro h7
      have := h7.dom
      omega)
/-- the lists of near points -/
def nearL (r : List W64) (t : W64) (k : Nat) : List W64 := (List.range (k + 1)).map (near r t)
theorem nearL_length {r : List W64} {t : W64} {k : Nat} : (nearL r t k).length = k + 1 := by simp [nearL]
theorem nearL_get {r : List W64} {t : W64} {k j : Nat} (h : j ≤ k) : (nearL r t k).getD j 0#64 = near r t j := by simp [nearL, List.getD_eq_getElem?_getD, Nat.lt_succ_of_le h]
theorem nearL_succ {r : List W64} {t : W64} {k : Nat} : nearL r t k ++ [near r t (k + 1)] = nearL r t (k + 1) := by
  unfold nearL; rw [List.range_succ (n := k + 1), List.map_append]; rfl
theorem near_dia {r : List W64} {t : W64} {k : Nat} (hv : Val r) : diaU r (near r t k) r.length = near r t (k + 1) := by
  refine eq_of_bits (fun i _ => ?_)
  rw [Bool.eq_iff_iff, diaU_bit hv, near_bit hv]
/-- the rest of the reference's walk, with c rounds to go -/
def walkR (r : List W64) (t : W64) : Nat → W64 → List Nat
  | 0, _ => []
  | c + 1, s => tz (s &&& near r t c) :: tailP r t c (tz (s &&& near r t c))
theorem walkR_next {r : List W64} {t s : W64} {c : Nat} : walkR r t (c + 1) s = tz (s &&& near r t c) :: walkR r t c (r.getD (tz (s &&& near r t c)) 0#64) := by
  cases c <;> rfl
/-- a round of the reference's walk finds a point -/
def WalkOk (r : List W64) (t : W64) : Nat → W64 → Prop
  | 0, _ => True
  | c + 1, s => s &&& near r t c ≠ 0#64 ∧ AtL r t c (tz (s &&& near r t c))
theorem WalkOk.next {r : List W64} {t s : W64} {c : Nat} (hv : Val r) (h : WalkOk r t (c + 1) s) : WalkOk r t c (r.getD (tz (s &&& near r t c)) 0#64) := by
  cases c with
  | zero => trivial
  | succ c => exact ⟨(h.2.next hv).1, (h.2.next hv).2.1⟩
end Go.Proofs.Wit
namespace Go.Proofs.Wit
theorem exists_short {r : List W64} {f t : W64} : ∀ {k : Nat}, 1 ≤ k → f &&& near r t k ≠ 0#64 → ∃ j, Short r f t j := by
  intro k
  induction k using Nat.strongRecOn with
  | _ k ih =>
    intro h1 h2
    by_cases hx : ∃ j, 1 ≤ j ∧ j < k ∧ f &&& near r t j ≠ 0#64
    · obtain ⟨j, h3, h4, h5⟩ := hx
      exact ih j h4 h3 h5
    · exact ⟨k, h1, h2, fun j h3 h4 => Classical.byContradiction (fun h5 => hx ⟨j, h3, h4, h5⟩)⟩
theorem none_le {r : List W64} {f t : W64} (hv : Val r) (h : ∀ j, 1 ≤ j → j ≤ r.length → f &&& near r t j = 0#64) : ∀ k, 1 ≤ k → f &&& near r t k = 0#64 := by
  intro k hk
  apply Classical.byContradiction
  intro hn
  obtain ⟨j, hj⟩ := exists_short hk hn
  exact hj.ne (h j hj.one (hj.le hv))
theorem and_near {a b : W64} : (a &&& b) &&& a = b &&& a := by
  refine eq_of_bits (fun i _ => ?_)
  simp only [BitVec.getLsbD_and]
  cases a.getLsbD i <;> simp
theorem walk_path {r : List W64} {f t : W64} {k : Nat} : walkR r t (k + 1) (near r t k &&& f) = pathK r t f k := by
  rw [walkR, pathK, and_near]
theorem walk_ok {r : List W64} {f t : W64} {k : Nat} (h : Short r f t k) : WalkOk r t (k + 1) (near r t k &&& f) := by
  refine ⟨by rw [and_near]; exact h.ne, ?_⟩
  rw [and_near]; exact AtL.start h
end Go.Proofs.Wit
