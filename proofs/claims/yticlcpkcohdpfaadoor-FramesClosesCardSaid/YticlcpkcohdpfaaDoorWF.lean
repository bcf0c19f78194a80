/- Laws of a calculus of walks, proved for any program: no condition beyond those that each theorem states. -/
import Derived.Test.YticlcpkcohdpfaaDoorWE
namespace Go.Proofs.Wit
open Go Go.RowKit
/-! closing, plainly -/
theorem propsL_4 {l p : Int} (h : p ∈ propsL l) : p = 1 ∨ p = 2 ∨ p = 4 ∨ p = 5 := by
  unfold propsL at h
  repeat' (split at h)
  all_goals simp at h
  all_goals omega
theorem dead {l : List W64} {w : Nat} (h : l.getD w 0#64 = 0#64) (v : Nat) : ¬ Rl l w v := fun x => by rw [Rl.toBit, h] at x; simp at x
theorem ser_has {ps : List Int} (h4 : ∀ p ∈ ps, p = 1 ∨ p = 2 ∨ p = 4 ∨ p = 5) {c : List W64} (hv : Val c) (hc : closP ps c) : ∀ p ∈ ps, PropR p (serU ps c) := by
  intro p hp
  have hb := fun {w v : Nat} => serU_bit (ps := ps) (l := c) hv.len (w := w) (v := v)
  rcases h4 p hp with rfl | rfl | rfl | rfl
  · show serR _
    intro hm
    obtain ⟨i, hi, e⟩ := List.mem_iff_getElem.1 hm
    have hi2 : i < c.length := by rwa [serU_length] at hi
    have e2 : (serU ps c).getD i 0#64 = 0#64 := by rw [List.getD_eq_getElem?_getD, List.getElem?_eq_getElem hi]; exact e
    rw [serU_get hi2] at e2
    split at e2
    · have h64 := hv.len
      have := (shift_one_bit (w := i) (v := i) (by omega)).2 rfl
      rw [e2] at this; simp at this
    · rename_i h; exact h ⟨hp, e2⟩
  · show reflR _
    intro w hw
    rw [serU_length] at hw
    exact hb.2 (.inl (hc.1 hp w hw))
  · show tranR _
    have ht := hc.2.1 hp
    intro u v x h1 h2
    rcases hb.1 h1 with h1 | ⟨_, _, rfl, hd⟩
    · rcases hb.1 h2 with h2 | ⟨_, _, rfl, hd⟩
      · exact hb.2 (.inl (ht u v x h1 h2))
      · exact hb.2 (.inl h1)
    · exact h2
  · show euclR _
    have he := hc.2.2 hp
    intro u v x h1 h2
    rcases hb.1 h1 with h1 | ⟨a1, a2, rfl, hd⟩
    · rcases hb.1 h2 with h2 | ⟨_, _, rfl, hd⟩
      · exact hb.2 (.inl (he u v x h1 h2))
      · exact absurd h1 (dead hd v)
    · exact h2
theorem clos_of {ps : List Int} {r : List W64} (h : ∀ p ∈ ps, PropR p r) : closP ps r := ⟨fun x => h 2 x, fun x => h 4 x, fun x => h 5 x⟩
theorem least_self {ps : List Int} {r c : List W64} (hv : Val r) (h : closP ps r) (hL : Least (closP ps) r c) : c = r := (hL.least r hv (.refl _) h).antisymm hL.le
theorem ser_self {ps : List Int} {r : List W64} (h : 1 ∈ ps → serR r) : serU ps r = r := by
  refine List.ext_getElem serU_length (fun i h1 h2 => ?_)
  have e := serU_get (ps := ps) h2
  rw [List.getD_eq_getElem?_getD, List.getElem?_eq_getElem h1, Option.getD_some] at e
  rw [e]
  have e2 : r.getD i 0#64 = r[i] := by rw [List.getD_eq_getElem?_getD, List.getElem?_eq_getElem h2]; rfl
  split
  · rename_i hh
    exfalso
    refine h hh.1 ?_
    rw [← hh.2, e2]; exact List.getElem_mem h2
  · exact e2
/-- what is left of a relation of the logic when it is closed -/
theorem close_self {l : Int} {r c : List W64} (h : hasL r l = true) (hL : Least (closP (propsL l)) r c) : serU (propsL l) c = r := by
  obtain ⟨_, h1, h2⟩ := hasL_true.1 h
  have hv := check_zero.1 h1
  rw [least_self hv (clos_of h2) hL]
  exact ser_self (fun x => h2 1 x)
theorem close_has {l : Int} (hE : propsE l = 0) {r c : List W64} (hL : Least (closP (propsL l)) r c) : hasL (serU (propsL l) c) l = true := by
  refine hasL_true.2 ⟨hE, ?_, ser_has (fun p hp => propsL_4 hp) hL.val hL.has⟩
  exact check_zero.2 (serU_val hL.val)
/-- a closed model, all in all -/
structure ClosedF (n : Int) (val : List W64) (rel : List (List W64)) (l : Int) (n' : Int) (val' : List W64) (rel' : List (List W64)) : Prop where
  n_ : n' = n
  val_ : val' = val
  len : rel'.length = rel.length
  row : ∀ i (h : i < rel.length) (h' : i < rel'.length), ∃ c, Least (closP (propsL l)) rel[i] c ∧ rel'[i] = serU (propsL l) c
theorem ClosedM.full {n : Int} {val : List W64} {rel : List (List W64)} {l : Int} {n' : Int} {val' : List W64} {rel' : List (List W64)} (h : ClosedM n val rel l n' val' rel') (h0 : errE n val rel l = 0) : ClosedF n val rel l n' val' rel' := by
  rw [ClosedM, if_neg (by simp [h0])] at h
  obtain ⟨h1, h2, h3, h4⟩ := h
  refine ⟨h1, h2, h3, fun i hi hi' => ?_⟩
  obtain ⟨c, h5, h6⟩ := h4 i _ (List.getElem?_eq_getElem hi)
  rw [List.getElem?_eq_getElem hi'] at h6
  exact ⟨c, h5, Option.some.inj h6⟩
section
variable {n : Int} {val : List W64} {rel : List (List W64)} {l : Int} {n' : Int} {val' : List W64} {rel' : List (List W64)}
theorem ClosedF.has (h : ClosedF n val rel l n' val' rel') (hE : propsE l = 0) : ∀ r ∈ rel', hasL r l = true := fun r hr => by
  obtain ⟨i, hi, rfl⟩ := List.mem_iff_getElem.1 hr
  obtain ⟨c, h1, h2⟩ := h.row i (by have := h.len; omega) hi
  rw [h2]; exact close_has hE h1
theorem ClosedF.valid (h : ClosedF n val rel l n' val' rel') (hV : ValM n val rel) : ValM n' val' rel' := by
  have hrow : ∀ r ∈ rel', Val r ∧ (r.length : Int) = n := fun r hr => by
    obtain ⟨i, hi, rfl⟩ := List.mem_iff_getElem.1 hr
    have hi2 : i < rel.length := by have := h.len; omega
    obtain ⟨c, h1, h2⟩ := h.row i hi2 hi
    rw [h2]
    refine ⟨serU_val h1.val, ?_⟩
    rw [serU_length, ← h1.le.len]
    exact hV.len _ (List.getElem_mem hi2)
  rw [h.n_, h.val_]
  exact ⟨hV.n1, hV.n64, by rw [h.len]; exact hV.agents, hV.facts, fun r hr => (hrow r hr).2, fun r hr => (hrow r hr).1, hV.out⟩
theorem ClosedF.inM (h : ClosedF n val rel l n' val' rel') (hV : ValM n val rel) (hE : propsE l = 0) : inM n' val' rel' l = true := inM_true.2 ⟨hE, checkM_zero.2 (h.valid hV), h.has hE⟩
theorem ClosedF.same (h : ClosedF n val rel l n' val' rel') (hi : ∀ r ∈ rel, hasL r l = true) : n' = n ∧ val' = val ∧ rel' = rel := by
  refine ⟨h.n_, h.val_, List.ext_getElem h.len (fun i h1 h2 => ?_)⟩
  obtain ⟨c, h3, h4⟩ := h.row i h2 h1
  rw [h4]; exact close_self (hi _ (List.getElem_mem h2)) h3
theorem ClosedF.le (h : ClosedF n val rel l n' val' rel') {i : Nat} (hi : i < rel.length) (hi' : i < rel'.length) : Le rel[i] rel'[i] := by
  obtain ⟨c, h1, h2⟩ := h.row i hi hi'
  rw [h2]; exact h1.le.trans (serU_le h1.val)
theorem ClosedF.least (h : ClosedF n val rel l n' val' rel') {i : Nat} (hi : i < rel.length) (hi' : i < rel'.length) (h1 : l ≠ 1) (h5 : l ≠ 5) {r : List W64} (hr : hasL r l = true) (hle : Le rel[i] r) : Le rel'[i] r := by
  obtain ⟨c, h2, h3⟩ := h.row i hi hi'
  obtain ⟨_, a, b⟩ := hasL_true.1 hr
  have hno : ¬ (1 : Int) ∈ propsL l := by
    unfold propsL
    rw [if_neg h1]
    repeat' split
    all_goals simp
    all_goals omega
  rw [h3, ser_self (fun x => absurd x hno)]
  exact h2.least r (check_zero.1 a) hle (clos_of b)
theorem sameM_refl {n n' : Int} {val val' : List W64} {rel rel' : List (List W64)} (h : n = n' ∧ val = val' ∧ rel = rel') : sameM n n' val val' rel rel' = true := by
  obtain ⟨rfl, rfl, rfl⟩ := h; simp [sameM]
theorem le_of_bits {r s : List W64} (hl : r.length = s.length) (h : ∀ w, w < r.length → r.getD w 0#64 &&& ~~~(s.getD w 0#64) = 0#64) : Le r s := ⟨hl, fun u v x => andNot_zero.1 (h u x.dom) v x⟩
end
end Go.Proofs.Wit
