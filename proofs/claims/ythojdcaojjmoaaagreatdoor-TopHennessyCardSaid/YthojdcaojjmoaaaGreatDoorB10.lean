/- Laws of walks, for any program, under the conditions that each theorem states. -/
import Derived.Test.YthojdcaojjmoaaaGreatDoorB08
namespace Go.Proofs.Wit
/-! bisimulations between two models -/
def forB (r s z : List W64) (v w : Nat) : Bool := (pts (r.getD v 0#64)).all (fun x => z.getD x 0#64 &&& s.getD w 0#64 != 0#64) && (s.getD w 0#64 &&& ~~~ mapR z (r.getD v 0#64) == 0#64)
def matB (va vb : List W64) (ra rb : List (List W64)) (z : List W64) (v w : Nat) : Bool := (fm va v == fm vb w) && (List.range ra.length).all (fun i => forB (ra.getD i []) (rb.getD i []) z v w)
def LeZ (l c : List W64) : Prop := ∀ u v, Rl l u v → Rl c u v
theorem forB_iff {r s z : List W64} {v w : Nat} : forB r s z v w = true ↔ (∀ x, Rl r v x → ∃ y, Rl z x y ∧ Rl s w y) ∧ (∀ y, Rl s w y → ∃ x, Rl r v x ∧ Rl z x y) := by
  unfold forB
  rw [Bool.and_eq_true, List.all_eq_true, beq_iff_eq, andNot_zero]
  constructor
  · rintro ⟨h1, h2⟩
    refine ⟨fun x hx => ?_, fun y hy => ?_⟩
    · have := h1 x (mem_pts.2 ⟨bit_lt hx, hx⟩)
      rw [bne_iff_ne] at this
      obtain ⟨i, hi⟩ := ne_zero_iff.1 this
      rw [BitVec.getLsbD_and, Bool.and_eq_true] at hi
      exact ⟨i, hi.1, hi.2⟩
    · obtain ⟨x, h3, h4⟩ := mapR_bit.1 (h2 y hy)
      exact ⟨x, h3, h4⟩
  · rintro ⟨h1, h2⟩
    refine ⟨fun x hx => ?_, fun y hy => ?_⟩
    · obtain ⟨y, h3, h4⟩ := h1 x (mem_pts.1 hx).2
      rw [bne_iff_ne]
      exact ne_zero_iff.2 ⟨y, by rw [BitVec.getLsbD_and, Bool.and_eq_true]; exact ⟨h3, h4⟩⟩
    · obtain ⟨x, h3, h4⟩ := h2 y hy
      exact mapR_bit.2 ⟨x, h3, h4⟩
section
variable {va vb : List W64} {ra rb : List (List W64)}
theorem matB_iff {z : List W64} {v w : Nat} : matB va vb ra rb z v w = true ↔ fm va v = fm vb w ∧ ∀ i, i < ra.length → forB (ra.getD i []) (rb.getD i []) z v w = true := by
  rw [matB, Bool.and_eq_true, beq_iff_eq, List.all_eq_true]
  simp only [List.mem_range]
theorem matB_mono {z z' : List W64} (h : LeZ z z') {v w : Nat} (hm : matB va vb ra rb z v w = true) : matB va vb ra rb z' v w = true := by
  rw [matB_iff] at hm ⊢
  refine ⟨hm.1, fun i hi => ?_⟩
  obtain ⟨h1, h2⟩ := forB_iff.1 (hm.2 i hi)
  exact forB_iff.2 ⟨fun x hx => by obtain ⟨y, h3, h4⟩ := h1 x hx; exact ⟨y, h _ _ h3, h4⟩, fun y hy => by obtain ⟨x, h3, h4⟩ := h2 y hy; exact ⟨x, h3, h _ _ h4⟩⟩
def SimB (va vb : List W64) (ra rb : List (List W64)) (z : List W64) : Prop := ∀ v w, Rl z v w → matB va vb ra rb z v w = true
structure InvZ (va vb : List W64) (ra rb : List (List W64)) (na nb : Nat) (z : List W64) : Prop where
  len : z.length = na
  rng : ∀ v w, Rl z v w → w < nb
  top : ∀ z' : List W64, z'.length = na → (∀ v w, Rl z' v w → w < nb) → SimB va vb ra rb z' → LeZ z' z
structure Grt (va vb : List W64) (ra rb : List (List W64)) (na nb : Nat) (z : List W64) : Prop extends InvZ va vb ra rb na nb z where
  sim : SimB va vb ra rb z
theorem leZ_antisymm {z z' : List W64} (hl : z.length = z'.length) (h : LeZ z z') (h' : LeZ z' z) : z = z' := by
  apply List.ext_getElem hl
  intro i h1 h2
  apply eq_of_bits
  intro j hj
  have e1 : z.getD i 0#64 = z[i] := by simp [List.getD_eq_getElem?_getD, h1]
  have e2 : z'.getD i 0#64 = z'[i] := by simp [List.getD_eq_getElem?_getD, h2]
  rw [← e1, ← e2, Bool.eq_iff_iff]
  exact ⟨h i j, h' i j⟩
theorem Grt.uniq {na nb : Nat} {z z' : List W64} (h : Grt va vb ra rb na nb z) (h' : Grt va vb ra rb na nb z') : z = z' :=
  leZ_antisymm (h.len.trans h'.len.symm) (h'.top z h.len h.rng h.sim) (h.top z' h'.len h'.rng h'.sim)
def delZ (z : List W64) (v w : Nat) : List W64 := z.set v (z.getD v 0#64 &&& ~~~(1#64 <<< w))
theorem one_bit {w i : Nat} (hw : w < 64) : (1#64 <<< w).getLsbD i = decide (i = w) := by
  rw [BitVec.getLsbD_shiftLeft]
  by_cases e : i = w
  · subst e; simp [hw]
  · rw [decide_eq_false e]
    by_cases h1 : i < 64
    · by_cases h2 : i < w
      · simp [h1, h2]
      · have h3 : i - w ≠ 0 := by omega
        simp [h1, h2, h3]
    · simp [h1]
theorem delZ_len {z : List W64} {v w : Nat} : (delZ z v w).length = z.length := by simp [delZ]
theorem delZ_bit {z : List W64} {v w u x : Nat} (hw : w < 64) : Rl (delZ z v w) u x ↔ Rl z u x ∧ ¬ (u = v ∧ x = w) := by
  unfold Rl delZ
  by_cases e : u = v
  · subst e
    by_cases hu : u < z.length
    · rw [show (z.set u (z.getD u 0#64 &&& ~~~(1#64 <<< w))).getD u 0#64 = z.getD u 0#64 &&& ~~~(1#64 <<< w) from by simp [List.getD_eq_getElem?_getD, hu]]
      rw [BitVec.getLsbD_and, BitVec.getLsbD_not, one_bit hw]
      by_cases hx : x < 64
      · simp [hx]
      · constructor
        · intro h; simp [hx] at h
        · rintro ⟨h, _⟩; exact absurd (bit_lt h) hx
    · have h1 : z.getD u 0#64 = 0#64 := by simp [List.getD_eq_getElem?_getD, List.getElem?_eq_none (Nat.le_of_not_lt hu)]
      rw [List.set_eq_of_length_le (Nat.le_of_not_lt hu), h1]; simp
  · have h1 : (z.set v (z.getD v 0#64 &&& ~~~(1#64 <<< w))).getD u 0#64 = z.getD u 0#64 := by simp [List.getD_eq_getElem?_getD, Ne.symm e]
    rw [h1]; simp [e]
theorem InvZ.del {na nb : Nat} {z : List W64} (h : InvZ va vb ra rb na nb z) {v w : Nat} (hw : w < 64) (hb : matB va vb ra rb z v w = false) : InvZ va vb ra rb na nb (delZ z v w) :=
  ⟨by rw [delZ_len, h.len], fun u x hx => h.rng u x ((delZ_bit hw).1 hx).1, fun z' h1 h2 h3 u x hx => (delZ_bit hw).2 ⟨h.top z' h1 h2 h3 u x hx, by
    rintro ⟨rfl, rfl⟩
    have := matB_mono (h.top z' h1 h2 h3) (h3 _ _ hx)
    rw [hb] at this; cases this⟩⟩
theorem InvZ.start {na nb : Nat} (hb : nb ≤ 64) : InvZ va vb ra rb na nb (List.replicate na (allW nb)) := by
  have hg : ∀ v, v < na → (List.replicate na (allW nb)).getD v 0#64 = allW nb := fun v hv => by simp [List.getD_eq_getElem?_getD, hv]
  refine ⟨by simp, fun v w h => ?_, fun z' h1 h2 h3 v w h => ?_⟩
  · have hv := h.dom
    rw [List.length_replicate] at hv
    unfold Rl at h
    rw [hg v hv, allW_bit hb (bit_lt h)] at h
    simpa using h
  · have hv := h.dom
    rw [h1] at hv
    have hw := h2 v w h
    unfold Rl
    rw [hg v hv, allW_bit hb (by omega)]
    simpa using hw
end
/-- a measure -/
def sumZ (z : List W64) : Nat := (z.map BitVec.toNat).sum
theorem sumZ_set : ∀ (z : List W64) (v : Nat) (y : W64), v < z.length → sumZ (z.set v y) + (z.getD v 0#64).toNat = sumZ z + y.toNat
  | [], _, _, h => absurd h (Nat.not_lt_zero _)
  | x :: z, 0, y, _ => by simp [sumZ]; omega
  | x :: z, v + 1, y, h => by
    have := sumZ_set z v y (by simpa using h)
    simp only [sumZ, List.set_cons_succ, List.map_cons, List.sum_cons, List.getD_cons_succ] at this ⊢
    omega
theorem del_lt {s : W64} {w : Nat} (h : s.getLsbD w = true) : (s &&& ~~~(1#64 <<< w)).toNat < s.toNat := by
  have hw := bit_lt h
  have h1 : (s &&& ~~~(1#64 <<< w)).toNat ≤ s.toNat := by rw [BitVec.toNat_and]; exact Nat.and_le_left
  rcases Nat.lt_or_ge (s &&& ~~~(1#64 <<< w)).toNat s.toNat with h2 | h2
  · exact h2
  · exfalso
    have h3 : s &&& ~~~(1#64 <<< w) = s := BitVec.eq_of_toNat_eq (by omega)
    have h4 := congrArg (fun t : W64 => t.getLsbD w) h3
    simp only [BitVec.getLsbD_and, BitVec.getLsbD_not, one_bit hw, h] at h4
    simp at h4
theorem sumZ_del {z : List W64} {v w : Nat} (h : Rl z v w) : sumZ (delZ z v w) < sumZ z := by
  have h1 := sumZ_set z v (z.getD v 0#64 &&& ~~~(1#64 <<< w)) h.dom
  have h2 := del_lt h
  unfold delZ
  omega
/-- one turn of the outer loop: rows before k are done -/
structure TurnZ (va vb : List W64) (ra rb : List (List W64)) (na nb : Nat) (z0 z : List W64) (ch : Bool) (k : Nat) : Prop where
  inv : InvZ va vb ra rb na nb z
  le : sumZ z ≤ sumZ z0
  chg : ch = true → sumZ z < sumZ z0
  same : ch = false → ∀ v w, v < k → Rl z v w → matB va vb ra rb z v w = true
/-- in row k, with the members s of the row at its start, the first i of which are done -/
structure RowZ (va vb : List W64) (ra rb : List (List W64)) (na nb : Nat) (z0 : List W64) (k : Nat) (s : W64) (i : Nat) (z : List W64) (ch : Bool) : Prop where
  turn : TurnZ va vb ra rb na nb z0 z ch k
  row : ∀ w, Rl z k w → s.getLsbD w = true
  left : ∀ w ∈ (pts s).drop i, Rl z k w
  done : ch = false → ∀ w ∈ (pts s).take i, matB va vb ra rb z k w = true
theorem pts_nodup (s : W64) : (pts s).Nodup := List.Pairwise.filter _ List.nodup_range
section
variable {va vb : List W64} {ra rb : List (List W64)} {na nb k i : Nat} {z0 z : List W64} {s : W64} {ch : Bool}
theorem TurnZ.start (h : InvZ va vb ra rb na nb z) : TurnZ va vb ra rb na nb z z false 0 := ⟨h, Nat.le_refl _, (fun e => by cases e), fun _ v w hv => absurd hv (Nat.not_lt_zero _)⟩
theorem TurnZ.row (h : TurnZ va vb ra rb na nb z0 z ch k) : RowZ va vb ra rb na nb z0 k (z.getD k 0#64) 0 z ch :=
  ⟨h, fun _ hw => hw, fun w hw => (mem_pts.1 (by simpa using hw)).2, fun _ w hw => by simp at hw⟩
theorem RowZ.keep (h : RowZ va vb ra rb na nb z0 k s i z ch) {x : Nat} (hx : (pts s)[i]? = some x) (hm : matB va vb ra rb z k x = true) : RowZ va vb ra rb na nb z0 k s (i + 1) z ch := by
  obtain ⟨h1, h2⟩ := List.getElem?_eq_some_iff.1 hx
  refine ⟨h.turn, h.row, fun w hw => h.left w ?_, fun e w hw => ?_⟩
  · rw [List.drop_eq_getElem_cons h1]; exact List.mem_cons_of_mem _ hw
  · rw [List.take_succ_eq_append_getElem h1] at hw
    rcases List.mem_append.1 hw with hw | hw
    · exact h.done e w hw
    · rw [List.mem_singleton.1 hw, h2]; exact hm
theorem RowZ.del (h : RowZ va vb ra rb na nb z0 k s i z ch) {x : Nat} (hx : (pts s)[i]? = some x) (hm : matB va vb ra rb z k x = false) : RowZ va vb ra rb na nb z0 k s (i + 1) (delZ z k x) true := by
  obtain ⟨h1, h2⟩ := List.getElem?_eq_some_iff.1 hx
  have hx64 := (mem_pts.1 (List.mem_of_getElem? hx)).1
  have hR : Rl z k x := h.left x (by rw [List.drop_eq_getElem_cons h1, h2]; exact List.mem_cons_self ..)
  have hlt := sumZ_del hR
  have hle := h.turn.le
  refine ⟨⟨h.turn.inv.del hx64 hm, by omega, fun _ => by omega, (fun e => by cases e)⟩, fun w hw => h.row w ((delZ_bit hx64).1 hw).1, fun w hw => (delZ_bit hx64).2 ⟨h.left w (by rw [List.drop_eq_getElem_cons h1]; exact List.mem_cons_of_mem _ hw), ?_⟩, (fun e => by cases e)⟩
  rintro ⟨-, rfl⟩
  have hn := pts_nodup s
  rw [← List.take_append_drop (i + 1) (pts s)] at hn
  have h3 := (List.nodup_append.1 hn).2.2 w (by rw [List.take_succ_eq_append_getElem h1, h2]; simp) w hw
  exact h3 rfl
theorem RowZ.end (h : RowZ va vb ra rb na nb z0 k s (pts s).length z ch) : TurnZ va vb ra rb na nb z0 z ch (k + 1) :=
  ⟨h.turn.inv, h.turn.le, h.turn.chg, fun e v w hv hw => by
    rcases Nat.lt_succ_iff_lt_or_eq.1 hv with hv | rfl
    · exact h.turn.same e v w hv hw
    · exact h.done e w (by rw [List.take_length]; exact mem_pts.2 ⟨bit_lt hw, h.row w hw⟩)⟩
theorem TurnZ.grt (h : TurnZ va vb ra rb na nb z0 z false k) (hk : na ≤ k) : Grt va vb ra rb na nb z :=
  ⟨h.inv, fun v w hw => h.same rfl v w (by have := hw.dom; have := h.inv.len; omega) hw⟩
end
/-- what Check and Between say -/
def bothE (na : Int) (va : List W64) (ra : List (List W64)) (nb : Int) (vb : List W64) (rb : List (List W64)) : Int :=
  if checkM na va ra ≠ 0 then checkM na va ra else if checkM nb vb rb ≠ 0 then checkM nb vb rb else if ra.length ≠ rb.length ∨ va.length ≠ vb.length then 1 else 0
theorem bothE_zero {na nb : Int} {va vb : List W64} {ra rb : List (List W64)} : bothE na va ra nb vb rb = 0 ↔ ValM na va ra ∧ ValM nb vb rb ∧ ra.length = rb.length ∧ va.length = vb.length := by
  unfold bothE
  constructor
  · intro h
    split at h
    · rename_i h1; exact absurd h h1
    · rename_i h1
      split at h
      · rename_i h2; exact absurd h h2
      · rename_i h2
        split at h
        · cases h
        · rename_i h3
          exact ⟨checkM_zero.1 (Classical.not_not.1 h1), checkM_zero.1 (Classical.not_not.1 h2), by omega, by omega⟩
  · rintro ⟨h1, h2, h3, h4⟩
    rw [if_neg (by simp [checkM_zero.2 h1]), if_neg (by simp [checkM_zero.2 h2]), if_neg (by omega)]
/-- what Bisimilar says -/
def bisE (na : Int) (va : List W64) (ra : List (List W64)) (nb : Int) (vb : List W64) (rb : List (List W64)) (v w : Int) : Int :=
  if bothE na va ra nb vb rb ≠ 0 then bothE na va ra nb vb rb else if v < 0 ∨ na ≤ v ∨ w < 0 ∨ nb ≤ w then 2 else 0
theorem allW_sub {n : Nat} (hn : n ≤ 64) : (1#64 <<< n) - 1#64 = allW n := by
  unfold allW
  split
  · obtain rfl : n = 64 := by omega
    decide
  · rfl
theorem flm_const {n : Nat} {c : W64} : flm (fun _ _ => c) (List.replicate n 0#64) n = List.replicate n c := by
  apply List.ext_getElem (by simp [flm])
  intro i h1 h2
  have hi : i < n := by simpa using h2
  simp [flm, hi]
/-- what Between returns -/
def BetZ (na : Int) (va : List W64) (ra : List (List W64)) (nb : Int) (vb : List W64) (rb : List (List W64)) (z : List W64) : Prop :=
  (bothE na va ra nb vb rb ≠ 0 → z = []) ∧ (bothE na va ra nb vb rb = 0 → Grt va vb ra rb na.toNat nb.toNat z)
theorem BetZ.uniq {na nb : Int} {va vb : List W64} {ra rb : List (List W64)} {z z' : List W64} (h : BetZ na va ra nb vb rb z) (h' : BetZ na va ra nb vb rb z') : z = z' := by
  by_cases e : bothE na va ra nb vb rb = 0
  · exact (h.2 e).uniq (h'.2 e)
  · rw [h.1 e, h'.1 e]
theorem TurnZ.meas {va vb : List W64} {ra rb : List (List W64)} {na nb k : Nat} {z0 z : List W64} {ch : Bool} (h : TurnZ va vb ra rb na nb z0 z ch k) : 2 * sumZ z + ch.toNat < 2 * sumZ z0 + 1 := by
  have h1 := h.le
  cases ch with
  | false => simp; omega
  | true => have h2 := h.chg rfl; simp; omega
def BisY (na : Int) (va : List W64) (ra : List (List W64)) (nb : Int) (vb : List W64) (rb : List (List W64)) (v w : Int) (y : Bool) : Prop :=
  (bisE na va ra nb vb rb v w ≠ 0 → y = false) ∧ (bisE na va ra nb vb rb v w = 0 → ∀ z, BetZ na va ra nb vb rb z → y = (z.getD v.toNat 0#64).getLsbD w.toNat)
end Go.Proofs.Wit
