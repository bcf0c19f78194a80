/- Laws of walks, for any program, under the conditions that each theorem states. -/
import Derived.Test.YthojdcaojjmoaaaGreatDoorB27
import Derived.Test.YthojdcaojjmoaaaGreatDoorB37
namespace Go.Proofs.Wit
open Go
/-! the union of two models -/
def unV (n : Nat) (va vb : List W64) : List W64 := (List.range va.length).map (fun i => va.getD i 0#64 ||| (vb.getD i 0#64 <<< n))
def unL (n : Nat) (r s : List W64) : List W64 := r ++ s.map (fun (x : W64) => x <<< n)
def unR (n : Nat) (ra rb : List (List W64)) : List (List W64) := (List.range ra.length).map (fun i => unL n (ra.getD i []) (rb.getD i []))
theorem unV_len {n : Nat} {va vb : List W64} : (unV n va vb).length = va.length := by simp [unV]
theorem unR_len {n : Nat} {ra rb : List (List W64)} : (unR n ra rb).length = ra.length := by simp [unR]
theorem unV_get {n : Nat} {va vb : List W64} (h : va.length = vb.length) (i : Nat) : (unV n va vb).getD i 0#64 = va.getD i 0#64 ||| (vb.getD i 0#64 <<< n) := by
  by_cases hi : i < va.length
  · simp [unV, List.getD_eq_getElem?_getD, hi]
  · have h1 : va.getD i 0#64 = 0#64 := by simp [List.getD_eq_getElem?_getD, List.getElem?_eq_none (Nat.le_of_not_lt hi)]
    have h2 : vb.getD i 0#64 = 0#64 := by simp [List.getD_eq_getElem?_getD, List.getElem?_eq_none (by omega : vb.length ≤ i)]
    have h3 : (unV n va vb).getD i 0#64 = 0#64 := by simp [unV, List.getD_eq_getElem?_getD, hi]
    rw [h1, h2, h3]; simp
theorem unR_get {n : Nat} {ra rb : List (List W64)} {i : Nat} (hi : i < ra.length) : (unR n ra rb).getD i [] = unL n (ra.getD i []) (rb.getD i []) := by
  simp [unR, List.getD_eq_getElem?_getD, hi]
theorem shl_bit {x : W64} {n j : Nat} : (x <<< n).getLsbD j = true ↔ n ≤ j ∧ j < 64 ∧ x.getLsbD (j - n) = true := by
  rw [BitVec.getLsbD_shiftLeft]
  simp only [Bool.and_eq_true, decide_eq_true_eq, Bool.not_eq_true', decide_eq_false_iff_not]
  constructor
  · rintro ⟨⟨h1, h2⟩, h3⟩; exact ⟨by omega, h1, h3⟩
  · rintro ⟨h1, h2, h3⟩; exact ⟨⟨h2, by omega⟩, h3⟩
theorem unL_rl {n : Nat} {r s : List W64} (hr : r.length = n) {x y : Nat} : Rl (unL n r s) x y ↔ (x < n ∧ Rl r x y) ∨ (n ≤ x ∧ n ≤ y ∧ y < 64 ∧ Rl s (x - n) (y - n)) := by
  unfold Rl unL
  by_cases hx : x < n
  · rw [show (r ++ s.map (fun (x : W64) => x <<< n)).getD x 0#64 = r.getD x 0#64 from by simp [List.getD_eq_getElem?_getD, List.getElem?_append, show x < r.length by omega]]
    exact ⟨fun h => .inl ⟨hx, h⟩, fun h => h.elim (fun h => h.2) (fun h => by omega)⟩
  · have e : (r ++ s.map (fun (x : W64) => x <<< n)).getD x 0#64 = (s.getD (x - n) 0#64) <<< n := by
      rw [List.getD_eq_getElem?_getD, List.getElem?_append_right (by omega), hr, List.getElem?_map, List.getD_eq_getElem?_getD]
      cases s[x - n]? <;> simp
    rw [e, shl_bit]
    exact ⟨fun h => .inr ⟨by omega, h⟩, fun h => h.elim (fun h => absurd h.1 hx) (fun h => h.2)⟩
/-- a model that stands in another one -/
structure Emb (n1 : Nat) (v1 : List W64) (r1 : List (List W64)) (n : Nat) (v : List W64) (r : List (List W64)) (e : Nat → Nat) : Prop where
  n64 : n ≤ 64
  n64' : n1 ≤ 64
  lt : ∀ x, x < n1 → e x < n
  val : ∀ i x, x < n1 → ((v.getD i 0#64).getLsbD (e x) = true ↔ (v1.getD i 0#64).getLsbD x = true)
  fwd : ∀ i x y, x < n1 → Rl (r1.getD i []) x y → Rl (r.getD i []) (e x) (e y)
  bwd : ∀ i x z, x < n1 → Rl (r.getD i []) (e x) z → ∃ y, y < n1 ∧ z = e y ∧ Rl (r1.getD i []) x y
  lt1 : ∀ i x y, Rl (r1.getD i []) x y → y < n1
section
variable {n1 n : Nat} {v1 v : List W64} {r1 r : List (List W64)} {e : Nat → Nat}
theorem allW_in {n : Nat} (hn : n ≤ 64) {i : Nat} (hi : i < n) : (allW n).getLsbD i = true := by
  rw [allW_bit hn (by omega)]; simpa using hi
theorem not_in {n : Nat} (hn : n ≤ 64) {i : Nat} (hi : i < n) {x : W64} : (allW n &&& ~~~x).getLsbD i = true ↔ ¬ x.getLsbD i = true := by
  rw [BitVec.getLsbD_and, Bool.and_eq_true, BitVec.getLsbD_not]
  simp [allW_in hn hi, show i < 64 by omega]
theorem Emb.box (h : Emb n1 v1 r1 n v r e) {i x : Nat} (hx : x < n1) {s t : W64} (hst : ∀ y, y < n1 → (s.getLsbD (e y) = true ↔ t.getLsbD y = true)) : (boxW (r.getD i []) n s).getLsbD (e x) = true ↔ (boxW (r1.getD i []) n1 t).getLsbD x = true := by
  rw [boxW_bit h.n64, boxW_bit h.n64']
  constructor
  · rintro ⟨_, h2⟩
    exact ⟨hx, fun y hy => (hst y (h.lt1 _ _ _ hy)).1 (h2 _ (h.fwd _ _ _ hx hy))⟩
  · rintro ⟨_, h2⟩
    refine ⟨h.lt x hx, fun z hz => ?_⟩
    obtain ⟨y, hy, rfl, hxy⟩ := h.bwd _ _ _ hx hz
    exact (hst y hy).2 (h2 y hxy)
/-- formulas with Know and Poss hold at a world of the one exactly if they do at its place in the other -/
theorem Emb.one (h : Emb n1 v1 r1 n v r e) {op i g : Int} (ho : op ≤ 10) {x y s t : W64} (hx : ∀ j, j < n1 → (x.getLsbD (e j) = true ↔ s.getLsbD j = true)) (hy : ∀ j, j < n1 → (y.getLsbD (e j) = true ↔ t.getLsbD j = true)) {j : Nat} (hj : j < n1) :
    (oneW n v r op i g x y).getLsbD (e j) = true ↔ (oneW n1 v1 r1 op i g s t).getLsbD j = true := by
  have hn := h.n64
  have hn1 := h.n64'
  have he := h.lt j hj
  unfold oneW
  by_cases h3 : op = 3
  · rw [if_pos h3, if_pos h3]; exact h.val _ _ hj
  rw [if_neg h3, if_neg h3]
  by_cases h8 : op ≤ 8
  · rw [if_pos h8, if_pos h8]
    unfold boolW
    by_cases h1 : op = 1
    · rw [if_pos h1, if_pos h1]; simp [allW_in hn he, allW_in hn1 hj]
    rw [if_neg h1, if_neg h1]
    by_cases h4 : op = 4
    · rw [if_pos h4, if_pos h4, not_in hn he, not_in hn1 hj, hx j hj]
    rw [if_neg h4, if_neg h4]
    by_cases h5 : op = 5
    · rw [if_pos h5, if_pos h5, BitVec.getLsbD_and, BitVec.getLsbD_and, Bool.and_eq_true, Bool.and_eq_true, hx j hj, hy j hj]
    rw [if_neg h5, if_neg h5]
    by_cases h6 : op = 6
    · rw [if_pos h6, if_pos h6, BitVec.getLsbD_or, BitVec.getLsbD_or, Bool.or_eq_true, Bool.or_eq_true, hx j hj, hy j hj]
    rw [if_neg h6, if_neg h6]
    by_cases h7 : op = 7
    · rw [if_pos h7, if_pos h7, BitVec.getLsbD_or, BitVec.getLsbD_or, Bool.or_eq_true, Bool.or_eq_true, not_in hn he, not_in hn1 hj, hx j hj, hy j hj]
    rw [if_neg h7, if_neg h7]
    by_cases h0 : op = 8
    · rw [if_pos h0, if_pos h0, not_in hn he, not_in hn1 hj, BitVec.getLsbD_xor, BitVec.getLsbD_xor]
      have h9 := hx j hj
      have h10 := hy j hj
      generalize x.getLsbD (e j) = a at *
      generalize y.getLsbD (e j) = b at *
      generalize s.getLsbD j = c at *
      generalize t.getLsbD j = d at *
      revert h9 h10
      cases a <;> cases b <;> cases c <;> cases d <;> simp
    rw [if_neg h0, if_neg h0]; simp
  rw [if_neg h8, if_neg h8]
  by_cases h9 : op = 9
  · rw [if_pos h9, if_pos h9]; exact h.box hj hx
  rw [if_neg h9, if_neg h9, if_pos (by omega : op = 10), if_pos (by omega : op = 10), not_in hn he, not_in hn1 hj]
  exact not_congr (h.box hj (fun k hk => by rw [not_in hn (h.lt k hk), not_in hn1 hk, hx k hk]))
theorem Emb.sem (h : Emb n1 v1 r1 n v r e) : ∀ (t : Tr), allL (fun op _ _ => op ≤ 10) t → ∀ j, j < n1 → ((semT n v r t).getLsbD (e j) = true ↔ (semT n1 v1 r1 t).getLsbD j = true)
  | .leaf .., hs, j, hj => h.one hs (fun _ _ => Iff.rfl.trans (by simp)) (fun _ _ => by simp) hj
  | .un .., hs, j, hj => h.one hs.1 (h.sem _ hs.2) (fun _ _ => by simp) hj
  | .bin .., hs, j, hj => h.one hs.1 (h.sem _ hs.2.1) (h.sem _ hs.2.2) hj
end
end Go.Proofs.Wit
namespace Go.Proofs.Wit
open Go
/-! the union of two models: bisimulations -/
section
variable {na nb : Nat} {va vb : List W64} {ra rb : List (List W64)}
theorem ValM.rl {n : Nat} {val : List W64} {rel : List (List W64)} (h : ValM (n : Int) val rel) {i x y : Nat} (hr : Rl (rel.getD i []) x y) : i < rel.length ∧ x < n ∧ y < n := by
  have hi : i < rel.length := by
    rcases Nat.lt_or_ge i rel.length with h1 | h1
    · exact h1
    · have : rel.getD i [] = [] := by simp [List.getD_eq_getElem?_getD, List.getElem?_eq_none h1]
      rw [this] at hr; have := hr.dom; simp at this
  have hm : rel.getD i [] ∈ rel := by simp [List.getD_eq_getElem?_getD, hi]
  have h1 := h.len _ hm
  have h2 := (h.rels _ hm).lt _ _ hr
  have h3 := hr.dom
  exact ⟨hi, by omega, by omega⟩
theorem ValM.fb {n : Nat} {val : List W64} {rel : List (List W64)} (h : ValM (n : Int) val rel) {i x : Nat} (hb : (val.getD i 0#64).getLsbD x = true) : x < n := by
  have hi : i < val.length := by
    rcases Nat.lt_or_ge i val.length with h1 | h1
    · exact h1
    · have : val.getD i 0#64 = 0#64 := by simp [List.getD_eq_getElem?_getD, List.getElem?_eq_none h1]
      rw [this] at hb; simp at hb
  have hm : val.getD i 0#64 ∈ val := by simp [List.getD_eq_getElem?_getD, hi]
  have h1 := outB_false.1 h.out _ hm
  have h64 := h.n64
  have := andNot_zero.1 h1 x hb
  rw [Int.toNat_natCast] at this
  exact allW_lt (by omega) this
structure Two (na nb : Nat) (va vb : List W64) (ra rb : List (List W64)) : Prop where
  a : ValM (na : Int) va ra
  b : ValM (nb : Int) vb rb
  rl : ra.length = rb.length
  vl : va.length = vb.length
  le : na + nb ≤ 64
theorem Two.rel (h : Two na nb va vb ra rb) {i x y : Nat} : Rl ((unR na ra rb).getD i []) x y ↔ (x < na ∧ Rl (ra.getD i []) x y) ∨ (na ≤ x ∧ na ≤ y ∧ Rl (rb.getD i []) (x - na) (y - na)) := by
  have hle := h.le
  by_cases hi : i < ra.length
  · have hm : ra.getD i [] ∈ ra := by simp [List.getD_eq_getElem?_getD, hi]
    have h1 := h.a.len _ hm
    rw [unR_get hi, unL_rl (by omega)]
    refine or_congr_right (and_congr_right (fun _ => and_congr_right (fun _ => ⟨fun h2 => h2.2, fun h2 => ⟨?_, h2⟩⟩)))
    have := (h.b.rl h2).2.2
    omega
  · have e1 : ra.getD i [] = [] := by simp [List.getD_eq_getElem?_getD, List.getElem?_eq_none (Nat.le_of_not_lt hi)]
    have e2 : rb.getD i [] = [] := by simp [List.getD_eq_getElem?_getD, List.getElem?_eq_none (by have := h.rl; omega : rb.length ≤ i)]
    have e3 : (unR na ra rb).getD i [] = [] := by simp [List.getD_eq_getElem?_getD, List.getElem?_eq_none (by rw [unR_len]; omega : (unR na ra rb).length ≤ i)]
    rw [e1, e2, e3]
    constructor
    · intro h2; have := h2.dom; simp at this
    · rintro (⟨_, h2⟩ | ⟨_, _, h2⟩) <;> have := h2.dom <;> simp at this
theorem Two.bit (h : Two na nb va vb ra rb) {i x : Nat} : ((unV na va vb).getD i 0#64).getLsbD x = true ↔ (va.getD i 0#64).getLsbD x = true ∨ (na ≤ x ∧ (vb.getD i 0#64).getLsbD (x - na) = true) := by
  have hle := h.le
  rw [unV_get h.vl, BitVec.getLsbD_or, Bool.or_eq_true, shl_bit]
  refine or_congr_right (and_congr_right (fun _ => ⟨fun h2 => h2.2, fun h2 => ⟨?_, h2⟩⟩))
  have := h.b.fb h2
  omega
theorem Two.ok (h : Two na nb va vb ra rb) : ValM ((na + nb : Nat) : Int) (unV na va vb) (unR na ra rb) := by
  have h1 := h.a.n1
  have hle := h.le
  refine ⟨by omega, by omega, by rw [unR_len]; exact h.a.agents, by rw [unV_len]; exact h.a.facts, fun r hr => ?_, fun r hr => ?_, outB_false.2 (fun s hs => andNot_zero.2 (fun x hx => ?_))⟩
  · obtain ⟨i, hi, rfl⟩ := List.mem_map.1 hr
    rw [List.mem_range] at hi
    have k1 := h.a.len (ra.getD i []) (by simp [List.getD_eq_getElem?_getD, hi])
    have k2 := h.b.len (rb.getD i []) (by have := h.rl; simp [List.getD_eq_getElem?_getD, show i < rb.length by omega])
    simp only [unL, List.length_append, List.length_map]
    omega
  · obtain ⟨i, hi, rfl⟩ := List.mem_map.1 hr
    rw [List.mem_range] at hi
    have k1 := h.a.len (ra.getD i []) (by simp [List.getD_eq_getElem?_getD, hi])
    have k2 := h.b.len (rb.getD i []) (by have := h.rl; simp [List.getD_eq_getElem?_getD, show i < rb.length by omega])
    have kl : (unL na (ra.getD i []) (rb.getD i [])).length = na + nb := by simp only [unL, List.length_append, List.length_map]; omega
    refine ⟨by omega, fun x y hxy => ?_⟩
    rw [kl]
    rcases (unL_rl (by omega)).1 hxy with ⟨_, h2⟩ | ⟨_, _, _, h2⟩
    · have := (h.a.rl h2).2.2; omega
    · have := (h.b.rl h2).2.2; omega
  · obtain ⟨i, hi, rfl⟩ := List.mem_map.1 hs
    rw [List.mem_range] at hi
    have e : ((unV na va vb).getD i 0#64).getLsbD x = true := by rw [unV_get h.vl]; exact hx
    rw [Int.toNat_natCast]
    refine allW_in hle ?_
    rcases h.bit.1 e with h2 | ⟨_, h2⟩
    · have := h.a.fb h2; omega
    · have := h.b.fb h2; omega
theorem Two.embA (h : Two na nb va vb ra rb) : Emb na va ra (na + nb) (unV na va vb) (unR na ra rb) (fun x => x) := by
  have hle := h.le
  refine ⟨hle, by omega, fun x hx => by omega, fun i x hx => ?_, fun i x y hx hr => h.rel.2 (.inl ⟨hx, hr⟩), fun i x z hx hr => ?_, fun i x y hr => (h.a.rl hr).2.2⟩
  · rw [h.bit]; exact ⟨fun h2 => h2.elim id (fun h2 => absurd h2.1 (by omega)), .inl⟩
  · rcases h.rel.1 hr with ⟨_, h2⟩ | ⟨h2, _⟩
    · exact ⟨z, (h.a.rl h2).2.2, rfl, h2⟩
    · omega
theorem Two.embB (h : Two na nb va vb ra rb) : Emb nb vb rb (na + nb) (unV na va vb) (unR na ra rb) (fun x => na + x) := by
  have hle := h.le
  refine ⟨hle, by omega, fun x hx => by omega, fun i x hx => ?_, fun i x y hx hr => h.rel.2 (.inr ⟨by omega, by omega, by simpa using hr⟩), fun i x z hx hr => ?_, fun i x y hr => (h.b.rl hr).2.2⟩
  · rw [h.bit]
    constructor
    · rintro (h2 | ⟨_, h2⟩)
      · have := h.a.fb h2; omega
      · simpa using h2
    · intro h2; exact .inr ⟨by omega, by simpa using h2⟩
  · rcases h.rel.1 hr with ⟨h2, _⟩ | ⟨_, h2, h3⟩
    · omega
    · have e : na + x - na = x := by omega
      rw [e] at h3
      exact ⟨z - na, (h.b.rl h3).2.2, by omega, h3⟩
theorem fmTo_eq {v v' : List W64} {x y : Nat} : ∀ {k : Nat}, (∀ i, i < k → ((v.getD i 0#64).getLsbD x = true ↔ (v'.getD i 0#64).getLsbD y = true)) → fmTo v x k = fmTo v' y k
  | 0, _ => rfl
  | k + 1, h => by
    rw [fmTo, fmTo, fmTo_eq (fun i hi => h i (by omega))]
    congr 1
    by_cases h1 : (v.getD k 0#64).getLsbD x = true
    · rw [if_pos h1, if_pos ((h k (by omega)).1 h1)]
    · rw [if_neg h1, if_neg (fun h2 => h1 ((h k (by omega)).2 h2))]
theorem Two.fmA (h : Two na nb va vb ra rb) {x : Nat} (hx : x < na) : fm (unV na va vb) x = fm va x := by
  unfold fm; rw [unV_len]; exact fmTo_eq (fun i _ => h.embA.val i x hx)
theorem Two.fmB (h : Two na nb va vb ra rb) {x : Nat} (hx : x < nb) : fm (unV na va vb) (na + x) = fm vb x := by
  unfold fm; rw [unV_len, h.vl]; exact fmTo_eq (fun i _ => h.embB.val i x hx)
theorem Two.lens (h : Two na nb va vb ra rb) : ∀ r ∈ unR na ra rb, r.length = na + nb ∧ Val r := fun r hr => ⟨by have := h.ok.len r hr; omega, h.ok.rels r hr⟩
/-- a relation as a list of sets -/
def setR (n : Nat) (q : Nat → Nat → Bool) (m : Nat) : List W64 := (List.range n).map (fun x => selW (q x) m)
theorem setR_rl {n m : Nat} {q : Nat → Nat → Bool} (hm : m ≤ 64) {x y : Nat} : Rl (setR n q m) x y ↔ x < n ∧ y < m ∧ q x y = true := by
  unfold Rl setR
  by_cases hx : x < n
  · rw [show ((List.range n).map (fun x => selW (q x) m)).getD x 0#64 = selW (q x) m from by simp [List.getD_eq_getElem?_getD, hx], selW_bit hm]
    exact ⟨fun h => ⟨hx, h⟩, fun h => h.2⟩
  · rw [show ((List.range n).map (fun x => selW (q x) m)).getD x 0#64 = 0#64 from by simp [List.getD_eq_getElem?_getD, hx]]
    exact ⟨fun h => by simp at h, fun h => absurd h.1 hx⟩
/-- bisimilar worlds are together in the union after every round -/
theorem Two.sim_psq (h : Two na nb va vb ra rb) {z : List W64} (hzl : z.length = na) (hzr : ∀ v w, Rl z v w → w < nb) (hzs : SimB va vb ra rb z) {x y : Nat} (hxy : Rl z x y) : ∀ k, PEq (psq (na + nb) (unV na va vb) (unR na ra rb) k) x (na + y) := by
  have hle := h.le
  have hR : ∀ u v, Rl (setR (na + nb) (fun u v => decide (na ≤ v) && (z.getD u 0#64).getLsbD (v - na)) (na + nb)) u v ↔ na ≤ v ∧ Rl z u (v - na) := fun u v => by
    rw [setR_rl hle, Bool.and_eq_true, decide_eq_true_eq]
    constructor
    · rintro ⟨_, _, h3⟩; exact h3
    · rintro ⟨h1, h2⟩
      have h3 := h2.dom
      rw [hzl] at h3
      have h4 := hzr _ _ h2
      exact ⟨by omega, by omega, h1, h2⟩
  intro k
  refine Wit.sim_psq hle h.lens (z := setR (na + nb) (fun u v => decide (na ≤ v) && (z.getD u 0#64).getLsbD (v - na)) (na + nb)) (by simp [setR]) (fun u v huv => ((setR_rl hle).1 huv).2.1) (fun u v huv => ?_) k x (na + y) ((hR _ _).2 ⟨by omega, by rw [Nat.add_sub_cancel_left]; exact hxy⟩)
  obtain ⟨h1, h2⟩ := (hR u v).1 huv
  obtain ⟨w, rfl⟩ : ∃ w, v = na + w := ⟨v - na, by omega⟩
  rw [Nat.add_sub_cancel_left] at h2
  have hu : u < na := by have := h2.dom; rwa [hzl] at this
  have hw := hzr _ _ h2
  obtain ⟨k1, k2⟩ := matB_iff.1 (hzs _ _ h2)
  refine matB_iff.2 ⟨by rw [h.fmA hu, h.fmB hw]; exact k1, fun i hi => forB_iff.2 ?_⟩
  rw [unR_len] at hi
  obtain ⟨k3, k4⟩ := forB_iff.1 (k2 i hi)
  refine ⟨fun x' hx' => ?_, fun y' hy' => ?_⟩
  · obtain ⟨x2, _, e2, hx2⟩ := h.embA.bwd i u _ hu hx'
    obtain rfl : x' = x2 := e2
    obtain ⟨y2, hy1, hy2⟩ := k3 _ hx2
    exact ⟨na + y2, (hR _ _).2 ⟨by omega, by rw [Nat.add_sub_cancel_left]; exact hy1⟩, h.embB.fwd i _ _ hw hy2⟩
  · obtain ⟨y2, _, rfl, hy2⟩ := h.embB.bwd i w _ hw hy'
    obtain ⟨x2, hx1, hx2⟩ := k4 y2 hy2
    exact ⟨x2, h.embA.fwd i _ _ hu hx1, (hR _ _).2 ⟨by omega, by rw [Nat.add_sub_cancel_left]; exact hx2⟩⟩
theorem Two.bis_psq (h : Two na nb va vb ra rb) {z : List W64} (hz : Grt va vb ra rb na nb z) {x y : Nat} (hxy : Rl z x y) : ∀ k, PEq (psq (na + nb) (unV na va vb) (unR na ra rb) k) x (na + y) := h.sim_psq hz.len hz.rng hz.sim hxy
/-- worlds that stay together in the union are bisimilar -/
theorem Two.unZ (h : Two na nb va vb ra rb) : ∃ z, Grt va vb ra rb na nb z ∧ ∀ x y, x < na → y < nb → PEq (psq (na + nb) (unV na va vb) (unR na ra rb) (dep (na + nb) (unV na va vb) (unR na ra rb))) x (na + y) → Rl z x y := by
  have hle := h.le
  have hn1 := h.a.n1
  obtain ⟨p, hpe⟩ : ∃ p, p = psq (na + nb) (unV na va vb) (unR na ra rb) (dep (na + nb) (unV na va vb) (unR na ra rb)) := ⟨_, rfl⟩
  have hg := self_grt (n := na + nb) (val := unV na va vb) (rel := unR na ra rb) (by omega) hle h.lens
  rw [← hpe] at hg ⊢
  have hpl : p.length = na + nb := by rw [hpe]; exact psq_len _
  have hP : ∀ u v, Rl (relP p) u v ↔ u < na + nb ∧ v < na + nb ∧ p.getD v 0 = p.getD u 0 := fun u v => by rw [relP_bit (by omega), hpl]
  have hR : ∀ u v, Rl (setR na (fun u v => p.getD (na + v) 0 == p.getD u 0) nb) u v ↔ u < na ∧ v < nb ∧ p.getD (na + v) 0 = p.getD u 0 := fun u v => by rw [setR_rl (by omega), beq_iff_eq]
  have hsim : SimB va vb ra rb (setR na (fun u v => p.getD (na + v) 0 == p.getD u 0) nb) := fun u v huv => by
    obtain ⟨hu, hv, he⟩ := (hR _ _).1 huv
    obtain ⟨k1, k2⟩ := matB_iff.1 (hg.sim u (na + v) ((hP _ _).2 ⟨by omega, by omega, he⟩))
    refine matB_iff.2 ⟨by rw [← h.fmA hu, ← h.fmB hv]; exact k1, fun i hi => forB_iff.2 ?_⟩
    obtain ⟨k3, k4⟩ := forB_iff.1 (k2 i (by rw [unR_len]; exact hi))
    refine ⟨fun x' hx' => ?_, fun y' hy' => ?_⟩
    · obtain ⟨y2, hy1, hy2⟩ := k3 x' (h.embA.fwd i _ _ hu hx')
      obtain ⟨y3, hy3, rfl, hy4⟩ := h.embB.bwd i v _ hv hy2
      exact ⟨y3, (hR _ _).2 ⟨(h.a.rl hx').2.2, hy3, ((hP _ _).1 hy1).2.2⟩, hy4⟩
    · obtain ⟨x2, hx1, hx2⟩ := k4 (na + y') (h.embB.fwd i _ _ hv hy')
      obtain ⟨x3, hx3, e3, hx4⟩ := h.embA.bwd i u _ hu hx1
      obtain rfl : x2 = x3 := e3
      exact ⟨_, hx4, (hR _ _).2 ⟨hx3, (h.b.rl hy').2.2, ((hP _ _).1 hx2).2.2⟩⟩
  refine ⟨_, ⟨⟨by simp [setR], fun u v huv => ((hR _ _).1 huv).2.1, fun z' hl' hr' hs' u v huv => ?_⟩, hsim⟩, fun x y hx hy hp => (hR _ _).2 ⟨hx, hy, hp.symm⟩⟩
  have := h.sim_psq hl' hr' hs' huv (dep (na + nb) (unV na va vb) (unR na ra rb))
  rw [← hpe] at this
  exact (hR _ _).2 ⟨by have := huv.dom; omega, hr' _ _ huv, this.symm⟩
theorem Two.psq_bis (h : Two na nb va vb ra rb) {z : List W64} (hz : Grt va vb ra rb na nb z) {x y : Nat} (hx : x < na) (hy : y < nb) (hp : PEq (psq (na + nb) (unV na va vb) (unR na ra rb) (dep (na + nb) (unV na va vb) (unR na ra rb))) x (na + y)) : Rl z x y := by
  obtain ⟨z', hz', hall⟩ := h.unZ
  rw [hz.uniq hz']
  exact hall x y hx hy hp
theorem Two.bis_dst (h : Two na nb va vb ra rb) {z : List W64} (hz : Grt va vb ra rb na nb z) {x y : Nat} (hx : x < na) (hy : y < nb) : (z.getD x 0#64).getLsbD y = true ↔ dst (na + nb) (unV na va vb) (unR na ra rb) x (na + y) = none := by
  have hle := h.le
  have hn1 := h.a.n1
  rw [dst_none (by omega) hle]
  exact ⟨fun h2 => h.bis_psq hz h2, fun h2 => h.psq_bis hz hx hy (h2 _)⟩
end
end Go.Proofs.Wit
