/- Laws of walks, for any program, under the conditions that each theorem states. -/
import Derived.Test.YthojdcaojjmoaaaDoorA12
import Derived.Test.YthojdcaojjmoaaaDoorA25
import Derived.Test.YthojdcaojjmoaaaDoorA23
import Derived.Test.YthojdcaojjmoaaaDoorA04
import Derived.Test.YthojdcaojjmoaaaDoorA03
namespace Go.Proofs.Wit
theorem rch_bit {p : List Int} (hp : OkP p) {s : W64} {b : Nat} : (rch p s).getLsbD b = true ↔ ∃ x, x < p.length ∧ s.getLsbD x = true ∧ p.getD x 0 = (b : Int) := by
  have hl := hp.len
  have hbit : ∀ x, Rl (bitsP p) x b ↔ x < p.length ∧ p.getD x 0 = (b : Int) := fun x => by
    constructor
    · intro h
      have hx := h.dom
      rw [show (bitsP p).length = p.length from by simp [bitsP]] at hx
      obtain ⟨h1, h2, h3⟩ := hp.low x hx
      unfold Rl at h
      rw [show (bitsP p).getD x 0#64 = 1#64 <<< (p.getD x 0).toNat from by simp [bitsP, List.getD_eq_getElem?_getD, hx], one_bit (by omega)] at h
      have : b = (p.getD x 0).toNat := by simpa using h
      exact ⟨hx, by omega⟩
    · rintro ⟨hx, e⟩
      obtain ⟨h1, h2, h3⟩ := hp.low x hx
      unfold Rl
      rw [show (bitsP p).getD x 0#64 = 1#64 <<< (p.getD x 0).toNat from by simp [bitsP, List.getD_eq_getElem?_getD, hx], one_bit (by omega)]
      simp only [decide_eq_true_eq]
      omega
  rw [rch, mapR_bit]
  constructor
  · rintro ⟨x, h1, h2⟩
    obtain ⟨h3, h4⟩ := (hbit x).1 h2
    exact ⟨x, h3, h1, h4⟩
  · rintro ⟨x, h1, h2, h3⟩
    exact ⟨x, h2, (hbit x).2 ⟨h1, h3⟩⟩
section
variable {n : Nat} {val : List W64} {rel : List (List W64)}
end
end Go.Proofs.Wit
namespace Go.Proofs.Wit
open Go Go.RowKit
/-! groups: the meet of the relations of a group -/
section
variable {P : Program} {t : TypeId}
theorem bShrN {x j : Nat} {b : Int} {k : IntKind} (h : b = j) (_hx : x < 9223372036854775808) (hj : j ≤ 64) : Bin P .shr t (.int .i64 x) (.int k b) (.int .i64 ((x / 2 ^ j : Nat) : Int)) := by
  subst h
  refine bin_pure (fun p q => eqg_int _ _ _ _ _ _ _ _) ?_
  show Op.shift .shr .i64 (x : Int) k (j : Int) = _
  unfold Op.shift
  rw [if_neg (by omega), Int.toNat_natCast]
  show pure (Value.int .i64 ((x : Int).fdiv (2 ^ (min j 64)))) = _
  rw [Nat.min_eq_left hj]
  have e1 : ((2 : Int) ^ j) = ((2 ^ j : Nat) : Int) := by norm_cast
  rw [e1, ← Int.ofNat_fdiv]
theorem bAnd1N {x : Nat} (hx : x < 9223372036854775808) : Bin P .and t (.int .i64 x) (.int .i64 1) (.int .i64 ((x % 2 : Nat) : Int)) := bI _ (by
  show Op.intBits .and .i64 (x : Int) 1 = _
  unfold Op.intBits
  have e1 : (BitVec.ofInt 64 (x : Int) &&& BitVec.ofInt 64 1).toNat = x % 2 := by
    rw [ofInt_nat, show BitVec.ofInt 64 1 = BitVec.ofNat 64 1 from rfl, BitVec.toNat_and, BitVec.toNat_ofNat, BitVec.toNat_ofNat, Nat.mod_eq_of_lt (by omega), Nat.mod_eq_of_lt (by omega), Nat.and_one_is_mod]
  show pure (Value.int .i64 (IntKind.i64.wrap ((BitVec.ofInt 64 (x : Int) &&& BitVec.ofInt 64 1).toNat : Int))) = _
  rw [e1, IntWalk.i64_in _ (by omega)])
end
def gb (g k : Nat) : Nat := g / 2 ^ k % 2
theorem gb_cases (g k : Nat) : gb g k = 0 ∨ gb g k = 1 := by unfold gb; omega
def meetW (n : Nat) (rel : List (List W64)) (g w : Nat) (k : Nat) : W64 := upTo (fun a (o : W64) => if gb g a = 1 then o &&& (rel.getD a []).getD w 0#64 else o) (allW n) k
def meetTo (n : Nat) (rel : List (List W64)) (g k : Nat) : List W64 := (List.range n).map (fun w => meetW n rel g w k)
def meetL (n : Nat) (rel : List (List W64)) (g : Nat) : List W64 := meetTo n rel g rel.length
section
variable {n : Nat} {rel : List (List W64)} {g k w : Nat}
theorem meetW_succ : meetW n rel g w (k + 1) = if gb g k = 1 then meetW n rel g w k &&& (rel.getD k []).getD w 0#64 else meetW n rel g w k := rfl
theorem meetW_none (h : ∀ a, a < k → gb g a = 0) : meetW n rel g w k = allW n := by
  induction k with
  | zero => rfl
  | succ k ih =>
    rw [meetW_succ, if_neg (by rw [h k (Nat.lt_succ_self k)]; decide)]
    exact ih (fun a ha => h a (Nat.lt_succ_of_lt ha))
theorem meetTo_len : (meetTo n rel g k).length = n := by simp [meetTo]
theorem meetTo_get (hw : w < n) : (meetTo n rel g k).getD w 0#64 = meetW n rel g w k := by simp [meetTo, List.getD_eq_getElem?_getD, hw]
theorem meetTo_skip (h : gb g k = 0) : meetTo n rel g (k + 1) = meetTo n rel g k := by
  unfold meetTo
  congr 1
  funext w
  rw [meetW_succ, if_neg (by rw [h]; decide)]
theorem and_all {s : W64} (hn : n ≤ 64) (h : ∀ i, s.getLsbD i = true → i < n) : allW n &&& s = s := by
  apply eq_of_bits
  intro i hi
  rw [BitVec.getLsbD_and, allW_bit hn hi]
  cases hb : s.getLsbD i with
  | false => simp
  | true => simp [h i hb]
theorem meetTo_first (hn : n ≤ 64) (h0 : ∀ a, a < k → gb g a = 0) (h1 : gb g k = 1) {r : List W64} (hr : rel.getD k [] = r) (hl : r.length = n) (hv : Val r) : meetTo n rel g (k + 1) = r := by
  apply List.ext_getElem (by simp [meetTo, hl])
  intro i e1 e2
  have hi : i < n := by omega
  have e3 : (meetTo n rel g (k + 1))[i] = meetW n rel g i (k + 1) := by simp [meetTo]
  rw [e3, meetW_succ, if_pos h1, meetW_none h0, hr]
  have e4 : r.getD i 0#64 = r[i] := by simp [List.getD_eq_getElem?_getD, e2]
  rw [and_all hn (fun j hj => by have := hv.lt i j hj; omega), e4]
theorem meetTo_step (h1 : gb g k = 1) {r : List W64} (hr : rel.getD k [] = r) : flm (fun w x => x &&& r.getD w 0#64) (meetTo n rel g k) n = meetTo n rel g (k + 1) := by
  apply List.ext_getElem (by simp [meetTo, flm])
  intro i e1 e2
  have hi : i < n := by simpa [meetTo] using e2
  have e3 : (meetTo n rel g (k + 1))[i] = meetW n rel g i (k + 1) := by simp [meetTo]
  rw [e3, meetW_succ, if_pos h1, hr]
  simp [flm, meetTo, hi]
theorem flm_next {f : Nat → W64 → W64} {xs : List W64} {j : Nat} (hj : j < xs.length) : (flm f xs j).set j (f j ((flm f xs j).getD j 0#64)) = flm f xs (j + 1) := by
  rw [flm_get hj, if_neg (Nat.lt_irrefl j)]
  exact flm_succ hj
theorem meetW_lt (hn : n ≤ 64) : ∀ k i, (meetW n rel g w k).getLsbD i = true → i < n
  | 0, i, h => by
    rw [show meetW n rel g w 0 = allW n from rfl, allW_bit hn (bit_lt h)] at h
    simpa using h
  | k + 1, i, h => by
    rw [meetW_succ] at h
    split at h
    · rw [BitVec.getLsbD_and, Bool.and_eq_true] at h
      exact meetW_lt hn k i h.1
    · exact meetW_lt hn k i h
end
theorem gb_none {g : Nat} : ∀ k, (∀ a, a < k → gb g a = 0) → g % 2 ^ k = 0
  | 0, _ => by simp [Nat.mod_one]
  | k + 1, h => by
    have h1 := gb_none k (fun a ha => h a (Nat.lt_succ_of_lt ha))
    have h2 := h k (Nat.lt_succ_self k)
    unfold gb at h2
    rw [Nat.mod_pow_succ, h1, h2, Nat.mul_zero]
theorem gb_some {g k : Nat} (h1 : 1 ≤ g) (h2 : g < 2 ^ k) : ¬ ∀ a, a < k → gb g a = 0 := fun h => by
  have := gb_none k h
  rw [Nat.mod_eq_of_lt h2] at this
  omega
section
variable {P : Program} {r : Option Nat} {f : FuncId} {R : Value → World → Prop} {w0 : World} {S : List Nat} {Y : List (Nat × Obj)} {n : Nat} {k : List Item} {l : Fl} {h : Hl}
variable {ops : Array Oper} {i d : Nat} {rest : List Nat} {ty : TypeId} {pos : String} {aft : Array Edge} {g : Option (Nat × Bool)}
end
end Go.Proofs.Wit
namespace Go.Proofs.Wit
open Go
/-! the truth of formulas: sets of worlds -/
theorem one_has {w i : Nat} (hw : w < 64) : (1#64 <<< w).getLsbD i = true ↔ i = w := by rw [one_bit hw]; simp
/-- the worlds w below n with q -/
def selW (q : Nat → Bool) (n : Nat) : W64 := upTo (fun w (o : W64) => if q w = true then o ||| 1#64 <<< w else o) 0#64 n
theorem selW_succ {q : Nat → Bool} {n : Nat} : selW q (n + 1) = if q n = true then selW q n ||| 1#64 <<< n else selW q n := rfl
theorem selW_bit {q : Nat → Bool} : ∀ {n i : Nat}, n ≤ 64 → ((selW q n).getLsbD i = true ↔ i < n ∧ q i = true)
  | 0, i, _ => by simp [selW, upTo]
  | n + 1, i, hn => by
    rw [selW_succ]
    have ih := selW_bit (q := q) (n := n) (i := i) (by omega)
    by_cases hq : q n = true
    · rw [if_pos hq, BitVec.getLsbD_or, Bool.or_eq_true, ih, one_has (by omega)]
      constructor
      · rintro (⟨h1, h2⟩ | rfl)
        · exact ⟨by omega, h2⟩
        · exact ⟨by omega, hq⟩
      · rintro ⟨h1, h2⟩
        rcases Nat.lt_succ_iff_lt_or_eq.1 h1 with h3 | h3
        · exact .inl ⟨h3, h2⟩
        · exact .inr h3
    · rw [if_neg hq, ih]
      constructor
      · rintro ⟨h1, h2⟩; exact ⟨by omega, h2⟩
      · rintro ⟨h1, h2⟩
        rcases Nat.lt_succ_iff_lt_or_eq.1 h1 with h3 | rfl
        · exact ⟨h3, h2⟩
        · exact absurd h2 hq
def boxW (r : List W64) (n : Nat) (s : W64) : W64 := selW (fun w => r.getD w 0#64 &&& ~~~s == 0#64) n
theorem boxW_bit {r : List W64} {n : Nat} {s : W64} {w : Nat} (hn : n ≤ 64) : (boxW r n s).getLsbD w = true ↔ w < n ∧ ∀ u, Rl r w u → s.getLsbD u = true := by
  rw [boxW, selW_bit hn, beq_iff_eq, andNot_zero]; rfl
/-- one turn of a search along r within c -/
def pstep (r : List W64) (c : W64) (n : Nat) (s : W64) : W64 := upTo (fun w (o : W64) => if o.getLsbD w = true then o ||| (r.getD w 0#64 &&& c) else o) s n
def pathTo (r : List W64) (n v : Nat) (c : W64) (k : Nat) : W64 := upTo (fun _ (o : W64) => pstep r c n o) (r.getD v 0#64 &&& c) k
def pathW (r : List W64) (n v : Nat) (c : W64) : W64 := pathTo r n v c n
def comW (r : List W64) (n : Nat) (c s : W64) : W64 := selW (fun w => pathW r n w c &&& ~~~s == 0#64) n
def pstp (r : List W64) (c : W64) (w : Nat) (o : W64) : W64 := if o.getLsbD w = true then o ||| (r.getD w 0#64 &&& c) else o
theorem pstp_le {r : List W64} {c : W64} {w i : Nat} {o : W64} (h : o.getLsbD i = true) : (pstp r c w o).getLsbD i = true := by
  unfold pstp
  split
  · rw [BitVec.getLsbD_or, h, Bool.true_or]
  · exact h
theorem pst_le {r : List W64} {c : W64} {s : W64} {i : Nat} (h : s.getLsbD i = true) : ∀ k, (upTo (pstp r c) s k).getLsbD i = true
  | 0 => h
  | k + 1 => pstp_le (pst_le h k)
/-- there is a path -/
inductive RchC (r : List W64) (c : W64) (v : Nat) : Nat → Prop where
  | one {u : Nat} (h : Rl r v u) (hc : c.getLsbD u = true) : RchC r c v u
  | step {u x : Nat} (h : RchC r c v u) (h2 : Rl r u x) (hc : c.getLsbD x = true) : RchC r c v x
theorem pst_reach {r : List W64} {c : W64} {v : Nat} {s : W64} (h : ∀ i, s.getLsbD i = true → RchC r c v i) : ∀ k i, (upTo (pstp r c) s k).getLsbD i = true → RchC r c v i
  | 0, i, hi => h i hi
  | k + 1, i, hi => by
    rw [upTo, pstp] at hi
    split at hi
    · rename_i hk
      rw [BitVec.getLsbD_or, Bool.or_eq_true] at hi
      rcases hi with hi | hi
      · exact pst_reach h k i hi
      · rw [BitVec.getLsbD_and, Bool.and_eq_true] at hi
        exact .step (pst_reach h k k hk) hi.1 hi.2
    · exact pst_reach h k i hi
theorem pathTo_reach {r : List W64} {n v : Nat} {c : W64} : ∀ k i, (pathTo r n v c k).getLsbD i = true → RchC r c v i
  | 0, i, hi => by
    rw [pathTo, upTo, BitVec.getLsbD_and, Bool.and_eq_true] at hi
    exact .one hi.1 hi.2
  | k + 1, i, hi => pst_reach (fun i h => pathTo_reach k i h) n i hi
/-- what a turn leaves as it is is closed -/
theorem pstep_closed {r : List W64} {c : W64} {n : Nat} {s : W64} (h : pstep r c n s = s) {w u : Nat} (hw : w < n) (hs : s.getLsbD w = true) (hr : Rl r w u) (hc : c.getLsbD u = true) : s.getLsbD u = true := by
  have key : ∀ k, w < k → (upTo (pstp r c) s k).getLsbD u = true := by
    intro k
    induction k with
    | zero => intro h; omega
    | succ k ih =>
      intro hk
      rcases Nat.lt_succ_iff_lt_or_eq.1 hk with h1 | rfl
      · exact pstp_le (ih h1)
      · rw [upTo, pstp, if_pos (pst_le hs w), BitVec.getLsbD_or, BitVec.getLsbD_and, show (r.getD w 0#64).getLsbD u = true from hr, hc]; simp
  have := key n hw
  rw [← h]; exact this
def cntB (n : Nat) (s : W64) : Nat := (List.range n).countP (fun i => s.getLsbD i)
theorem cntB_le {n : Nat} {s : W64} : cntB n s ≤ n := by
  have := List.countP_le_length (p := fun i => s.getLsbD i) (l := List.range n)
  simpa [cntB] using this
theorem bits_ext {n : Nat} {s t : W64} (hs : ∀ i, s.getLsbD i = true → i < n) (ht : ∀ i, t.getLsbD i = true → i < n) (h : ∀ i, i < n → (s.getLsbD i = true ↔ t.getLsbD i = true)) : s = t := by
  apply BitVec.eq_of_getLsbD_eq
  intro i _
  rw [Bool.eq_iff_iff]
  exact ⟨fun h1 => (h i (hs i h1)).1 h1, fun h1 => (h i (ht i h1)).2 h1⟩
theorem cntB_lt {n : Nat} {s t : W64} (hs : ∀ i, s.getLsbD i = true → i < n) (ht : ∀ i, t.getLsbD i = true → i < n) (h : ∀ i, s.getLsbD i = true → t.getLsbD i = true) (hne : s ≠ t) : cntB n s < cntB n t := by
  obtain ⟨j, hj, h1, h2⟩ : ∃ j, j < n ∧ s.getLsbD j = false ∧ t.getLsbD j = true := Classical.byContradiction (fun hno => hne (bits_ext hs ht (fun i hi => ⟨h i, fun h2 => by
    cases e : s.getLsbD i with
    | true => rfl
    | false => exact absurd ⟨i, hi, e, h2⟩ hno⟩)))
  exact cntR_lt (fun i _ hi => h i hi) hj h1 h2
theorem fix_of {n : Nat} {f : W64 → W64} {s : W64} (hle : ∀ t i, t.getLsbD i = true → (f t).getLsbD i = true) (hb : ∀ k i, (upTo (fun _ o => f o) s k).getLsbD i = true → i < n) : f (upTo (fun _ o => f o) s n) = upTo (fun _ o => f o) s n := by
  have key : ∀ k, f (upTo (fun _ o => f o) s k) = upTo (fun _ o => f o) s k ∨ k ≤ cntB n (upTo (fun _ o => f o) s k) := by
    intro k
    induction k with
    | zero => exact .inr (Nat.zero_le _)
    | succ k ih =>
      by_cases he : f (upTo (fun _ o => f o) s k) = upTo (fun _ o => f o) s k
      · left
        show f (f (upTo (fun _ o => f o) s k)) = f (upTo (fun _ o => f o) s k)
        rw [he]
        exact he
      · rcases ih with ih | ih
        · exact absurd ih he
        · right
          have := cntB_lt (n := n) (hb k) (hb (k + 1)) (fun i hi => hle _ i hi) (fun e => he e.symm)
          omega
  rcases key n with h | h
  · exact h
  · refine Classical.byContradiction (fun hne => ?_)
    have := cntB_lt (n := n) (hb n) (hb (n + 1)) (fun i hi => hle _ i hi) (fun e => hne e.symm)
    have := cntB_le (n := n) (s := upTo (fun _ o => f o) s (n + 1))
    omega
theorem RchC.lt {r : List W64} {c : W64} {v u n : Nat} (hr : ∀ a b, Rl r a b → b < n) (h : RchC r c v u) : u < n := by
  cases h with
  | one h _ => exact hr _ _ h
  | step _ h _ => exact hr _ _ h
theorem pathW_bit {r : List W64} {n v : Nat} {c : W64} (hr : ∀ a b, Rl r a b → b < n) {u : Nat} : (pathW r n v c).getLsbD u = true ↔ RchC r c v u := by
  have hfix : pstep r c n (pathW r n v c) = pathW r n v c := fix_of (fun t i hi => pst_le hi n) (fun k i hi => (pathTo_reach k i hi).lt hr)
  constructor
  · exact pathTo_reach n u
  · intro h
    induction h with
    | @one u h hc =>
      have h0 : (pathTo r n v c 0).getLsbD u = true := by rw [pathTo, upTo, BitVec.getLsbD_and, show (r.getD v 0#64).getLsbD u = true from h, hc]; rfl
      have key : ∀ k, (pathTo r n v c k).getLsbD u = true := by
        intro k
        induction k with
        | zero => exact h0
        | succ k ih => exact pst_le ih n
      exact key n
    | step h h2 hc ih => exact pstep_closed hfix (h.lt hr) ih h2 hc
theorem comW_bit {r : List W64} {n : Nat} {c s : W64} {w : Nat} (hn : n ≤ 64) (hr : ∀ a b, Rl r a b → b < n) : (comW r n c s).getLsbD w = true ↔ w < n ∧ ∀ u, RchC r c w u → s.getLsbD u = true := by
  rw [comW, selW_bit hn, beq_iff_eq, andNot_zero]
  exact and_congr_right (fun _ => forall_congr' (fun u => by rw [pathW_bit hr]))
/-- the union of the relations of a group -/
def joinW (rel : List (List W64)) (g w : Nat) (k : Nat) : W64 := upTo (fun a (o : W64) => if gb g a = 1 then o ||| (rel.getD a []).getD w 0#64 else o) 0#64 k
def joinTo (n : Nat) (rel : List (List W64)) (g k : Nat) : List W64 := (List.range n).map (fun w => joinW rel g w k)
def joinL (n : Nat) (rel : List (List W64)) (g : Nat) : List W64 := joinTo n rel g rel.length
theorem joinW_bit {rel : List (List W64)} {g w i : Nat} : ∀ {k : Nat}, (joinW rel g w k).getLsbD i = true ↔ ∃ a, a < k ∧ gb g a = 1 ∧ Rl (rel.getD a []) w i
  | 0 => by simp [joinW, upTo]
  | k + 1 => by
    have ih := joinW_bit (rel := rel) (g := g) (w := w) (i := i) (k := k)
    show (if gb g k = 1 then joinW rel g w k ||| (rel.getD k []).getD w 0#64 else joinW rel g w k).getLsbD i = true ↔ _
    constructor
    · intro h
      split at h
      · rename_i hg
        rw [BitVec.getLsbD_or, Bool.or_eq_true] at h
        rcases h with h | h
        · obtain ⟨a, h1, h2⟩ := ih.1 h; exact ⟨a, by omega, h2⟩
        · exact ⟨k, by omega, hg, h⟩
      · obtain ⟨a, h1, h2⟩ := ih.1 h; exact ⟨a, by omega, h2⟩
    · rintro ⟨a, h1, h2, h3⟩
      rcases Nat.lt_succ_iff_lt_or_eq.1 h1 with h4 | rfl
      · have := ih.2 ⟨a, h4, h2, h3⟩
        split
        · rw [BitVec.getLsbD_or, this, Bool.true_or]
        · exact this
      · rw [if_pos h2, BitVec.getLsbD_or, show ((rel.getD a []).getD w 0#64).getLsbD i = true from h3, Bool.or_true]
theorem joinL_bit {n : Nat} {rel : List (List W64)} {g w u : Nat} : Rl (joinL n rel g) w u ↔ w < n ∧ ∃ a, a < rel.length ∧ gb g a = 1 ∧ Rl (rel.getD a []) w u := by
  unfold Rl joinL joinTo
  by_cases hw : w < n
  · rw [show ((List.range n).map (fun w => joinW rel g w rel.length)).getD w 0#64 = joinW rel g w rel.length from by simp [List.getD_eq_getElem?_getD, hw], joinW_bit]
    exact ⟨fun h => ⟨hw, h⟩, fun h => h.2⟩
  · rw [show ((List.range n).map (fun w => joinW rel g w rel.length)).getD w 0#64 = 0#64 from by simp [List.getD_eq_getElem?_getD, hw]]
    constructor
    · intro h; simp at h
    · rintro ⟨h, _⟩; exact absurd h hw
/-- truth by trees -/
def boolW (op : Int) (x y all : W64) : W64 := if op = 1 then all else if op = 4 then all &&& ~~~x else if op = 5 then x &&& y else if op = 6 then x ||| y else if op = 7 then (all &&& ~~~x) ||| y else if op = 8 then all &&& ~~~(x ^^^ y) else 0#64
def oneW (n : Nat) (val : List W64) (rel : List (List W64)) (op i g : Int) (x y : W64) : W64 :=
  if op = 3 then val.getD i.toNat 0#64 else if op ≤ 8 then boolW op x y (allW n)
  else if op = 9 then boxW (rel.getD i.toNat []) n x else if op = 10 then allW n &&& ~~~boxW (rel.getD i.toNat []) n (allW n &&& ~~~x)
  else if op = 11 then boxW (joinL n rel g.toNat) n x else if op = 12 then boxW (meetL n rel g.toNat) n x else comW (joinL n rel g.toNat) n x y
def semT (n : Nat) (val : List W64) (rel : List (List W64)) : Tr → W64
  | .leaf op i _ g => oneW n val rel op i g 0#64 0#64
  | .un op i _ g a => oneW n val rel op i g (semT n val rel a) 0#64
  | .bin op i _ g a b => oneW n val rel op i g (semT n val rel a) (semT n val rel b)
end Go.Proofs.Wit
namespace Go.Proofs.Wit
open Go
/-! worlds that are together agree -/
abbrev PEq (p : List Int) (v w : Nat) : Prop := p.getD v 0 = p.getD w 0
structure IvS (n : Nat) (p' p : List Int) (R : List W64) : Prop where
  fb : ∀ v w, v < n → w < n → PEq p' v w → ∀ u, Rl R v u → ∃ u', Rl R w u' ∧ PEq p u u'
def IvX (n : Nat) (p : List Int) (s : W64) : Prop := ∀ v w, v < n → w < n → PEq p v w → s.getLsbD v = true → s.getLsbD w = true
section
variable {n : Nat} {p p' : List Int} {s t c : W64} {R : List W64}
theorem IvX.iff (h : IvX n p s) {v w : Nat} (hv : v < n) (hw : w < n) (e : PEq p v w) : s.getLsbD v = s.getLsbD w := by
  rw [Bool.eq_iff_iff]; exact ⟨h v w hv hw e, h w v hw hv e.symm⟩
theorem IvX.of (h : ∀ v w, v < n → w < n → PEq p v w → s.getLsbD v = s.getLsbD w) : IvX n p s := fun v w hv hw e hs => by rw [← h v w hv hw e]; exact hs
theorem IvX.zero : IvX n p 0#64 := fun _ _ _ _ _ h => by simp at h
theorem allW_has (hn : n ≤ 64) {v : Nat} (hv : v < n) : (allW n).getLsbD v = true := by rw [allW_bit hn (by omega)]; simpa using hv
theorem IvX.all (hn : n ≤ 64) : IvX n p (allW n) := fun _ _w _ hw _ _ => allW_has hn hw
theorem IvX.and (h : IvX n p s) (h2 : IvX n p t) : IvX n p (s &&& t) := IvX.of (fun v w hv hw e => by rw [BitVec.getLsbD_and, BitVec.getLsbD_and, h.iff hv hw e, h2.iff hv hw e])
theorem IvX.or (h : IvX n p s) (h2 : IvX n p t) : IvX n p (s ||| t) := IvX.of (fun v w hv hw e => by rw [BitVec.getLsbD_or, BitVec.getLsbD_or, h.iff hv hw e, h2.iff hv hw e])
theorem IvX.xor (h : IvX n p s) (h2 : IvX n p t) : IvX n p (s ^^^ t) := IvX.of (fun v w hv hw e => by rw [BitVec.getLsbD_xor, BitVec.getLsbD_xor, h.iff hv hw e, h2.iff hv hw e])
theorem not_bit {v : Nat} (hv : v < 64) : (~~~s).getLsbD v = !s.getLsbD v := by rw [BitVec.getLsbD_not]; simp [hv]
theorem IvX.not (hn : n ≤ 64) (h : IvX n p s) : IvX n p (~~~s) := IvX.of (fun v w hv hw e => by rw [not_bit (by omega), not_bit (by omega), h.iff hv hw e])
theorem IvX.bool (hn : n ≤ 64) (h : IvX n p s) (h2 : IvX n p t) {op : Int} : IvX n p (boolW op s t (allW n)) := by
  unfold boolW
  repeat' split
  · exact .all hn
  · exact (IvX.all hn).and (h.not hn)
  · exact h.and h2
  · exact h.or h2
  · exact ((IvX.all hn).and (h.not hn)).or h2
  · exact (IvX.all hn).and ((h.xor h2).not hn)
  · exact .zero
theorem IvX.box (hn : n ≤ 64) (hr : ∀ a b, Rl R a b → b < n) (hR : IvS n p' p R) (h : IvX n p s) : IvX n p' (boxW R n s) := fun v w hv hw e hs => by
  rw [boxW_bit hn] at hs ⊢
  refine ⟨hw, fun u hu => ?_⟩
  obtain ⟨u', h1, h2⟩ := hR.fb w v hw hv e.symm u hu
  exact h u' u (hr _ _ h1) (hr _ _ hu) h2.symm (hs.2 u' h1)
theorem RchC.bis (hr : ∀ a b, Rl R a b → b < n) (hR : IvS n p p R) (hc : IvX n p c) {v w : Nat} (hv : v < n) (hw : w < n) (e : PEq p v w) {u : Nat} (h : RchC R c v u) : ∃ u', RchC R c w u' ∧ PEq p u u' := by
  induction h with
  | one h1 h2 =>
    obtain ⟨u', g1, g2⟩ := hR.fb v w hv hw e _ h1
    exact ⟨u', .one g1 (hc _ _ (hr _ _ h1) (hr _ _ g1) g2 h2), g2⟩
  | step h1 h2 h3 ih =>
    obtain ⟨u', g1, g2⟩ := ih
    obtain ⟨x', k1, k2⟩ := hR.fb _ u' (h1.lt hr) (g1.lt hr) g2 _ h2
    exact ⟨x', .step g1 k1 (hc _ _ (hr _ _ h2) (hr _ _ k1) k2 h3), k2⟩
theorem IvX.com (hn : n ≤ 64) (hr : ∀ a b, Rl R a b → b < n) (hR : IvS n p p R) (hc : IvX n p c) (h : IvX n p s) : IvX n p (comW R n c s) := fun v w hv hw e hs => by
  rw [comW_bit hn hr] at hs ⊢
  refine ⟨hw, fun u hu => ?_⟩
  obtain ⟨u', h1, h2⟩ := hu.bis hr hR hc hw hv e.symm
  exact h u' u (h1.lt hr) (hu.lt hr) h2.symm (hs.2 u' h1)
theorem IvS.join {rel : List (List W64)} {g : Nat} (h : ∀ r ∈ rel, IvS n p' p r) : IvS n p' p (joinL n rel g) := ⟨fun v w hv hw e u hu => by
  obtain ⟨_, a, ha, hg, hr⟩ := joinL_bit.1 hu
  have hm : rel.getD a [] ∈ rel := by rw [List.getD_eq_getElem?_getD, List.getElem?_eq_getElem ha]; exact List.getElem_mem ha
  obtain ⟨u', h1, h2⟩ := (h _ hm).fb v w hv hw e u hr
  exact ⟨u', joinL_bit.2 ⟨hw, a, ha, hg, h1⟩, h2⟩⟩
theorem joinL_lt {rel : List (List W64)} {g : Nat} (h : ∀ r ∈ rel, ∀ a b, Rl r a b → b < n) {a b : Nat} (hu : Rl (joinL n rel g) a b) : b < n := by
  obtain ⟨_, k, hk, _, hr⟩ := joinL_bit.1 hu
  exact h _ (by rw [List.getD_eq_getElem?_getD, List.getElem?_eq_getElem hk]; exact List.getElem_mem hk) _ _ hr
end
theorem fmTo_inj {val : List W64} {v w : Nat} : ∀ {k : Nat}, fmTo val v k = fmTo val w k → ∀ j, j < k → (val.getD j 0#64).getLsbD v = (val.getD j 0#64).getLsbD w
  | 0, _, j, hj => by omega
  | k + 1, h, j, hj => by
    have h1 := fmTo_lt val v k
    have h2 := fmTo_lt val w k
    have hb : (val.getD k 0#64).getLsbD v = (val.getD k 0#64).getLsbD w ∧ fmTo val v k = fmTo val w k := by
      rw [fmTo, fmTo] at h
      cases e1 : (val.getD k 0#64).getLsbD v <;> cases e2 : (val.getD k 0#64).getLsbD w <;> simp only [e1, e2, if_true, Bool.false_eq_true, if_false] at h
      · exact ⟨rfl, by omega⟩
      · omega
      · omega
      · exact ⟨rfl, by omega⟩
    rcases Nat.lt_succ_iff_lt_or_eq.1 hj with h3 | rfl
    · exact fmTo_inj hb.2 j h3
    · exact hb.1
section
variable {n : Nat} {val : List W64} {rels : List (List W64)}
theorem psq_ref {k : Nat} {v w : Nat} (hv : v < n) (hw : w < n) (h : PEq (psq n val rels (k + 1)) v w) : PEq (psq n val rels k) v w := ((nxt_eq_iff (by rw [psq_len]; exact hv) (by rw [psq_len]; exact hw)).1 h).1
theorem psq_refs {k j : Nat} {v w : Nat} (hv : v < n) (hw : w < n) (h : PEq (psq n val rels (k + j)) v w) : PEq (psq n val rels k) v w := by
  induction j with
  | zero => exact h
  | succ j ih => exact ih (psq_ref hv hw h)
theorem psq_fact {k : Nat} (i : Nat) : IvX n (psq n val rels k) (val.getD i 0#64) := fun v w hv hw e hs => by
  have h0 : PEq (psq n val rels 0) v w := psq_refs (j := k) hv hw (by rw [Nat.zero_add]; exact e)
  by_cases hi : i < val.length
  · have := fmTo_inj ((ker_eq_iff hv hw).1 h0) i hi
    rw [← this]; exact hs
  · rw [List.getD_eq_getElem?_getD, List.getElem?_eq_none (Nat.le_of_not_lt hi)] at hs
    simp at hs
theorem psq_ivs (hn : n ≤ 64) {k : Nat} {r : List W64} (hr : r ∈ rels) (hlt : ∀ a b, Rl r a b → b < n) : IvS n (psq n val rels (k + 1)) (psq n val rels k) r := ⟨fun v w hv hw e u hu => by
  have hok := psq_ok (val := val) (rels := rels) hn k
  have hl := psq_len (n := n) (val := val) (rels := rels) k
  have h1 := ((nxt_eq_iff (by rw [psq_len]; exact hv) (by rw [psq_len]; exact hw)).1 e).2 r hr
  have hun := hlt _ _ hu
  obtain ⟨h2, _, _⟩ := hok.low u (by omega)
  have hb : (rch (psq n val rels k) (r.getD v 0#64)).getLsbD ((psq n val rels k).getD u 0).toNat = true := (rch_bit hok).2 ⟨u, by omega, hu, by omega⟩
  rw [h1] at hb
  obtain ⟨x, hx, hx2, hx3⟩ := (rch_bit hok).1 hb
  exact ⟨x, hx2, by show _ = _; omega⟩⟩
end
/-- a property of all labels -/
def allL (q : Int → Int → Int → Prop) : Tr → Prop
  | .leaf op i _ g => q op i g
  | .un op i _ g a => q op i g ∧ allL q a
  | .bin op i _ g a b => q op i g ∧ allL q a ∧ allL q b
theorem allL.mono {q q' : Int → Int → Int → Prop} (h : ∀ op i g, q op i g → q' op i g) : ∀ {t : Tr}, allL q t → allL q' t
  | .leaf _ _ _ _, h1 => h _ _ _ h1
  | .un _ _ _ _ _, h1 => ⟨h _ _ _ h1.1, h1.2.mono h⟩
  | .bin _ _ _ _ _ _, h1 => ⟨h _ _ _ h1.1, h1.2.1.mono h, h1.2.2.mono h⟩
/-- static formulas agree on worlds that are together for good -/
theorem sem_inv {n : Nat} {val : List W64} {rel rels : List (List W64)} (hn : n ≤ 64) (hsub : ∀ r ∈ rel, r ∈ rels) (hlt : ∀ r ∈ rels, ∀ a b, Rl r a b → b < n) {d : Nat} (hd : psq n val rels d = psq n val rels (d + 1)) :
    ∀ {t : Tr}, allL (fun op i g => (op = 9 ∨ op = 10 → i.toNat < rel.length) ∧ (op = 12 → meetL n rel g.toNat ∈ rels)) t → IvX n (psq n val rels d) (semT n val rel t) := by
  have hI : ∀ r ∈ rels, IvS n (psq n val rels d) (psq n val rels d) r := fun r hr => by
    have := psq_ivs (val := val) hn (k := d) hr (hlt r hr)
    rw [← hd] at this
    exact this
  have key : ∀ (op i g : Int) (x y : W64), (op = 9 ∨ op = 10 → i.toNat < rel.length) → (op = 12 → meetL n rel g.toNat ∈ rels) → IvX n (psq n val rels d) x → IvX n (psq n val rels d) y → IvX n (psq n val rels d) (oneW n val rel op i g x y) := by
    intro op i g x y h1 h2 hx hy
    unfold oneW
    have hr : (op = 9 ∨ op = 10) → rel.getD i.toNat [] ∈ rels := fun h => hsub _ (by
      have := h1 h
      rw [List.getD_eq_getElem?_getD, List.getElem?_eq_getElem this]; exact List.getElem_mem this)
    split
    · exact psq_fact _
    split
    · exact .bool hn hx hy
    split
    · rename_i h9; exact hx.box hn (hlt _ (hr (.inl h9))) (hI _ (hr (.inl h9)))
    split
    · rename_i h10; exact (IvX.all hn).and ((((IvX.all hn).and (hx.not hn)).box hn (hlt _ (hr (.inr h10))) (hI _ (hr (.inr h10)))).not hn)
    split
    · exact hx.box hn (fun a b => joinL_lt (fun r hr => hlt r (hsub r hr))) (.join (fun r hr => hI r (hsub r hr)))
    split
    · rename_i h12; exact hx.box hn (hlt _ (h2 h12)) (hI _ (h2 h12))
    · exact IvX.com hn (fun a b => joinL_lt (fun r hr => hlt r (hsub r hr))) (.join (fun r hr => hI r (hsub r hr))) hx hy
  intro t
  induction t with
  | leaf op i e g => intro h; exact key op i g _ _ h.1 h.2 .zero .zero
  | un op i e g a iha => intro h; exact key op i g _ _ h.1.1 h.1.2 (iha h.2) .zero
  | bin op i e g a b iha ihb => intro h; exact key op i g _ _ h.1.1 h.1.2 (iha h.2.1) (ihb h.2.2)
/-- the modal depth -/
def mdO (op : Int) : Nat := if 9 ≤ op ∧ op ≤ 15 ∨ 18 ≤ op then 1 else 0
def depT : Tr → Nat
  | .leaf op _ _ _ => mdO op
  | .un op _ _ _ a => depT a + mdO op
  | .bin op _ _ _ a b => max (depT a) (depT b) + mdO op
/-- formulas of knowledge agree on worlds that are together for as many rounds as they are deep -/
theorem sem_dep {n : Nat} {val : List W64} {rel : List (List W64)} (hn : n ≤ 64) (hlt : ∀ r ∈ rel, ∀ a b, Rl r a b → b < n) :
    ∀ {t : Tr} {k : Nat}, t.wf → allL (fun op i _ => op ≤ 10 ∧ (op = 9 ∨ op = 10 → i.toNat < rel.length)) t → depT t ≤ k → IvX n (psq n val rel k) (semT n val rel t) := by
  have hbox : ∀ (k : Nat) (i : Int) (x : W64), i.toNat < rel.length → IvX n (psq n val rel k) x → IvX n (psq n val rel (k + 1)) (boxW (rel.getD i.toNat []) n x) := fun k i x hi hx => by
    have hm : rel.getD i.toNat [] ∈ rel := by rw [List.getD_eq_getElem?_getD, List.getElem?_eq_getElem hi]; exact List.getElem_mem hi
    exact hx.box hn (hlt _ hm) (psq_ivs hn hm (hlt _ hm))
  intro t
  induction t with
  | leaf op i e g =>
    intro k hw h hk
    show IvX n _ (oneW n val rel op i g 0#64 0#64)
    unfold oneW
    split
    · exact psq_fact _
    · rw [if_pos (by have := h.1; have hx : usX op = false := hw; by_cases h4 : op ≤ 8
                     · exact h4
                     · rw [show usX op = true from by simp only [usX, Bool.and_eq_true, decide_eq_true_eq]; omega] at hx; cases hx)]
      exact .bool hn .zero .zero
  | un op i e g a iha =>
    intro k hw h hk
    obtain ⟨⟨h10, hi⟩, ha⟩ := h
    show IvX n _ (oneW n val rel op i g (semT n val rel a) 0#64)
    unfold oneW
    have hd : depT a + mdO op ≤ k := hk
    split
    · exact psq_fact _
    split
    · exact .bool hn (iha hw.2.2 ha (by omega)) .zero
    · have hop : op = 9 ∨ op = 10 := by omega
      have hmd : mdO op = 1 := by rcases hop with rfl | rfl <;> rfl
      obtain ⟨k, rfl⟩ : ∃ j, k = j + 1 := ⟨k - 1, by omega⟩
      have hx := iha hw.2.2 ha (k := k) (by omega)
      split
      · exact hbox k i _ (hi hop) hx
      · rw [if_pos (by omega)]
        exact (IvX.all hn).and ((hbox k i _ (hi hop) ((IvX.all hn).and (hx.not hn))).not hn)
  | bin op i e g a b iha ihb =>
    intro k hw h hk
    obtain ⟨⟨h10, hi⟩, ha, hb⟩ := h
    have hd : max (depT a) (depT b) + mdO op ≤ k := hk
    show IvX n _ (oneW n val rel op i g (semT n val rel a) (semT n val rel b))
    unfold oneW
    split
    · exact psq_fact _
    · rw [if_pos (by have hy : usY op = true := hw.1
                     simp only [usY, Bool.or_eq_true, Bool.and_eq_true, decide_eq_true_eq, beq_iff_eq] at hy
                     omega)]
      exact .bool hn (iha hw.2.1 ha (by omega)) (ihb hw.2.2 hb (by omega))
end Go.Proofs.Wit
namespace Go.Proofs.Wit
open Go
def gcB (r : List W64) (n : Nat) (c s : W64) : Nat → W64
  | 0 => allW n
  | k + 1 => boxW r n ((allW n &&& ~~~c) ||| (s &&& gcB r n c s k))
section
variable {r : List W64} {n : Nat} {c s : W64}
theorem allW_iff (hn : n ≤ 64) {i : Nat} : (allW n).getLsbD i = true ↔ i < n := by
  by_cases hi : i < 64
  · rw [allW_bit hn hi]; simp
  · constructor
    · intro h; rw [BitVec.getLsbD_of_ge _ _ (by omega)] at h; cases h
    · intro h; omega
theorem gc_lt (hn : n ≤ 64) : ∀ k i, (gcB r n c s k).getLsbD i = true → i < n
  | 0, _i, h => (allW_iff hn).1 h
  | _k + 1, _i, h => ((boxW_bit hn).1 h).1
theorem gcS_bit (hn : n ≤ 64) {k u : Nat} : (((allW n &&& ~~~c) ||| (s &&& gcB r n c s k)).getLsbD u = true) ↔ (u < n ∧ c.getLsbD u = false) ∨ (s.getLsbD u = true ∧ (gcB r n c s k).getLsbD u = true) := by
  rw [BitVec.getLsbD_or, Bool.or_eq_true, BitVec.getLsbD_and, Bool.and_eq_true, BitVec.getLsbD_and, Bool.and_eq_true, allW_iff hn, BitVec.getLsbD_not, Bool.and_eq_true, decide_eq_true_eq, Bool.not_eq_true']
  constructor
  · rintro (⟨h1, h2⟩ | h)
    · exact .inl ⟨h1, h2.2⟩
    · exact .inr h
  · rintro (⟨h1, h2⟩ | h)
    · exact .inl ⟨h1, by omega, h2⟩
    · exact .inr h
theorem gc_dec (hn : n ≤ 64) : ∀ k i, (gcB r n c s (k + 1)).getLsbD i = true → (gcB r n c s k).getLsbD i = true
  | 0, i, h => (allW_iff hn).2 ((boxW_bit hn).1 h).1
  | k + 1, i, h => by
    obtain ⟨h1, h2⟩ := (boxW_bit hn).1 h
    refine (boxW_bit hn).2 ⟨h1, fun u hu => (gcS_bit hn).2 ?_⟩
    rcases (gcS_bit hn).1 (h2 u hu) with h3 | ⟨h3, h4⟩
    · exact .inl h3
    · exact .inr ⟨h3, gc_dec hn k u h4⟩
theorem com_gc (hn : n ≤ 64) (hr : ∀ a b, Rl r a b → b < n) : ∀ k i, (comW r n c s).getLsbD i = true → (gcB r n c s k).getLsbD i = true
  | 0, i, h => (allW_iff hn).2 ((comW_bit hn hr).1 h).1
  | k + 1, i, h => by
    obtain ⟨h1, h2⟩ := (comW_bit hn hr).1 h
    refine (boxW_bit hn).2 ⟨h1, fun u hu => (gcS_bit hn).2 ?_⟩
    cases hc : c.getLsbD u with
    | false => exact .inl ⟨hr _ _ hu, rfl⟩
    | true =>
      refine .inr ⟨h2 u (.one hu hc), com_gc hn hr k u ((comW_bit hn hr).2 ⟨hr _ _ hu, fun x hx => h2 x ?_⟩)⟩
      clear h2
      induction hx with
      | one h hc2 => exact .step (.one hu hc) h hc2
      | step _ h3 hc2 ih => exact .step ih h3 hc2
theorem gc_fix (hn : n ≤ 64) (hr : ∀ a b, Rl r a b → b < n) {k : Nat} (h : gcB r n c s (k + 1) = gcB r n c s k) : gcB r n c s k = comW r n c s := by
  refine bits_ext (gc_lt hn k) (fun i hi => ((comW_bit hn hr).1 hi).1) (fun i _ => ⟨fun hi => (comW_bit hn hr).2 ⟨gc_lt hn k i hi, fun u hu => ?_⟩, com_gc hn hr k i⟩)
  have step : ∀ a b, (gcB r n c s k).getLsbD a = true → Rl r a b → c.getLsbD b = true → s.getLsbD b = true ∧ (gcB r n c s k).getLsbD b = true := fun a b ha hab hcb => by
    rw [← h] at ha
    have h2 := ((boxW_bit hn).1 ha).2 b hab
    rcases (gcS_bit hn).1 h2 with h3 | h3
    · rw [hcb] at h3; exact absurd h3.2 (by simp)
    · exact h3
  have key : s.getLsbD u = true ∧ (gcB r n c s k).getLsbD u = true := by
    induction hu with
    | one h2 hc2 => exact step _ _ hi h2 hc2
    | step _ h2 hc2 ih => exact step _ _ ih.2 h2 hc2
  exact key.1
theorem gc_less (hn : n ≤ 64) {k : Nat} (h : gcB r n c s (k + 1) ≠ gcB r n c s k) : cntB n (gcB r n c s (k + 1)) < cntB n (gcB r n c s k) :=
  cntB_lt (gc_lt hn (k + 1)) (gc_lt hn k) (gc_dec hn k) h
end
end Go.Proofs.Wit
namespace Go.Proofs.Wit
open Go
/-! labels, masks, and which formulas fit a model -/
def lab (q : Int → Int → Int → Prop) : Tr → Prop
  | .leaf op i _ g => q op i g
  | .un op i _ g _ => q op i g
  | .bin op i _ g _ _ => q op i g
theorem allL.lab {q : Int → Int → Int → Prop} : ∀ {t : Tr}, allL q t → Wit.lab q t
  | .leaf .., h => h
  | .un .., h => h.1
  | .bin .., h => h.1
theorem allL.kid {q : Int → Int → Int → Prop} : ∀ {t c : Tr}, allL q t → c ∈ kids t → allL q c
  | .leaf .., _, _, hc => by cases hc
  | .un .., _, h, hc => by rw [List.mem_singleton.1 hc]; exact h.2
  | .bin .., _, h, hc => by
    simp only [kids, List.mem_cons, List.not_mem_nil, or_false] at hc
    rcases hc with rfl | rfl
    · exact h.2.1
    · exact h.2.2
theorem Clo.allL {q : Int → Int → Int → Prop} {ts : List Tr} (hc : Clo ts) (h : ∀ u ∈ ts, Wit.lab q u) : ∀ t : Tr, t ∈ ts → Wit.allL q t
  | .leaf .., ht => h _ ht
  | .un _ _ _ _ a, ht => ⟨h _ ht, hc.allL h a (hc.mem ht a (by simp [kids]))⟩
  | .bin _ _ _ _ a b, ht => ⟨h _ ht, hc.allL h a (hc.mem ht a (by simp [kids])), hc.allL h b (hc.mem ht b (by simp [kids]))⟩
theorem mem_subT (t : Tr) : t ∈ subT t := (subT_ok t).mem
theorem allL_subT {q : Int → Int → Int → Prop} {t : Tr} : allL q t ↔ ∀ u ∈ subT t, lab q u :=
  ⟨fun h u hu => (visit_all (fun _ ht _ hc => ht.kid hc) t h (fun u hu => by cases hu) u hu).lab, fun h => (subT_ok t).clo.allL h t (mem_subT t)⟩
theorem lab_nodeOf {q : Int → Int → Int → Prop} {ts : List Tr} : ∀ {u : Tr}, lab q u ↔ q (nodeOf ts u).op (nodeOf ts u).i (nodeOf ts u).g
  | .leaf .. => Iff.rfl
  | .un .. => Iff.rfl
  | .bin .. => Iff.rfl
theorem allL_can {q : Int → Int → Int → Prop} {t : Tr} : allL q t ↔ ∀ n ∈ canT t, q n.op n.i n.g := by
  rw [allL_subT]
  show _ ↔ ∀ n ∈ nodesOf (subT t), _
  unfold nodesOf
  constructor
  · intro h n hn
    obtain ⟨u, hu, rfl⟩ := List.mem_map.1 hn
    exact lab_nodeOf.1 (h u hu)
  · intro h u hu
    exact lab_nodeOf.2 (h _ (List.mem_map_of_mem hu))
def orL (h : NV → Nat) (c : List NV) : Nat := c.foldl (fun a n => a ||| h n) 0
theorem orL_snoc {h : NV → Nat} {c : List NV} {n : NV} : orL h (c ++ [n]) = orL h c ||| h n := by simp [orL]
theorem orL_take {h : NV → Nat} {c : List NV} {k : Nat} (hk : k < c.length) : orL h (c.take (k + 1)) = orL h (c.take k) ||| h c[k] := by rw [List.take_succ_eq_append_getElem hk, orL_snoc]
theorem orL_lt {h : NV → Nat} {k : Nat} {c : List NV} : (∀ n ∈ c, h n < 2 ^ k) → orL h c < 2 ^ k := by
  induction c using snoc_ind with
  | h0 => intro _; exact Nat.two_pow_pos k
  | h1 c n ih => intro hb; rw [orL_snoc]; exact Nat.or_lt_two_pow (ih (fun m hm => hb m (by simp [hm]))) (hb n (by simp))
theorem orL_bit {h : NV → Nat} {j : Nat} {c : List NV} : (orL h c).testBit j = true ↔ ∃ n ∈ c, (h n).testBit j = true := by
  induction c using snoc_ind with
  | h0 => simp [orL]
  | h1 c n ih =>
    rw [orL_snoc, Nat.testBit_or, Bool.or_eq_true, ih]
    simp only [List.mem_append, List.mem_singleton]
    constructor
    · rintro (⟨m, h1, h2⟩ | h1)
      · exact ⟨m, .inl h1, h2⟩
      · exact ⟨n, .inr rfl, h1⟩
    · rintro ⟨m, h1 | rfl, h2⟩
      · exact .inl ⟨m, h1, h2⟩
      · exact .inr h2
def ftN (n : NV) : Nat := if n.op = 3 then 2 ^ n.i.toNat else 0
def agN (n : NV) : Nat := (if agO n.op = true then 2 ^ n.i.toNat else 0) ||| n.g.toNat
structure FldOk (op i e g : Int) : Prop where
  i0 : iO op = false → i = 0
  e0 : op ≠ 17 → e = 0
  g0 : grO op = false → g = 0
  fact : op = 3 → 0 ≤ i ∧ i < 8
  ag : agO op = true → 0 ≤ i ∧ i < 4
  act : op = 17 → (0 ≤ i ∧ i < 8) ∧ 0 ≤ e ∧ e < 8
  gr : grO op = true → 1 ≤ g ∧ g < 16
theorem fldOk_of {op i e g : Int} (h : fldE op i e g = 0) : FldOk op i e g := by
  unfold fldE at h
  split at h
  · cases h
  · rename_i h1
    split at h
    · cases h
    · rename_i h2
      simp only [Bool.or_eq_true, Bool.and_eq_true, Bool.not_eq_true', bne_iff_ne, ne_eq, beq_iff_eq, not_or, not_and, Bool.and_eq_false_iff, decide_eq_false_iff_not, Classical.not_not] at h1 h2
      obtain ⟨⟨a1, a2⟩, a3⟩ := h1
      obtain ⟨⟨⟨b1, b2⟩, b3⟩, b4⟩ := h2
      refine ⟨a1, a2, a3, fun e => ?_, fun e => ?_, fun e => ?_, fun e => ?_⟩
      · have := b1 e; omega
      · have := b2 e; omega
      · have := b3 e; omega
      · have := b4 e; omega
def okM (m k A : Nat) : Bool := (List.range k).all (fun i => gb m i != 1 || decide (i < A))
theorem gb_testBit {m i : Nat} : gb m i = 1 ↔ m.testBit i = true := by
  unfold gb
  rw [Nat.testBit_eq_decide_div_mod_eq]; simp
theorem okM_iff {m k A : Nat} : okM m k A = true ↔ ∀ i, i < k → m.testBit i = true → i < A := by
  unfold okM
  simp only [List.all_eq_true, List.mem_range, Bool.or_eq_true, bne_iff_ne, ne_eq, decide_eq_true_eq, gb_testBit]
  constructor
  · intro h i hi hb
    rcases h i hi with h1 | h1
    · exact absurd hb h1
    · exact h1
  · intro h i hi
    by_cases hb : m.testBit i = true
    · exact .inr (h i hi hb)
    · exact .inl hb
def fitB (f : List NV) (A B : Nat) : Bool := chkF f == 0 && (okM (orL agN (compF f)) 4 A && okM (orL ftN (compF f)) 8 B)
def FitL (A B : Nat) (op i g : Int) : Prop := (agO op = true → i.toNat < A) ∧ (op = 3 → i.toNat < B) ∧ g.toNat < 2 ^ A
theorem bits_lt {g A : Nat} (hg : g < 16) : (∀ i, i < 4 → g.testBit i = true → i < A) ↔ g < 2 ^ A := by
  constructor
  · intro h
    refine Nat.lt_pow_two_of_testBit g (fun i hi => ?_)
    by_cases h4 : i < 4
    · cases e : g.testBit i with
      | false => rfl
      | true => have := h i h4 e; omega
    · exact Nat.testBit_lt_two_pow (Nat.lt_of_lt_of_le hg (by show 2 ^ 4 ≤ 2 ^ i; exact Nat.pow_le_pow_right (by decide) (by omega)))
  · intro h i _ hb
    refine Classical.byContradiction (fun hA => ?_)
    rw [Nat.testBit_lt_two_pow (Nat.lt_of_lt_of_le h (Nat.pow_le_pow_right (by decide) (by omega)))] at hb
    cases hb
theorem g_lt {op i e g : Int} (h : FldOk op i e g) : g.toNat < 16 := by
  cases hg : grO op with
  | false => rw [h.g0 hg]; decide
  | true => have := h.gr hg; omega
theorem agN_lt {n : NV} (h : FldOk n.op n.i n.e n.g) : agN n < 2 ^ 4 := by
  refine Nat.or_lt_two_pow ?_ (g_lt h)
  split
  · rename_i ha; have := h.ag ha; exact Nat.pow_lt_pow_right (by decide) (by omega)
  · decide
theorem ftN_lt {n : NV} (h : FldOk n.op n.i n.e n.g) : ftN n < 2 ^ 8 := by
  unfold ftN
  split
  · rename_i ha; have := h.fact ha; exact Nat.pow_lt_pow_right (by decide) (by omega)
  · decide
theorem fit_ag {n : NV} (h : FldOk n.op n.i n.e n.g) {A : Nat} : (∀ i, i < 4 → (agN n).testBit i = true → i < A) ↔ (agO n.op = true → n.i.toNat < A) ∧ n.g.toNat < 2 ^ A := by
  rw [← bits_lt (g_lt h)]
  unfold agN
  constructor
  · intro h1
    refine ⟨fun ha => ?_, fun i hi hb => h1 i hi (by rw [Nat.testBit_or, hb, Bool.or_true])⟩
    have := h.ag ha
    exact h1 n.i.toNat (by omega) (by rw [Nat.testBit_or, if_pos ha, Nat.testBit_two_pow_self, Bool.true_or])
  · rintro ⟨h1, h2⟩ i hi hb
    rw [Nat.testBit_or, Bool.or_eq_true] at hb
    rcases hb with hb | hb
    · split at hb
      · rename_i ha
        rw [Nat.testBit_two_pow, decide_eq_true_eq] at hb
        rw [← hb]; exact h1 ha
      · rw [Nat.zero_testBit] at hb; cases hb
    · exact h2 i hi hb
theorem fit_ft {n : NV} (h : FldOk n.op n.i n.e n.g) {B : Nat} : (∀ i, i < 8 → (ftN n).testBit i = true → i < B) ↔ (n.op = 3 → n.i.toNat < B) := by
  unfold ftN
  constructor
  · intro h1 h3
    have := h.fact h3
    exact h1 n.i.toNat (by omega) (by rw [if_pos h3, Nat.testBit_two_pow_self])
  · intro h1 i _ hb
    split at hb
    · rename_i h3
      rw [Nat.testBit_two_pow, decide_eq_true_eq] at hb
      rw [← hb]; exact h1 h3
    · rw [Nat.zero_testBit] at hb; cases hb
theorem NodesOk.fld {f : List NV} (h : NodesOk f) : ∀ n ∈ f, FldOk n.op n.i n.e n.g := fun n hn => by
  obtain ⟨i, hi, rfl⟩ := List.mem_iff_getElem.1 hn
  exact fldOk_of (h i hi).fld
theorem NodesOk.opm {f : List NV} (h : NodesOk f) : ∀ n ∈ f, 1 ≤ n.op ∧ n.op ≤ 21 := fun n hn => by
  obtain ⟨i, hi, rfl⟩ := List.mem_iff_getElem.1 hn
  exact (h i hi).op
theorem fitB_iff {f : List NV} {A B : Nat} : fitB f A B = true ↔ chkF f = 0 ∧ allL (FitL A B) (topT f) := by
  unfold fitB
  rw [Bool.and_eq_true, beq_iff_eq]
  refine and_congr_right (fun h0 => ?_)
  have hok := (chkF_zero.1 h0).top
  rw [compF_eq h0, allL_can, Bool.and_eq_true, okM_iff, okM_iff]
  have hfl := (canT_nodes hok).fld
  constructor
  · rintro ⟨h1, h2⟩ n hn
    have k1 := (fit_ag (hfl n hn) (A := A)).1 (fun i hi hb => h1 i hi (orL_bit.2 ⟨n, hn, hb⟩))
    have k2 := (fit_ft (hfl n hn) (B := B)).1 (fun i hi hb => h2 i hi (orL_bit.2 ⟨n, hn, hb⟩))
    exact ⟨k1.1, k2, k1.2⟩
  · intro h
    constructor
    · intro i hi hb
      obtain ⟨n, hn, hb⟩ := orL_bit.1 hb
      exact (fit_ag (hfl n hn)).2 ⟨(h n hn).1, (h n hn).2.2⟩ i hi hb
    · intro i hi hb
      obtain ⟨n, hn, hb⟩ := orL_bit.1 hb
      exact (fit_ft (hfl n hn)).2 (h n hn).2.1 i hi hb
/-! fragments -/
def andN (a b : Nat) : Nat := a &&& (511 ^^^ b)
theorem andN_zero {a b : Nat} (ha : a < 512) : andN a b = 0 ↔ ∀ i, a.testBit i = true → b.testBit i = true := by
  have h511 : ∀ i, (511 : Nat).testBit i = decide (i < 9) := fun i => by
    rw [show (511 : Nat) = 2 ^ 9 - 1 from rfl, Nat.testBit_two_pow_sub_one]
  constructor
  · intro h i hi
    have h9 : i < 9 := by
      refine Classical.byContradiction (fun hc => ?_)
      rw [Nat.testBit_lt_two_pow (Nat.lt_of_lt_of_le ha (by show 2 ^ 9 ≤ 2 ^ i; exact Nat.pow_le_pow_right (by decide) (by omega)))] at hi
      cases hi
    have := congrArg (fun x => x.testBit i) h
    simp only [andN, Nat.testBit_and, Nat.testBit_xor, hi, h511, h9, decide_true, Nat.zero_testBit, Bool.true_and, Bool.true_bne] at this
    simpa using this
  · intro h
    refine Nat.eq_of_testBit_eq (fun i => ?_)
    rw [andN, Nat.testBit_and, Nat.testBit_xor, h511, Nat.zero_testBit]
    cases e : a.testBit i with
    | false => rfl
    | true =>
      rw [h i e]
      have h9 : i < 9 := by
        refine Classical.byContradiction (fun hc => ?_)
        rw [Nat.testBit_lt_two_pow (Nat.lt_of_lt_of_le ha (by show 2 ^ 9 ≤ 2 ^ i; exact Nat.pow_le_pow_right (by decide) (by omega)))] at e
        cases e
      simp [h9]
theorem frN_lt (n : NV) : frN n < 512 := by
  have := frO_lt n.op
  have := frN_eq n
  omega
theorem frg_zero {c : List NV} {b : Nat} : andN (frgL c) b = 0 ↔ ∀ n ∈ c, andN (frN n) b = 0 := by
  rw [andN_zero (frgL_lt c)]
  constructor
  · intro h n hn
    rw [andN_zero (frN_lt n)]
    exact fun i hi => h i (orL_bit.2 ⟨n, hn, hi⟩)
  · intro h i hi
    obtain ⟨n, hn, hb⟩ := orL_bit.1 (show (orL frN c).testBit i = true from hi)
    exact (andN_zero (frN_lt n)).1 (h n hn) i hb
theorem op_cases {p : Int → Prop} (h : ∀ k : Nat, k < 21 → p ((k : Int) + 1)) {op : Int} (ho : 1 ≤ op ∧ op ≤ 21) : p op := by
  have := h (op.toNat - 1) (by omega)
  rw [show (((op.toNat - 1 : Nat) : Int) + 1) = op by omega] at this
  exact this
theorem frO_15 {op : Int} (ho : 1 ≤ op ∧ op ≤ 21) : andN (frO op).toNat 15 = 0 ↔ op ≤ 13 :=
  op_cases (p := fun op => andN (frO op).toNat 15 = 0 ↔ op ≤ 13) (by decide) ho
theorem frO_1 {op : Int} (ho : 1 ≤ op ∧ op ≤ 21) : andN (frO op).toNat 1 = 0 ↔ op ≤ 10 :=
  op_cases (p := fun op => andN (frO op).toNat 1 = 0 ↔ op ≤ 10) (by decide) ho
theorem frg_has {t : Tr} {b : Nat} {r : Int → Prop} (ht : t.ok) (hr : ∀ {op : Int}, (1 ≤ op ∧ op ≤ 21) → (andN (frO op).toNat b = 0 ↔ r op)) : andN (frgL (canT t)) b = 0 ↔ allL (fun op _ _ => r op) t := by
  rw [frg_zero, allL_can]
  have ho := (canT_nodes ht).opm
  exact ⟨fun h n hn => (hr (ho n hn)).1 (h n hn), fun h n hn => (hr (ho n hn)).2 (h n hn)⟩
theorem bAndNotI {P : Program} {t : TypeId} {a b : Nat} (ha : a < 512) (hb : b < 512) : Bin P .andNot t (.int .i64 a) (.int .i64 b) (.int .i64 (andN a b)) := by
  refine bI _ ?_
  have h1 : (BitVec.ofInt 64 (a : Int)).toNat = a := by
    rw [BitVec.ofInt_natCast, BitVec.toNat_ofNat]; exact Nat.mod_eq_of_lt (by omega)
  have h2 : BitVec.ofInt 64 (b : Int) = BitVec.ofNat 64 b := BitVec.ofInt_natCast ..
  have h0 : BitVec.ofInt 64 (a : Int) = BitVec.ofNat 64 a := BitVec.ofInt_natCast ..
  have hx : andN a b < 2 ^ 9 := Nat.and_lt_two_pow _ (by show 511 ^^^ b < 2 ^ 9; exact Nat.xor_lt_two_pow (by decide) (by omega))
  have key : (BitVec.ofInt 64 (a : Int) &&& ~~~ BitVec.ofInt 64 (b : Int)) = BitVec.ofNat 64 (andN a b) := by
    rw [h0, h2]
    apply BitVec.eq_of_getLsbD_eq
    intro i hi
    rw [BitVec.getLsbD_and, BitVec.getLsbD_not, BitVec.getLsbD_ofNat, BitVec.getLsbD_ofNat, BitVec.getLsbD_ofNat, andN, Nat.testBit_and, Nat.testBit_xor, show (511 : Nat) = 2 ^ 9 - 1 from rfl, Nat.testBit_two_pow_sub_one]
    have e9 : ¬ i < 9 → a.testBit i = false := fun hc => Nat.testBit_lt_two_pow (Nat.lt_of_lt_of_le ha (by show 2 ^ 9 ≤ 2 ^ i; exact Nat.pow_le_pow_right (by decide) (by omega)))
    by_cases h9 : i < 9
    · simp [hi, h9]
    · simp [hi, e9 h9]
  show (binOp .andNot t (.int .i64 a) (.int .i64 b)) = _
  show (pure (Value.int .i64 (IntKind.i64.wrap ((BitVec.ofInt 64 (a : Int) &&& ~~~ BitVec.ofInt 64 (b : Int)).toNat : Int))) : Sem Value) = _
  rw [key, BitVec.toNat_ofNat, Nat.mod_eq_of_lt (by omega), IntWalk.i64_in _ (by omega)]
/-! what Holds says of a model and a formula -/
def holdE (n : Int) (val : List W64) (rel : List (List W64)) (f : List NV) : Int :=
  if checkM n val rel ≠ 0 then checkM n val rel else if chkF f ≠ 0 then chkF f else if andN (frgL (compF f)) 15 ≠ 0 then 10 else if fitB f rel.length val.length = false then 2 else 0
def StatL (A B : Nat) (op i g : Int) : Prop := op ≤ 13 ∧ FitL A B op i g
theorem allL_and {p q : Int → Int → Int → Prop} : ∀ {t : Tr}, allL p t → allL q t → allL (fun op i g => p op i g ∧ q op i g) t
  | .leaf .., h, k => ⟨h, k⟩
  | .un .., h, k => ⟨⟨h.1, k.1⟩, allL_and h.2 k.2⟩
  | .bin .., h, k => ⟨⟨h.1, k.1⟩, allL_and h.2.1 k.2.1, allL_and h.2.2 k.2.2⟩
theorem holdE_zero {n : Int} {val : List W64} {rel : List (List W64)} {f : List NV} : holdE n val rel f = 0 ↔ ValM n val rel ∧ chkF f = 0 ∧ allL (StatL rel.length val.length) (topT f) := by
  unfold holdE
  constructor
  · intro h
    split at h
    · rename_i h1; exact absurd h h1
    · rename_i h1
      split at h
      · rename_i h2; exact absurd h h2
      · rename_i h2
        split at h
        · cases h
        · rename_i h3
          split at h
          · cases h
          · rename_i h4
            have h2 := Classical.not_not.1 h2
            have h3 := Classical.not_not.1 h3
            rw [compF_eq h2] at h3
            exact ⟨checkM_zero.1 (Classical.not_not.1 h1), h2, allL_and ((frg_has (chkF_zero.1 h2).top frO_15).1 h3) (fitB_iff.1 (by simpa using h4)).2⟩
  · rintro ⟨h1, h2, h3⟩
    have k3 : andN (frgL (compF f)) 15 = 0 := by
      rw [compF_eq h2]; exact (frg_has (chkF_zero.1 h2).top frO_15).2 (h3.mono (fun _ _ _ h => h.1))
    have k4 : fitB f rel.length val.length = true := fitB_iff.2 ⟨h2, h3.mono (fun _ _ _ h => h.2)⟩
    rw [if_neg (by simp [checkM_zero.2 h1]), if_neg (by simp [h2]), if_neg (by simp [k3]), if_neg (by simp [k4])]
theorem semT_mk {n : Nat} {val : List W64} {rel : List (List W64)} {nd : NV} {a b : Tr} : semT n val rel (mkT nd a b) = oneW n val rel nd.op nd.i nd.g (if usX nd.op = true then semT n val rel a else 0#64) (if usY nd.op = true then semT n val rel b else 0#64) := by
  unfold mkT
  split
  · rename_i h; rw [if_pos (usY_X h)]; rfl
  · split
    · rename_i h; rfl
    · rfl
end Go.Proofs.Wit
namespace Go.Proofs.Wit
open Go Go.RowKit
/-! unions of relations, step by step; masks -/
section
variable {n : Nat} {rel : List (List W64)} {g k w : Nat}
theorem joinV_succ : joinW rel g w (k + 1) = if gb g k = 1 then joinW rel g w k ||| (rel.getD k []).getD w 0#64 else joinW rel g w k := rfl
theorem joinV_none (h : ∀ a, a < k → gb g a = 0) : joinW rel g w k = 0#64 := by
  induction k with
  | zero => rfl
  | succ k ih =>
    rw [joinV_succ, if_neg (by rw [h k (Nat.lt_succ_self k)]; decide)]
    exact ih (fun a ha => h a (Nat.lt_succ_of_lt ha))
theorem joinV_len : (joinTo n rel g k).length = n := by simp [joinTo]
theorem joinV_skip (h : gb g k = 0) : joinTo n rel g (k + 1) = joinTo n rel g k := by
  unfold joinTo
  congr 1
  funext w
  rw [joinV_succ, if_neg (by rw [h]; decide)]
theorem joinV_first (_hn : n ≤ 64) (h0 : ∀ a, a < k → gb g a = 0) (h1 : gb g k = 1) {r : List W64} (hr : rel.getD k [] = r) (hl : r.length = n) (_hv : Val r) : joinTo n rel g (k + 1) = r := by
  apply List.ext_getElem (by simp [joinTo, hl])
  intro i e1 e2
  have hi : i < n := by omega
  have e3 : (joinTo n rel g (k + 1))[i] = joinW rel g i (k + 1) := by simp [joinTo]
  rw [e3, joinV_succ, if_pos h1, joinV_none h0, hr]
  simp [List.getD_eq_getElem?_getD, e2]
theorem joinV_step (h1 : gb g k = 1) {r : List W64} (hr : rel.getD k [] = r) : flm (fun w x => x ||| r.getD w 0#64) (joinTo n rel g k) n = joinTo n rel g (k + 1) := by
  apply List.ext_getElem (by simp [joinTo, flm])
  intro i e1 e2
  have hi : i < n := by simpa [joinTo] using e2
  have e3 : (joinTo n rel g (k + 1))[i] = joinW rel g i (k + 1) := by simp [joinTo]
  rw [e3, joinV_succ, if_pos h1, hr]
  simp [flm, joinTo, hi]
end
/-- a relation all of whose points are below n -/
theorem joinL_val {n : Nat} {val : List W64} {rel : List (List W64)} (hv : ValM (n : Int) val rel) (g : Nat) : Val (joinL n rel g) ∧ (joinL n rel g).length = n := by
  have h64 := hv.n64
  have hl : (joinL n rel g).length = n := joinV_len
  refine ⟨⟨by omega, fun a b hab => ?_⟩, hl⟩
  rw [hl]
  obtain ⟨_, i, hi, _, h⟩ := joinL_bit.1 hab
  have hm : rel.getD i [] ∈ rel := by simp [List.getD_eq_getElem?_getD, hi]
  have := (hv.rels _ hm).lt _ _ h
  have := hv.len _ hm
  omega
theorem meetL_val {n : Nat} {val : List W64} {rel : List (List W64)} (hv : ValM (n : Int) val rel) (g : Nat) : Val (meetL n rel g) ∧ (meetL n rel g).length = n := by
  have h64 := hv.n64
  have hl : (meetL n rel g).length = n := meetTo_len
  refine ⟨⟨by omega, fun a b hab => ?_⟩, hl⟩
  rw [hl]
  have ha := hab.dom
  rw [hl] at ha
  unfold Rl at hab
  rw [meetL, meetTo_get ha] at hab
  exact meetW_lt (by omega) _ _ hab
theorem okM_shr {m k A : Nat} (hm : m < 2 ^ k) : okM m k A = decide (m / 2 ^ A = 0) := by
  have h1 : okM m k A = true ↔ m / 2 ^ A = 0 := by
    rw [okM_iff, Nat.div_eq_zero_iff_lt (Nat.two_pow_pos A)]
    constructor
    · intro h
      refine Nat.lt_pow_two_of_testBit m (fun i hi => ?_)
      by_cases hk : i < k
      · cases hb : m.testBit i with
        | false => rfl
        | true => have := h i hk hb; omega
      · exact Nat.testBit_lt_two_pow (Nat.lt_of_lt_of_le hm (Nat.pow_le_pow_right (by decide) (by omega)))
    · intro h i _ hb
      refine Classical.byContradiction (fun hn => ?_)
      rw [Nat.testBit_lt_two_pow (Nat.lt_of_lt_of_le h (Nat.pow_le_pow_right (by decide) (by omega)))] at hb
      cases hb
  by_cases h : m / 2 ^ A = 0
  · rw [decide_eq_true h]; exact h1.2 h
  · rw [decide_eq_false h, Bool.eq_false_iff]; exact fun h2 => h (h1.1 h2)
theorem ag_gr {op : Int} (h : agO op = true) : grO op = false := by
  simp only [agO, Bool.or_eq_true, beq_iff_eq] at h
  simp only [grO, Bool.and_eq_false_iff, decide_eq_false_iff_not]
  omega
theorem g_nn {n : NV} (h : FldOk n.op n.i n.e n.g) : 0 ≤ n.g := by
  cases hg : grO n.op with
  | true => have := h.gr hg; omega
  | false => have := h.g0 hg; omega
end Go.Proofs.Wit
namespace Go.Proofs.Wit
/-! a canonical list's sets -/
structure NdFit (A B : Nat) (nd : NV) : Prop where
  op1 : 1 ≤ nd.op
  op13 : nd.op ≤ 13
  fact : nd.op = 3 → 0 ≤ nd.i ∧ nd.i.toNat < B
  ag : nd.op = 9 ∨ nd.op = 10 → 0 ≤ nd.i ∧ nd.i.toNat < A
  gr : 11 ≤ nd.op → 1 ≤ nd.g ∧ nd.g.toNat < 2 ^ A
theorem semT_node {n : Nat} {val : List W64} {rel : List (List W64)} {g : List NV} (ho : NodesOk g) {k : Nat} (hk : k < g.length) :
    semT n val rel (treeAt g k) = oneW n val rel g[k].op g[k].i g[k].g (if usX g[k].op = true then semT n val rel (treeAt g g[k].x.toNat) else 0#64) (if usY g[k].op = true then semT n val rel (treeAt g g[k].y.toNat) else 0#64) := by
  have ho2 := ho.ord k hk
  rw [treeAt_node hk (fun h => by have := ho2.1 h; omega) (fun h => by have := ho2.2 h; omega), semT_mk]
/-- what is known of a list that is its own canonical list -/
structure CanF (g : List NV) : Prop where
  chk : chkF g = 0
  can : g = canT (topT g)
theorem CanF.ok {g : List NV} (h : CanF g) : (topT g).ok := (chkF_zero.1 h.chk).top
theorem CanF.of {t : Tr} (h : t.ok) (hl : (canT t).length ≤ 200) : CanF (canT t) := ⟨(bT_chk h hl).2.1, by rw [(bT_chk h hl).2.2]⟩
theorem CanF.compF {f : List NV} (h : chkF f = 0) : CanF (compF f) := by
  have hl := compF_len h
  have hl2 := (chkF_zero.1 h).len
  rw [compF_eq h] at hl ⊢
  exact .of (chkF_zero.1 h).top (by omega)
theorem topT_comp {f : List NV} (h : chkF f = 0) : topT (compF f) = topT f := by
  rw [compF_eq h]; exact topT_canT (chkF_zero.1 h).top.wf
theorem CanF.nodes {g : List NV} (h : CanF g) : NodesOk g := (chkF_zero.1 h.chk).nodes
theorem CanF.trees {g : List NV} (h : CanF g) : Wit.trees g = subT (topT g) := by
  have := h.can
  rw [this]
  conv => rhs; rw [← this]
  exact trees_canT h.ok.wf
theorem CanF.mem {g : List NV} (h : CanF g) {k : Nat} (hk : k < g.length) : treeAt g k ∈ subT (topT g) := by
  rw [← h.trees, treeAt_eq hk]; exact List.getElem_mem _
theorem CanF.all {g : List NV} (h : CanF g) {q : Int → Int → Int → Prop} (hq : allL q (topT g)) {k : Nat} (hk : k < g.length) : allL q (treeAt g k) :=
  visit_all (fun _ ht _ hc => ht.kid hc) (topT g) hq (fun u hu => by cases hu) _ (h.mem hk)
end Go.Proofs.Wit
namespace Go.Proofs.Wit
/-! partitions whose worlds agree on a set -/
structure Agr (n : Nat) (P : List Int) (s : W64) : Prop where
  len : P.length = n
  ok : OkP P
  inv : IvX n P s
theorem val_lt {n : Int} {val : List W64} {rel : List (List W64)} (hv : ValM n val rel) {k : Nat} (hn : n = (k : Int)) : ∀ r ∈ rel, ∀ a b, Rl r a b → b < k := fun r hr a b h => by
  have h1 := (hv.rels r hr).lt a b h
  have h2 := hv.len r hr
  omega
theorem stat_ix {rl vl : Nat} {op i g : Int} (h : StatL rl vl op i g) : op = 9 ∨ op = 10 → i.toNat < rl := fun e => h.2.1 (by rcases e with rfl | rfl <;> rfl)
section
variable {m : Int} {n : Nat} {val : List W64} {rel : List (List W64)} {t : Tr}
theorem agr_psq (hv : ValM m val rel) (hn : m = (n : Int)) {rels : List (List W64)} (hsub : ∀ r ∈ rel, r ∈ rels) (hlt : ∀ r ∈ rels, ∀ a b, Rl r a b → b < n) (hs : allL (fun op i g => StatL rel.length val.length op i g ∧ (op = 12 → meetL n rel g.toNat ∈ rels)) t) : Agr n (psq n val rels (dep n val rels)) (semT n val rel t) := by
  have h1 := hv.n1
  have h64 := hv.n64
  exact ⟨psq_len _, psq_ok (by omega) _, sem_inv (by omega) hsub hlt (dep_spec (by omega) (by omega)).2.1 (hs.mono (fun _ _ _ h => ⟨stat_ix h.1, h.2⟩))⟩
theorem agr_crs (hv : ValM m val rel) (hn : m = (n : Int)) (hs : allL (fun op i g => StatL rel.length val.length op i g ∧ op ≠ 12) t) : Agr n (crs m val rel) (semT n val rel t) := by
  rw [crs_ok (checkM_zero.2 hv), hn, Int.toNat_natCast]
  exact agr_psq hv hn (fun _ h => h) (val_lt hv hn) (hs.mono (fun _ _ _ h => ⟨h.1, fun e => absurd e h.2⟩))
theorem ivx_rnds (hv : ValM m val rel) (hn : m = (n : Int)) (hw : t.wf) (hs : allL (fun op i g => StatL rel.length val.length op i g ∧ op ≤ 10) t) {k : Nat} (hk : depT t ≤ k) : IvX n (psq n val rel (min k n)) (semT n val rel t) := by
  have h1 := hv.n1
  have h64 := hv.n64
  have hq := hs.mono (q' := fun op i _ => op ≤ 10 ∧ (op = 9 ∨ op = 10 → i.toNat < rel.length)) (fun _ _ _ h => ⟨h.2, stat_ix h.1⟩)
  by_cases hd : depT t ≤ n
  · exact sem_dep (by omega) (val_lt hv hn) hw hq (by omega)
  · obtain ⟨h2, h3, _⟩ := dep_spec (val := val) (rels := rel) (n := n) (by omega) (by omega)
    have h4 := sem_dep (n := n) (val := val) (rel := rel) (by omega) (val_lt hv hn) hw hq (Nat.le_refl (depT t))
    have e1 := psq_stable h3 (n - dep n val rel)
    have e2 := psq_stable h3 (depT t - dep n val rel)
    rw [show dep n val rel + (n - dep n val rel) = n by omega] at e1
    rw [show dep n val rel + (depT t - dep n val rel) = depT t by omega] at e2
    rw [show min k n = n by omega, e1, ← e2]
    exact h4
end
/-! the groups of a formula's distributed knowledge -/
structure Grps (c : List NV) (k : Nat) (gs : List Int) : Prop where
  has : ∀ (i : Nat) (hi : i < c.length), i < k → c[i].op = 12 → c[i].g ∈ gs
  of : ∀ g ∈ gs, ∃ n ∈ c, n.op = 12 ∧ n.g = g
  nd : gs.Nodup
def depL (c : List NV) (k : Nat) : List Int := (List.range k).map (fun i => (depT (treeAt c i) : Int))
theorem depL_len {c : List NV} {k : Nat} : (depL c k).length = k := by simp [depL]
theorem depL_succ {c : List NV} {k : Nat} : depL c (k + 1) = depL c k ++ [(depT (treeAt c k) : Int)] := by simp [depL, List.range_succ]
theorem depL_get {c : List NV} {i k : Nat} (h : i < k) : (depL c k).getD i 0 = depT (treeAt c i) := by simp [depL, List.getD_eq_getElem?_getD, h]
theorem depT_node {g : List NV} (ho : NodesOk g) {k : Nat} (hk : k < g.length) :
    depT (treeAt g k) = max (if usX g[k].op = true then depT (treeAt g g[k].x.toNat) else 0) (if usY g[k].op = true then depT (treeAt g g[k].y.toNat) else 0) + mdO g[k].op := by
  have ho2 := ho.ord k hk
  rw [treeAt_node hk (fun h => by have := ho2.1 h; omega) (fun h => by have := ho2.2 h; omega)]
  by_cases h1 : usY g[k].op = true
  · rw [mkT_bin h1, if_pos (usY_X h1), if_pos h1]; rfl
  · by_cases h2 : usX g[k].op = true
    · rw [mkT_un h2 (by simpa using h1), if_pos h2, if_neg h1]
      show _ + _ = _
      rw [Nat.max_zero]
    · rw [mkT_leaf (by simpa using h2), if_neg h2, if_neg h1]
      have h3 : mdO g[k].op = 0 := by
        have hop := (ho k hk).op
        have hx : usX g[k].op = false := by simpa using h2
        unfold mdO
        rw [if_neg]
        intro hc
        rw [show usX g[k].op = true from by simp only [usX, Bool.and_eq_true, decide_eq_true_eq]; omega] at hx
        cases hx
      rw [h3]; exact h3
theorem depT_at {g : List NV} (ho : NodesOk g) : ∀ {k : Nat}, k < g.length → depT (treeAt g k) ≤ k + 1 := by
  intro k
  induction k using Nat.strongRecOn with
  | _ k ih =>
    intro hk
    have ho2 := ho.ord k hk
    rw [depT_node ho hk]
    have hm : mdO g[k].op ≤ 1 := by unfold mdO; split <;> omega
    by_cases h1 : usX g[k].op = true
    · have hx := ho2.1 h1
      have i1 := ih g[k].x.toNat (by omega) (by omega)
      rw [if_pos h1]
      by_cases h2 : usY g[k].op = true
      · have hy := ho2.2 h2
        have i2 := ih g[k].y.toNat (by omega) (by omega)
        rw [if_pos h2]; omega
      · rw [if_neg h2]; omega
    · rw [if_neg h1, if_neg (fun h => h1 (usY_X h))]; omega
theorem blt_max {P : Program} {t ty : TypeId} {a b c : Int} (h : c = max a b) : Blt P .max #[t, t] ty [.int .i64 a, .int .i64 b] (.int .i64 c) := by
  intro cs w
  have e : (if b > a then b else a) = c := by rw [h]; split <;> omega
  simp [builtin, Builtin.max_, Builtin.max2, e]
/-- the modal depth that the reference says -/
def depF (f : List NV) : Int := if chkF f = 0 then (depT (topT f) : Int) else -1
end Go.Proofs.Wit
namespace Go.Proofs.Wit
open Go
/-! the first number with a property -/
def fst (q : Nat → Bool) : Nat → Option Nat
  | 0 => none
  | k + 1 => match fst q k with
    | some j => some j
    | none => if q k = true then some k else none
/-! rounds that tell two worlds apart -/
def apB (n : Nat) (val : List W64) (rel : List (List W64)) (v w k : Nat) : Bool := (psq n val rel k).getD v 0 != (psq n val rel k).getD w 0
def dst (n : Nat) (val : List W64) (rel : List (List W64)) (v w : Nat) : Option Nat := fst (apB n val rel v w) (dep n val rel + 1)
section
variable {n : Nat} {val : List W64} {rel : List (List W64)}
end
end Go.Proofs.Wit
namespace Go.Proofs.Wit
open Go
/-! formulas that tell worlds apart -/
section
variable {n : Nat} {val : List W64} {rel : List (List W64)}
/-- t has only facts, negations, conjunctions, truth and possibility, and fits -/
def Pln (A B : Nat) (t : Tr) : Prop := allL (fun op i g => StatL A B op i g ∧ op ≤ 10) t
structure TellT (n : Nat) (val : List W64) (rel : List (List W64)) (v w k : Nat) (t : Tr) : Prop where
  ok : t.ok
  pl : Pln rel.length val.length t
  yes : (semT n val rel t).getLsbD v = true
  no : (semT n val rel t).getLsbD w = false
  dp : depT t ≤ k
end
end Go.Proofs.Wit
namespace Go.Proofs.Wit
open Go
/-! what is known of the formulas that are made already -/
/-- with a tree its parts -/
def KC (U : List Tr) : Prop := ∀ t ∈ U, ∀ c ∈ kids t, c ∈ U
abbrev Mm := List ((Int × Int) × FV)
section
variable {n : Nat} {val : List W64} {rel : List (List W64)}
/-- a formula for a pair, or none since it is too long -/
def Fo (n : Nat) (val : List W64) (rel : List (List W64)) (v w k : Nat) (f : List NV) : Prop := (f = [] ∧ 5 < n) ∨ ∃ t, TellT n val rel v w k t ∧ f = bT t ∧ f ≠ []
structure Uni (U : List Tr) (L : Mm) : Prop where
  kc : KC U
  top : Tr.leaf 1 0 0 0 ∈ U
  ent : ∀ e ∈ L, ∀ t, t.ok → e.2.f = bT t → e.2.f ≠ [] → t ∈ U
structure Memo (n : Nat) (val : List W64) (rel : List (List W64)) (L : Mm) : Prop where
  nd : (L.map (·.1)).Nodup
  ent : ∀ e ∈ L, ∃ v w k : Nat, e.1 = ((v : Int), (w : Int)) ∧ v < n ∧ w < n ∧ dst n val rel v w = some k ∧ Fo n val rel v w k e.2.f
  uni : n ≤ 5 → ∃ U, Uni U L ∧ U.length ≤ 6 * L.length + 1
end
end Go.Proofs.Wit
namespace Go.Proofs.Wit
/-! rewriting of formulas by rules, from the parts up -/
abbrev Rul := Int → Int → Int → Int → Tr → Tr → Tr
def mkQ : Rul := fun op i e g a b => mkT ⟨op, i, e, g, 0, 0⟩ a b
theorem usX_of_Y {op : Int} (h : usX op = false) : usY op = false := by
  cases e : usY op with
  | false => rfl
  | true => exact absurd ((usY_X e).symm.trans h) (by decide)
/-! simplification -/
def cT (o : Int) : Tr := .leaf o 0 0 0
def isT : Tr → Int → Bool
  | .leaf op _ _ _, o => op == o
  | _, _ => false
def strT : Tr → Option Tr
  | .un op _ _ _ a => if op = 4 then some a else none
  | _ => none
def ntT (t : Tr) : Tr := .un 4 0 0 0 t
def negT (t : Tr) : Tr := (strT t).getD (ntT t)
def oppT (a b : Tr) : Bool := strT a == some b || strT b == some a
def jointT (op i e g : Int) (a b : Tr) (ne dm : Int) : Tr :=
  if (isT a dm || isT b dm || (oppT a b && !isT a ne && !isT b ne)) = true then cT dm
  else if isT a ne = true then b else if (isT b ne || a == b) = true then a else mkQ op i e g a b
def condT (a b : Tr) : Tr :=
  if (isT a 2 || isT b 1 || a == b) = true then cT 1 else if isT a 1 = true then b else if isT b 2 = true then negT a else mkQ 7 0 0 0 a b
def equT (a b : Tr) : Tr :=
  if (a == b) = true then cT 1 else if oppT a b = true then cT 2 else if isT a 1 = true then b else if isT b 1 = true then a
  else if isT a 2 = true then negT b else if isT b 2 = true then negT a else mkQ 8 0 0 0 a b
def simT : Rul := fun op i e g a b =>
  if op = 4 then (if isT a 1 = true then cT 2 else if isT a 2 = true then cT 1 else negT a)
  else if op = 5 then jointT op i e g a b 1 2
  else if op = 6 then jointT op i e g a b 2 1
  else if op = 7 then condT a b
  else if op = 8 then equT a b
  else if op = 10 then (if isT a 2 = true then cT 2 else mkQ op i e g a b)
  else if op = 16 then (if (isT a 1 && !isT b 1) = true then b else if (isT a 2 || isT b 1) = true then cT 1 else mkQ op i e g a b)
  else if op = 13 ∨ op = 14 then (if (isT a 2 || isT b 1) = true then cT 1 else mkQ op i e g a b)
  else if op = 9 ∨ op = 11 ∨ op = 12 ∨ op = 15 ∨ op = 17 then (if isT a 1 = true then cT 1 else mkQ op i e g a b)
  else mkQ op i e g a b
/-- what the rules of simplification give -/
inductive SimC (op i e g : Int) (a b : Tr) : Tr → Prop
  | c1 : SimC op i e g a b (cT 1)
  | c2 : SimC op i e g a b (cT 2)
  | a (h : usX op = true) : SimC op i e g a b a
  | b (h : usY op = true) : SimC op i e g a b b
  | sa (h : usX op = true) (c : Tr) (h : strT a = some c) : SimC op i e g a b c
  | sb (h : usY op = true) (c : Tr) (h : strT b = some c) : SimC op i e g a b c
  | na (h : usX op = true) (h0 : strT a = none) (h1 : isT a 1 = false) (h2 : isT a 2 = false) : SimC op i e g a b (ntT a)
  | nb (h : usY op = true) (h0 : strT b = none) (h1 : isT b 1 = false) (h2 : isT b 2 = false) : SimC op i e g a b (ntT b)
  | mk (h : simT op i e g a b = mkQ op i e g a b) : SimC op i e g a b (mkQ op i e g a b)
end Go.Proofs.Wit
namespace Go.Proofs.Wit
open Go Go.RowKit
/-! a maker of formulas in memory: a struct, a map that is turned, lists that are not -/
structure IV where
  a : Option Addr
  c : Nat
  xs : List Int
def IV.v (x : IV) : Value := .slice x.a x.xs.length x.c
abbrev mkrCs (m : MV) (mD : Nat) (pa : Option Addr) (pl pc : Nat) : Array Value := #[.int .i64 m.n, .slice m.va m.val.length m.vc, .slice m.ra m.rows.length m.rc, .map (some mD), .slice pa pl pc]
structure MkAt (e : TypeId) (w : World) (mD bk : Nat) (m : MV) (pa : Option Addr) (pc : Nat) (ps : List IV) : Prop where
  blk : w.heap[bk]? = some (.cells (mkrCs m mD pa ps.length pc) e (0, 0))
  mod : m.At w
  pre : Sl w pa (ps.map IV.v)
  row : ∀ p ∈ ps, SlI w p.a p.xs
/-- a formula lies in known blocks -/
def FV.In (t : TypeId) (H : Hl) (x : FV) : Prop := ∃ q sp, (q, obN t x.f sp) ∈ H ∧ x.a = q.map (fun b => ⟨b, 0, none⟩) ∧ (q = none → x.f.length = 0 ∧ x.c = 0) ∧ (x.f.flatMap NV.cells ++ sp).length = x.c * 6
end Go.Proofs.Wit
namespace Go.Proofs.Wit
open Go Go.RowKit
structure Grew (t : TypeId) (n : Nat) (val : List W64) (rel : List (List W64)) (d : Nat) (L L' : Mm) (F : Hl) : Prop where
  memo : Memo n val rel L'
  sub : L ⊆ L'
  nw : ∀ e ∈ L', e ∈ L ∨ ∃ a b i : Nat, e.1 = ((a : Int), (b : Int)) ∧ dst n val rel a b = some i ∧ i < d
  at_ : ∀ e ∈ L', e ∈ L ∨ e.2.In t F
section
variable {t : TypeId} {n : Nat} {val : List W64} {rel : List (List W64)}
end
end Go.Proofs.Wit
namespace Go.Proofs.Wit
open Go Go.RowKit
theorem usX_cases {op : Int} (h : 1 ≤ op ∧ op ≤ 21) : op = 1 ∨ op = 2 ∨ op = 3 ∨ op = 4 ∨ op = 5 ∨ op = 6 ∨ op = 7 ∨ op = 8 ∨ op = 9 ∨ op = 10 ∨ op = 11 ∨ op = 12 ∨ op = 13 ∨ op = 14 ∨ op = 15 ∨ op = 16 ∨ op = 17 ∨ op = 18 ∨ op = 19 ∨ op = 20 ∨ op = 21 := by omega
/-- an operand, that is there if it is used -/
def Opd (w : World) (u : Bool) (x : FV) (t : Tr) : Prop := u = true → FA w x.a x.f ∧ x.f = bT t ∧ t.ok
abbrev FV.z : FV := ⟨none, 0, []⟩
/-- what a rule returns: a new list, or one that it was given -/
def RvP (t : TypeId) (w w' : World) (v : Value) (a b : FV) (u : Tr) : Prop := ∃ fv : FV, v = fv.v ∧ fv.f = bT u ∧ (OwnN t w w' v fv.f ∨ fv = a ∨ fv = b)
/-- a function that does what a rule says -/
structure RulC (P : Program) (t : TypeId) (r : Rul) (gf : FuncId) (cs : List Value) (w0 : World) : Prop where
  enter : ∀ args w, (callFunc gf args).run P w = .ok (.enter gf args) w
  run : ∀ w, Ex [] w0 w → ∀ (n : NV) (a b : FV) (ta tb : Tr), (1 ≤ n.op ∧ n.op ≤ 21) → fldE n.op n.i n.e n.g = 0 → Opd w (usX n.op) a ta → Opd w (usY n.op) b tb → (usX n.op = true → a.f ≠ []) → (usY n.op = true → b.f ≠ []) → Cn P gf ([n.v, a.v, b.v] ++ cs) w (fun v w' => RvP t w w' v a b (r n.op n.i n.e n.g ta tb))
end Go.Proofs.Wit
namespace Go.Proofs.Wit
open Go Go.RowKit
/-- a list that is a formula, not too long -/
structure Cf (f : List NV) (t : Tr) : Prop where
  eq : f = bT t
  ne : f ≠ []
  ok : t.ok
end Go.Proofs.Wit
namespace Go.Proofs.Wit
open Go Go.RowKit
/-- formulas of a list, by their trees -/
structure ClIs (t : TypeId) (H : Hl) (gs : List FV) (ts : List Tr) : Prop where
  eq : gs.map FV.f = ts.map bT
  cf : ∀ u ∈ ts, u.ok ∧ bT u ≠ []
  in_ : ∀ g ∈ gs, g.In t H
theorem compF_nodes (f : List NV) : NodesOk (compF f) := by
  by_cases h : chkF f = 0
  · exact (compF_ok h).nodes
  · rw [compF, if_pos h]; intro i hi; exact absurd hi (Nat.not_lt_zero _)
end Go.Proofs.Wit
