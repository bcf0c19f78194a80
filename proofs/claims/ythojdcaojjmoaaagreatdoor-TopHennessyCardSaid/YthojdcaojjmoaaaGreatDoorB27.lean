/- Laws of walks, for any program, under the conditions that each theorem states. -/
import Derived.Test.YthojdcaojjmoaaaGreatDoorB12
import Derived.Test.YthojdcaojjmoaaaGreatDoorB25
import Derived.Test.YthojdcaojjmoaaaGreatDoorB23
import Derived.Test.YthojdcaojjmoaaaGreatDoorB04
import Derived.Test.YthojdcaojjmoaaaGreatDoorB03
namespace Go.Proofs.Wit
/-! a partition as a relation; the greatest bisimulation of a model with itself -/
def grp (p : List Int) (k : Nat) (x : Int) : W64 := upTo (fun j (o : W64) => if (p.getD j 0 == x) = true then o ||| 1#64 <<< j else o) 0#64 k
theorem grp_bit {p : List Int} {k v : Nat} {x : Int} (hk : k ≤ 64) : (grp p k x).getLsbD v = true ↔ v < k ∧ p.getD v 0 = x := by
  rw [grp, upTo_ones hk, beq_iff_eq]
def relP (p : List Int) : List W64 := (List.range p.length).map (fun i => grp p p.length (p.getD i 0))
theorem relP_len {p : List Int} : (relP p).length = p.length := by simp [relP]
theorem relP_bit {p : List Int} (hp : p.length ≤ 64) {v w : Nat} : Rl (relP p) v w ↔ v < p.length ∧ w < p.length ∧ p.getD w 0 = p.getD v 0 := by
  constructor
  · intro h
    have hv := h.dom
    rw [relP_len] at hv
    unfold Rl at h
    rw [show (relP p).getD v 0#64 = grp p p.length (p.getD v 0) from by simp [relP, List.getD_eq_getElem?_getD, hv], grp_bit hp] at h
    exact ⟨hv, h.1, h.2⟩
  · rintro ⟨hv, hw, e⟩
    unfold Rl
    rw [show (relP p).getD v 0#64 = grp p p.length (p.getD v 0) from by simp [relP, List.getD_eq_getElem?_getD, hv], grp_bit hp]
    exact ⟨hw, e⟩
theorem rch_bit {p : List Int} (hp : OkP p) {s : W64} {b : Nat} : (rch p s).getLsbD b = true ↔ ∃ x, x < p.length ∧ s.getLsbD x = true ∧ p.getD x 0 = (b : Int) := by
  have hl := hp.len
  have hbit : ∀ x, Rl (bitsP p) x b ↔ x < p.length ∧ p.getD x 0 = (b : Int) := fun x => by
    constructor
    · intro h
      have hx := h.dom
      rw [show (bitsP p).length = p.length from by simp [bitsP]] at hx
      obtain ⟨h1, h2, h3⟩ := hp.low x hx
      unfold Rl at h
      rw [show (bitsP p).getD x 0#64 = 1#64 <<< (p.getD x 0).toNat from by simp [bitsP, List.getD_eq_getElem?_getD, hx], one_bit (by omega)] at h
      have : b = (p.getD x 0).toNat := by simpa using h
      exact ⟨hx, by omega⟩
    · rintro ⟨hx, e⟩
      obtain ⟨h1, h2, h3⟩ := hp.low x hx
      unfold Rl
      rw [show (bitsP p).getD x 0#64 = 1#64 <<< (p.getD x 0).toNat from by simp [bitsP, List.getD_eq_getElem?_getD, hx], one_bit (by omega)]
      simp only [decide_eq_true_eq]
      omega
  rw [rch, mapR_bit]
  constructor
  · rintro ⟨x, h1, h2⟩
    obtain ⟨h3, h4⟩ := (hbit x).1 h2
    exact ⟨x, h3, h1, h4⟩
  · rintro ⟨x, h1, h2, h3⟩
    exact ⟨x, h2, (hbit x).2 ⟨h1, h3⟩⟩
section
variable {n : Nat} {val : List W64} {rel : List (List W64)}
theorem psq_low (h64 : n ≤ 64) (i : Nat) {x : Nat} (hx : x < n) : 0 ≤ (psq n val rel i).getD x 0 ∧ (psq n val rel i).getD x 0 ≤ (x : Int) := by
  obtain ⟨h1, h2, _⟩ := (psq_ok (val := val) (rels := rel) h64 i).low x (by rw [psq_len]; exact hx)
  exact ⟨h1, h2⟩
/-- worlds that a bisimulation joins are together after every round -/
theorem sim_psq (h64 : n ≤ 64) (hr : ∀ r ∈ rel, r.length = n ∧ Val r) {z : List W64} (hl : z.length = n) (hz : ∀ v w, Rl z v w → w < n) (hs : SimB val val rel rel z) :
    ∀ i v w, Rl z v w → (psq n val rel i).getD v 0 = (psq n val rel i).getD w 0
  | 0, v, w, h => by
    have hv : v < n := by have := h.dom; omega
    exact (ker_eq_iff hv (hz _ _ h)).2 (matB_iff.1 (hs v w h)).1
  | i + 1, v, w, h => by
    have hv : v < n := by have := h.dom; omega
    have hw := hz _ _ h
    have hp := psq_ok (val := val) (rels := rel) h64 i
    have hpl : (psq n val rel i).length = n := psq_len i
    refine (nxt_eq_iff (by omega) (by omega)).2 ⟨sim_psq h64 hr hl hz hs i v w h, fun r hrm => ?_⟩
    obtain ⟨k, hk, hke⟩ := List.mem_iff_getElem.1 hrm
    have hf := (matB_iff.1 (hs v w h)).2 k hk
    rw [show rel.getD k [] = r from by rw [← hke]; simp [List.getD_eq_getElem?_getD, hk]] at hf
    obtain ⟨h1, h2⟩ := forB_iff.1 hf
    obtain ⟨hrl, hrv⟩ := hr r hrm
    apply eq_of_bits
    intro b _
    rw [Bool.eq_iff_iff, rch_bit hp, rch_bit hp]
    constructor
    · rintro ⟨x, hx, hb, e⟩
      obtain ⟨y, hy1, hy2⟩ := h1 x hb
      exact ⟨y, by have := hz _ _ hy1; omega, hy2, by rw [← sim_psq h64 hr hl hz hs i x y hy1]; exact e⟩
    · rintro ⟨y, hy, hb, e⟩
      obtain ⟨x, hx1, hx2⟩ := h2 y hb
      exact ⟨x, by have := hx2.dom; omega, hx1, by rw [sim_psq h64 hr hl hz hs i x y hx2]; exact e⟩
theorem self_grt (hn : 1 ≤ n) (h64 : n ≤ 64) (hr : ∀ r ∈ rel, r.length = n ∧ Val r) : Grt val val rel rel n n (relP (psq n val rel (dep n val rel))) := by
  obtain ⟨hd1, hd2, hd3⟩ := dep_spec (n := n) (val := val) (rels := rel) hn h64
  have hpl : ∀ i, (psq n val rel i).length = n := fun i => psq_len i
  have hp := psq_ok (val := val) (rels := rel) h64 (dep n val rel)
  have hb : ∀ {v w}, Rl (relP (psq n val rel (dep n val rel))) v w ↔ v < n ∧ w < n ∧ (psq n val rel (dep n val rel)).getD w 0 = (psq n val rel (dep n val rel)).getD v 0 := fun {v w} => by
    rw [relP_bit (by rw [hpl]; exact h64), hpl]
  refine ⟨⟨by rw [relP_len, hpl], fun v w h => (hb.1 h).2.1, fun z' h1 h2 h3 v w h => hb.2 ⟨by have := h.dom; omega, h2 v w h, (sim_psq h64 hr h1 h2 h3 _ v w h).symm⟩⟩, fun v w h => ?_⟩
  obtain ⟨hv, hw, e⟩ := hb.1 h
  have hall : ∀ i, i ≤ dep n val rel → (psq n val rel i).getD w 0 = (psq n val rel i).getD v 0 := by
    intro i hi
    obtain ⟨j, hj⟩ : ∃ j, dep n val rel = i + j := ⟨dep n val rel - i, by omega⟩
    rw [hj] at e
    clear hi hj hb hp h hd1 hd2 hd3
    induction j with
    | zero => exact e
    | succ j ih => exact ih ((nxt_eq_iff (by rw [psq_len]; exact hw) (by rw [psq_len]; exact hv)).1 e).1
  have e0 := hall 0 (Nat.zero_le _)
  have hfm : fm val v = fm val w := ((ker_eq_iff hw hv).1 e0).symm
  rw [hd2] at e
  have e1 := (nxt_eq_iff (by rw [hpl]; exact hw) (by rw [hpl]; exact hv)).1 e
  refine matB_iff.2 ⟨hfm, fun k hk => ?_⟩
  have hrm : rel.getD k [] ∈ rel := by
    rw [show rel.getD k [] = rel[k] from by simp [List.getD_eq_getElem?_getD, hk]]; exact List.getElem_mem hk
  obtain ⟨hrl, hrv⟩ := hr _ hrm
  have e2 := e1.2 _ hrm
  refine forB_iff.2 ⟨fun x hx => ?_, fun y hy => ?_⟩
  · have hxn : x < n := by have := hrv.lt v x hx; omega
    have hlow := psq_low (val := val) (rel := rel) h64 (dep n val rel) hxn
    have h1 : (rch (psq n val rel (dep n val rel)) ((rel.getD k []).getD v 0#64)).getLsbD ((psq n val rel (dep n val rel)).getD x 0).toNat = true := (rch_bit hp).2 ⟨x, by rw [hpl]; exact hxn, hx, by omega⟩
    rw [← e2] at h1
    obtain ⟨y, hy1, hy2, hy3⟩ := (rch_bit hp).1 h1
    rw [hpl] at hy1
    exact ⟨y, hb.2 ⟨hxn, hy1, by omega⟩, hy2⟩
  · have hyn : y < n := by have := hrv.lt w y hy; omega
    have hlow := psq_low (val := val) (rel := rel) h64 (dep n val rel) hyn
    have h1 : (rch (psq n val rel (dep n val rel)) ((rel.getD k []).getD w 0#64)).getLsbD ((psq n val rel (dep n val rel)).getD y 0).toNat = true := (rch_bit hp).2 ⟨y, by rw [hpl]; exact hyn, hy, by omega⟩
    rw [e2] at h1
    obtain ⟨x, hx1, hx2, hx3⟩ := (rch_bit hp).1 h1
    rw [hpl] at hx1
    exact ⟨x, hx2, hb.2 ⟨hx1, hyn, by omega⟩⟩
end
end Go.Proofs.Wit
namespace Go.Proofs.Wit
open Go Go.RowKit
/-! groups: the meet of the relations of a group -/
section
variable {P : Program} {t : TypeId}
theorem bShrN {x j : Nat} {b : Int} {k : IntKind} (h : b = j) (_hx : x < 9223372036854775808) (hj : j ≤ 64) : Bin P .shr t (.int .i64 x) (.int k b) (.int .i64 ((x / 2 ^ j : Nat) : Int)) := by
  subst h
  refine bin_pure (fun p q => eqg_int _ _ _ _ _ _ _ _) ?_
  show Op.shift .shr .i64 (x : Int) k (j : Int) = _
  unfold Op.shift
  rw [if_neg (by omega), Int.toNat_natCast]
  show pure (Value.int .i64 ((x : Int).fdiv (2 ^ (min j 64)))) = _
  rw [Nat.min_eq_left hj]
  have e1 : ((2 : Int) ^ j) = ((2 ^ j : Nat) : Int) := by norm_cast
  rw [e1, ← Int.ofNat_fdiv]
theorem bAnd1N {x : Nat} (hx : x < 9223372036854775808) : Bin P .and t (.int .i64 x) (.int .i64 1) (.int .i64 ((x % 2 : Nat) : Int)) := bI _ (by
  show Op.intBits .and .i64 (x : Int) 1 = _
  unfold Op.intBits
  have e1 : (BitVec.ofInt 64 (x : Int) &&& BitVec.ofInt 64 1).toNat = x % 2 := by
    rw [ofInt_nat, show BitVec.ofInt 64 1 = BitVec.ofNat 64 1 from rfl, BitVec.toNat_and, BitVec.toNat_ofNat, BitVec.toNat_ofNat, Nat.mod_eq_of_lt (by omega), Nat.mod_eq_of_lt (by omega), Nat.and_one_is_mod]
  show pure (Value.int .i64 (IntKind.i64.wrap ((BitVec.ofInt 64 (x : Int) &&& BitVec.ofInt 64 1).toNat : Int))) = _
  rw [e1, IntWalk.i64_in _ (by omega)])
end
def gb (g k : Nat) : Nat := g / 2 ^ k % 2
theorem gb_cases (g k : Nat) : gb g k = 0 ∨ gb g k = 1 := by unfold gb; omega
def meetW (n : Nat) (rel : List (List W64)) (g w : Nat) (k : Nat) : W64 := upTo (fun a (o : W64) => if gb g a = 1 then o &&& (rel.getD a []).getD w 0#64 else o) (allW n) k
def meetTo (n : Nat) (rel : List (List W64)) (g k : Nat) : List W64 := (List.range n).map (fun w => meetW n rel g w k)
def meetL (n : Nat) (rel : List (List W64)) (g : Nat) : List W64 := meetTo n rel g rel.length
section
variable {n : Nat} {rel : List (List W64)} {g k w : Nat}
theorem meetW_succ : meetW n rel g w (k + 1) = if gb g k = 1 then meetW n rel g w k &&& (rel.getD k []).getD w 0#64 else meetW n rel g w k := rfl
theorem meetW_none (h : ∀ a, a < k → gb g a = 0) : meetW n rel g w k = allW n := by
  induction k with
  | zero => rfl
  | succ k ih =>
    rw [meetW_succ, if_neg (by rw [h k (Nat.lt_succ_self k)]; decide)]
    exact ih (fun a ha => h a (Nat.lt_succ_of_lt ha))
theorem meetTo_len : (meetTo n rel g k).length = n := by simp [meetTo]
theorem meetTo_get (hw : w < n) : (meetTo n rel g k).getD w 0#64 = meetW n rel g w k := by simp [meetTo, List.getD_eq_getElem?_getD, hw]
theorem meetTo_skip (h : gb g k = 0) : meetTo n rel g (k + 1) = meetTo n rel g k := by
  unfold meetTo
  congr 1
  funext w
  rw [meetW_succ, if_neg (by rw [h]; decide)]
theorem and_all {s : W64} (hn : n ≤ 64) (h : ∀ i, s.getLsbD i = true → i < n) : allW n &&& s = s := by
  apply eq_of_bits
  intro i hi
  rw [BitVec.getLsbD_and, allW_bit hn hi]
  cases hb : s.getLsbD i with
  | false => simp
  | true => simp [h i hb]
theorem meetTo_first (hn : n ≤ 64) (h0 : ∀ a, a < k → gb g a = 0) (h1 : gb g k = 1) {r : List W64} (hr : rel.getD k [] = r) (hl : r.length = n) (hv : Val r) : meetTo n rel g (k + 1) = r := by
  apply List.ext_getElem (by simp [meetTo, hl])
  intro i e1 e2
  have hi : i < n := by omega
  have e3 : (meetTo n rel g (k + 1))[i] = meetW n rel g i (k + 1) := by simp [meetTo]
  rw [e3, meetW_succ, if_pos h1, meetW_none h0, hr]
  have e4 : r.getD i 0#64 = r[i] := by simp [List.getD_eq_getElem?_getD, e2]
  rw [and_all hn (fun j hj => by have := hv.lt i j hj; omega), e4]
theorem meetTo_step (h1 : gb g k = 1) {r : List W64} (hr : rel.getD k [] = r) : flm (fun w x => x &&& r.getD w 0#64) (meetTo n rel g k) n = meetTo n rel g (k + 1) := by
  apply List.ext_getElem (by simp [meetTo, flm])
  intro i e1 e2
  have hi : i < n := by simpa [meetTo] using e2
  have e3 : (meetTo n rel g (k + 1))[i] = meetW n rel g i (k + 1) := by simp [meetTo]
  rw [e3, meetW_succ, if_pos h1, hr]
  simp [flm, meetTo, hi]
theorem flm_next {f : Nat → W64 → W64} {xs : List W64} {j : Nat} (hj : j < xs.length) : (flm f xs j).set j (f j ((flm f xs j).getD j 0#64)) = flm f xs (j + 1) := by
  rw [flm_get hj, if_neg (Nat.lt_irrefl j)]
  exact flm_succ hj
theorem meetW_lt (hn : n ≤ 64) : ∀ k i, (meetW n rel g w k).getLsbD i = true → i < n
  | 0, i, h => by
    rw [show meetW n rel g w 0 = allW n from rfl, allW_bit hn (bit_lt h)] at h
    simpa using h
  | k + 1, i, h => by
    rw [meetW_succ] at h
    split at h
    · rw [BitVec.getLsbD_and, Bool.and_eq_true] at h
      exact meetW_lt hn k i h.1
    · exact meetW_lt hn k i h
end
theorem gb_none {g : Nat} : ∀ k, (∀ a, a < k → gb g a = 0) → g % 2 ^ k = 0
  | 0, _ => by simp [Nat.mod_one]
  | k + 1, h => by
    have h1 := gb_none k (fun a ha => h a (Nat.lt_succ_of_lt ha))
    have h2 := h k (Nat.lt_succ_self k)
    unfold gb at h2
    rw [Nat.mod_pow_succ, h1, h2, Nat.mul_zero]
theorem gb_some {g k : Nat} (h1 : 1 ≤ g) (h2 : g < 2 ^ k) : ¬ ∀ a, a < k → gb g a = 0 := fun h => by
  have := gb_none k h
  rw [Nat.mod_eq_of_lt h2] at this
  omega
section
variable {P : Program} {r : Option Nat} {f : FuncId} {R : Value → World → Prop} {w0 : World} {S : List Nat} {Y : List (Nat × Obj)} {n : Nat} {k : List Item} {l : Fl} {h : Hl}
variable {ops : Array Oper} {i d : Nat} {rest : List Nat} {ty : TypeId} {pos : String} {aft : Array Edge} {g : Option (Nat × Bool)}
end
end Go.Proofs.Wit
namespace Go.Proofs.Wit
open Go
/-! the truth of formulas: sets of worlds -/
theorem one_has {w i : Nat} (hw : w < 64) : (1#64 <<< w).getLsbD i = true ↔ i = w := by rw [one_bit hw]; simp
/-- the worlds w below n with q -/
def selW (q : Nat → Bool) (n : Nat) : W64 := upTo (fun w (o : W64) => if q w = true then o ||| 1#64 <<< w else o) 0#64 n
theorem selW_succ {q : Nat → Bool} {n : Nat} : selW q (n + 1) = if q n = true then selW q n ||| 1#64 <<< n else selW q n := rfl
theorem selW_bit {q : Nat → Bool} : ∀ {n i : Nat}, n ≤ 64 → ((selW q n).getLsbD i = true ↔ i < n ∧ q i = true)
  | 0, i, _ => by simp [selW, upTo]
  | n + 1, i, hn => by
    rw [selW_succ]
    have ih := selW_bit (q := q) (n := n) (i := i) (by omega)
    by_cases hq : q n = true
    · rw [if_pos hq, BitVec.getLsbD_or, Bool.or_eq_true, ih, one_has (by omega)]
      constructor
      · rintro (⟨h1, h2⟩ | rfl)
        · exact ⟨by omega, h2⟩
        · exact ⟨by omega, hq⟩
      · rintro ⟨h1, h2⟩
        rcases Nat.lt_succ_iff_lt_or_eq.1 h1 with h3 | h3
        · exact .inl ⟨h3, h2⟩
        · exact .inr h3
    · rw [if_neg hq, ih]
      constructor
      · rintro ⟨h1, h2⟩; exact ⟨by omega, h2⟩
      · rintro ⟨h1, h2⟩
        rcases Nat.lt_succ_iff_lt_or_eq.1 h1 with h3 | rfl
        · exact ⟨h3, h2⟩
        · exact absurd h2 hq
def boxW (r : List W64) (n : Nat) (s : W64) : W64 := selW (fun w => r.getD w 0#64 &&& ~~~s == 0#64) n
theorem boxW_bit {r : List W64} {n : Nat} {s : W64} {w : Nat} (hn : n ≤ 64) : (boxW r n s).getLsbD w = true ↔ w < n ∧ ∀ u, Rl r w u → s.getLsbD u = true := by
  rw [boxW, selW_bit hn, beq_iff_eq, andNot_zero]; rfl
/-- one turn of a search along r within c -/
def pstep (r : List W64) (c : W64) (n : Nat) (s : W64) : W64 := upTo (fun w (o : W64) => if o.getLsbD w = true then o ||| (r.getD w 0#64 &&& c) else o) s n
def pathTo (r : List W64) (n v : Nat) (c : W64) (k : Nat) : W64 := upTo (fun _ (o : W64) => pstep r c n o) (r.getD v 0#64 &&& c) k
def pathW (r : List W64) (n v : Nat) (c : W64) : W64 := pathTo r n v c n
def comW (r : List W64) (n : Nat) (c s : W64) : W64 := selW (fun w => pathW r n w c &&& ~~~s == 0#64) n
def pstp (r : List W64) (c : W64) (w : Nat) (o : W64) : W64 := if o.getLsbD w = true then o ||| (r.getD w 0#64 &&& c) else o
theorem pstp_le {r : List W64} {c : W64} {w i : Nat} {o : W64} (h : o.getLsbD i = true) : (pstp r c w o).getLsbD i = true := by
  unfold pstp
  split
  · rw [BitVec.getLsbD_or, h, Bool.true_or]
  · exact h
theorem pst_le {r : List W64} {c : W64} {s : W64} {i : Nat} (h : s.getLsbD i = true) : ∀ k, (upTo (pstp r c) s k).getLsbD i = true
  | 0 => h
  | k + 1 => pstp_le (pst_le h k)
/-- there is a path -/
inductive RchC (r : List W64) (c : W64) (v : Nat) : Nat → Prop where
  | one {u : Nat} (h : Rl r v u) (hc : c.getLsbD u = true) : RchC r c v u
  | step {u x : Nat} (h : RchC r c v u) (h2 : Rl r u x) (hc : c.getLsbD x = true) : RchC r c v x
theorem pst_reach {r : List W64} {c : W64} {v : Nat} {s : W64} (h : ∀ i, s.getLsbD i = true → RchC r c v i) : ∀ k i, (upTo (pstp r c) s k).getLsbD i = true → RchC r c v i
  | 0, i, hi => h i hi
  | k + 1, i, hi => by
    rw [upTo, pstp] at hi
    split at hi
    · rename_i hk
      rw [BitVec.getLsbD_or, Bool.or_eq_true] at hi
      rcases hi with hi | hi
      · exact pst_reach h k i hi
      · rw [BitVec.getLsbD_and, Bool.and_eq_true] at hi
        exact .step (pst_reach h k k hk) hi.1 hi.2
    · exact pst_reach h k i hi
theorem pathTo_reach {r : List W64} {n v : Nat} {c : W64} : ∀ k i, (pathTo r n v c k).getLsbD i = true → RchC r c v i
  | 0, i, hi => by
    rw [pathTo, upTo, BitVec.getLsbD_and, Bool.and_eq_true] at hi
    exact .one hi.1 hi.2
  | k + 1, i, hi => pst_reach (fun i h => pathTo_reach k i h) n i hi
/-- what a turn leaves as it is is closed -/
theorem pstep_closed {r : List W64} {c : W64} {n : Nat} {s : W64} (h : pstep r c n s = s) {w u : Nat} (hw : w < n) (hs : s.getLsbD w = true) (hr : Rl r w u) (hc : c.getLsbD u = true) : s.getLsbD u = true := by
  have key : ∀ k, w < k → (upTo (pstp r c) s k).getLsbD u = true := by
    intro k
    induction k with
    | zero => intro h; omega
    | succ k ih =>
      intro hk
      rcases Nat.lt_succ_iff_lt_or_eq.1 hk with h1 | rfl
      · exact pstp_le (ih h1)
      · rw [upTo, pstp, if_pos (pst_le hs w), BitVec.getLsbD_or, BitVec.getLsbD_and, show (r.getD w 0#64).getLsbD u = true from hr, hc]; simp
  have := key n hw
  rw [← h]; exact this
def cntB (n : Nat) (s : W64) : Nat := (List.range n).countP (fun i => s.getLsbD i)
theorem cntB_le {n : Nat} {s : W64} : cntB n s ≤ n := by
  have := List.countP_le_length (p := fun i => s.getLsbD i) (l := List.range n)
  simpa [cntB] using this
theorem bits_ext {n : Nat} {s t : W64} (hs : ∀ i, s.getLsbD i = true → i < n) (ht : ∀ i, t.getLsbD i = true → i < n) (h : ∀ i, i < n → (s.getLsbD i = true ↔ t.getLsbD i = true)) : s = t := by
  apply BitVec.eq_of_getLsbD_eq
  intro i _
  rw [Bool.eq_iff_iff]
  exact ⟨fun h1 => (h i (hs i h1)).1 h1, fun h1 => (h i (ht i h1)).2 h1⟩
theorem cntB_lt {n : Nat} {s t : W64} (hs : ∀ i, s.getLsbD i = true → i < n) (ht : ∀ i, t.getLsbD i = true → i < n) (h : ∀ i, s.getLsbD i = true → t.getLsbD i = true) (hne : s ≠ t) : cntB n s < cntB n t := by
  obtain ⟨j, hj, h1, h2⟩ : ∃ j, j < n ∧ s.getLsbD j = false ∧ t.getLsbD j = true := Classical.byContradiction (fun hno => hne (bits_ext hs ht (fun i hi => ⟨h i, fun h2 => by
    cases e : s.getLsbD i with
    | true => rfl
    | false => exact absurd ⟨i, hi, e, h2⟩ hno⟩)))
  exact cntR_lt (fun i _ hi => h i hi) hj h1 h2
theorem fix_of {n : Nat} {f : W64 → W64} {s : W64} (hle : ∀ t i, t.getLsbD i = true → (f t).getLsbD i = true) (hb : ∀ k i, (upTo (fun _ o => f o) s k).getLsbD i = true → i < n) : f (upTo (fun _ o => f o) s n) = upTo (fun _ o => f o) s n := by
  have key : ∀ k, f (upTo (fun _ o => f o) s k) = upTo (fun _ o => f o) s k ∨ k ≤ cntB n (upTo (fun _ o => f o) s k) := by
    intro k
    induction k with
    | zero => exact .inr (Nat.zero_le _)
    | succ k ih =>
      by_cases he : f (upTo (fun _ o => f o) s k) = upTo (fun _ o => f o) s k
      · left
        show f (f (upTo (fun _ o => f o) s k)) = f (upTo (fun _ o => f o) s k)
        rw [he]
        exact he
      · rcases ih with ih | ih
        · exact absurd ih he
        · right
          have := cntB_lt (n := n) (hb k) (hb (k + 1)) (fun i hi => hle _ i hi) (fun e => he e.symm)
          omega
  rcases key n with h | h
  · exact h
  · refine Classical.byContradiction (fun hne => ?_)
    have := cntB_lt (n := n) (hb n) (hb (n + 1)) (fun i hi => hle _ i hi) (fun e => hne e.symm)
    have := cntB_le (n := n) (s := upTo (fun _ o => f o) s (n + 1))
    omega
theorem RchC.lt {r : List W64} {c : W64} {v u n : Nat} (hr : ∀ a b, Rl r a b → b < n) (h : RchC r c v u) : u < n := by
  cases h with
  | one h _ => exact hr _ _ h
  | step _ h _ => exact hr _ _ h
theorem pathW_bit {r : List W64} {n v : Nat} {c : W64} (hr : ∀ a b, Rl r a b → b < n) {u : Nat} : (pathW r n v c).getLsbD u = true ↔ RchC r c v u := by
  have hfix : pstep r c n (pathW r n v c) = pathW r n v c := fix_of (fun t i hi => pst_le hi n) (fun k i hi => (pathTo_reach k i hi).lt hr)
  constructor
  · exact pathTo_reach n u
  · intro h
    induction h with
    | @one u h hc =>
      have h0 : (pathTo r n v c 0).getLsbD u = true := by rw [pathTo, upTo, BitVec.getLsbD_and, show (r.getD v 0#64).getLsbD u = true from h, hc]; rfl
      have key : ∀ k, (pathTo r n v c k).getLsbD u = true := by
        intro k
        induction k with
        | zero => exact h0
        | succ k ih => exact pst_le ih n
      exact key n
    | step h h2 hc ih => exact pstep_closed hfix (h.lt hr) ih h2 hc
theorem comW_bit {r : List W64} {n : Nat} {c s : W64} {w : Nat} (hn : n ≤ 64) (hr : ∀ a b, Rl r a b → b < n) : (comW r n c s).getLsbD w = true ↔ w < n ∧ ∀ u, RchC r c w u → s.getLsbD u = true := by
  rw [comW, selW_bit hn, beq_iff_eq, andNot_zero]
  exact and_congr_right (fun _ => forall_congr' (fun u => by rw [pathW_bit hr]))
/-- the union of the relations of a group -/
def joinW (rel : List (List W64)) (g w : Nat) (k : Nat) : W64 := upTo (fun a (o : W64) => if gb g a = 1 then o ||| (rel.getD a []).getD w 0#64 else o) 0#64 k
def joinTo (n : Nat) (rel : List (List W64)) (g k : Nat) : List W64 := (List.range n).map (fun w => joinW rel g w k)
def joinL (n : Nat) (rel : List (List W64)) (g : Nat) : List W64 := joinTo n rel g rel.length
theorem joinW_bit {rel : List (List W64)} {g w i : Nat} : ∀ {k : Nat}, (joinW rel g w k).getLsbD i = true ↔ ∃ a, a < k ∧ gb g a = 1 ∧ Rl (rel.getD a []) w i
  | 0 => by simp [joinW, upTo]
  | k + 1 => by
    have ih := joinW_bit (rel := rel) (g := g) (w := w) (i := i) (k := k)
    show (if gb g k = 1 then joinW rel g w k ||| (rel.getD k []).getD w 0#64 else joinW rel g w k).getLsbD i = true ↔ _
    constructor
    · intro h
      split at h
      · rename_i hg
        rw [BitVec.getLsbD_or, Bool.or_eq_true] at h
        rcases h with h | h
        · obtain ⟨a, h1, h2⟩ := ih.1 h; exact ⟨a, by omega, h2⟩
        · exact ⟨k, by omega, hg, h⟩
      · obtain ⟨a, h1, h2⟩ := ih.1 h; exact ⟨a, by omega, h2⟩
    · rintro ⟨a, h1, h2, h3⟩
      rcases Nat.lt_succ_iff_lt_or_eq.1 h1 with h4 | rfl
      · have := ih.2 ⟨a, h4, h2, h3⟩
        split
        · rw [BitVec.getLsbD_or, this, Bool.true_or]
        · exact this
      · rw [if_pos h2, BitVec.getLsbD_or, show ((rel.getD a []).getD w 0#64).getLsbD i = true from h3, Bool.or_true]
theorem joinL_bit {n : Nat} {rel : List (List W64)} {g w u : Nat} : Rl (joinL n rel g) w u ↔ w < n ∧ ∃ a, a < rel.length ∧ gb g a = 1 ∧ Rl (rel.getD a []) w u := by
  unfold Rl joinL joinTo
  by_cases hw : w < n
  · rw [show ((List.range n).map (fun w => joinW rel g w rel.length)).getD w 0#64 = joinW rel g w rel.length from by simp [List.getD_eq_getElem?_getD, hw], joinW_bit]
    exact ⟨fun h => ⟨hw, h⟩, fun h => h.2⟩
  · rw [show ((List.range n).map (fun w => joinW rel g w rel.length)).getD w 0#64 = 0#64 from by simp [List.getD_eq_getElem?_getD, hw]]
    constructor
    · intro h; simp at h
    · rintro ⟨h, _⟩; exact absurd h hw
/-- truth by trees -/
def boolW (op : Int) (x y all : W64) : W64 := if op = 1 then all else if op = 4 then all &&& ~~~x else if op = 5 then x &&& y else if op = 6 then x ||| y else if op = 7 then (all &&& ~~~x) ||| y else if op = 8 then all &&& ~~~(x ^^^ y) else 0#64
def oneW (n : Nat) (val : List W64) (rel : List (List W64)) (op i g : Int) (x y : W64) : W64 :=
  if op = 3 then val.getD i.toNat 0#64 else if op ≤ 8 then boolW op x y (allW n)
  else if op = 9 then boxW (rel.getD i.toNat []) n x else if op = 10 then allW n &&& ~~~boxW (rel.getD i.toNat []) n (allW n &&& ~~~x)
  else if op = 11 then boxW (joinL n rel g.toNat) n x else if op = 12 then boxW (meetL n rel g.toNat) n x else comW (joinL n rel g.toNat) n x y
def semT (n : Nat) (val : List W64) (rel : List (List W64)) : Tr → W64
  | .leaf op i _ g => oneW n val rel op i g 0#64 0#64
  | .un op i _ g a => oneW n val rel op i g (semT n val rel a) 0#64
  | .bin op i _ g a b => oneW n val rel op i g (semT n val rel a) (semT n val rel b)
end Go.Proofs.Wit
namespace Go.Proofs.Wit
open Go
/-! worlds that are together agree -/
abbrev PEq (p : List Int) (v w : Nat) : Prop := p.getD v 0 = p.getD w 0
structure IvS (n : Nat) (p' p : List Int) (R : List W64) : Prop where
  fb : ∀ v w, v < n → w < n → PEq p' v w → ∀ u, Rl R v u → ∃ u', Rl R w u' ∧ PEq p u u'
def IvX (n : Nat) (p : List Int) (s : W64) : Prop := ∀ v w, v < n → w < n → PEq p v w → s.getLsbD v = true → s.getLsbD w = true
section
variable {n : Nat} {p p' : List Int} {s t c : W64} {R : List W64}
theorem allW_has (hn : n ≤ 64) {v : Nat} (hv : v < n) : (allW n).getLsbD v = true := by rw [allW_bit hn (by omega)]; simpa using hv
theorem not_bit {v : Nat} (hv : v < 64) : (~~~s).getLsbD v = !s.getLsbD v := by rw [BitVec.getLsbD_not]; simp [hv]
end
theorem fmTo_inj {val : List W64} {v w : Nat} : ∀ {k : Nat}, fmTo val v k = fmTo val w k → ∀ j, j < k → (val.getD j 0#64).getLsbD v = (val.getD j 0#64).getLsbD w
  | 0, _, j, hj => by omega
  | k + 1, h, j, hj => by
    have h1 := fmTo_lt val v k
    have h2 := fmTo_lt val w k
    have hb : (val.getD k 0#64).getLsbD v = (val.getD k 0#64).getLsbD w ∧ fmTo val v k = fmTo val w k := by
      rw [fmTo, fmTo] at h
      cases e1 : (val.getD k 0#64).getLsbD v <;> cases e2 : (val.getD k 0#64).getLsbD w <;> simp only [e1, e2, if_true, Bool.false_eq_true, if_false] at h
      · exact ⟨rfl, by omega⟩
      · omega
      · omega
      · exact ⟨rfl, by omega⟩
    rcases Nat.lt_succ_iff_lt_or_eq.1 hj with h3 | rfl
    · exact fmTo_inj hb.2 j h3
    · exact hb.1
section
variable {n : Nat} {val : List W64} {rels : List (List W64)}
end
/-- a property of all labels -/
def allL (q : Int → Int → Int → Prop) : Tr → Prop
  | .leaf op i _ g => q op i g
  | .un op i _ g a => q op i g ∧ allL q a
  | .bin op i _ g a b => q op i g ∧ allL q a ∧ allL q b
theorem allL.mono {q q' : Int → Int → Int → Prop} (h : ∀ op i g, q op i g → q' op i g) : ∀ {t : Tr}, allL q t → allL q' t
  | .leaf _ _ _ _, h1 => h _ _ _ h1
  | .un _ _ _ _ _, h1 => ⟨h _ _ _ h1.1, h1.2.mono h⟩
  | .bin _ _ _ _ _ _, h1 => ⟨h _ _ _ h1.1, h1.2.1.mono h, h1.2.2.mono h⟩
/-- the modal depth -/
def mdO (op : Int) : Nat := if 9 ≤ op ∧ op ≤ 15 ∨ 18 ≤ op then 1 else 0
def depT : Tr → Nat
  | .leaf op _ _ _ => mdO op
  | .un op _ _ _ a => depT a + mdO op
  | .bin op _ _ _ a b => max (depT a) (depT b) + mdO op
end Go.Proofs.Wit
namespace Go.Proofs.Wit
open Go
def gcB (r : List W64) (n : Nat) (c s : W64) : Nat → W64
  | 0 => allW n
  | k + 1 => boxW r n ((allW n &&& ~~~c) ||| (s &&& gcB r n c s k))
section
variable {r : List W64} {n : Nat} {c s : W64}
theorem allW_iff (hn : n ≤ 64) {i : Nat} : (allW n).getLsbD i = true ↔ i < n := by
  by_cases hi : i < 64
  · rw [allW_bit hn hi]; simp
  · constructor
    · intro h; rw [BitVec.getLsbD_of_ge _ _ (by omega)] at h; cases h
    · intro h; omega
theorem gc_lt (hn : n ≤ 64) : ∀ k i, (gcB r n c s k).getLsbD i = true → i < n
  | 0, _i, h => (allW_iff hn).1 h
  | _k + 1, _i, h => ((boxW_bit hn).1 h).1
theorem gcS_bit (hn : n ≤ 64) {k u : Nat} : (((allW n &&& ~~~c) ||| (s &&& gcB r n c s k)).getLsbD u = true) ↔ (u < n ∧ c.getLsbD u = false) ∨ (s.getLsbD u = true ∧ (gcB r n c s k).getLsbD u = true) := by
  rw [BitVec.getLsbD_or, Bool.or_eq_true, BitVec.getLsbD_and, Bool.and_eq_true, BitVec.getLsbD_and, Bool.and_eq_true, allW_iff hn, BitVec.getLsbD_not, Bool.and_eq_true, decide_eq_true_eq, Bool.not_eq_true']
  constructor
  · rintro (⟨h1, h2⟩ | h)
    · exact .inl ⟨h1, h2.2⟩
    · exact .inr h
  · rintro (⟨h1, h2⟩ | h)
    · exact .inl ⟨h1, by omega, h2⟩
    · exact .inr h
theorem gc_dec (hn : n ≤ 64) : ∀ k i, (gcB r n c s (k + 1)).getLsbD i = true → (gcB r n c s k).getLsbD i = true
  | 0, i, h => (allW_iff hn).2 ((boxW_bit hn).1 h).1
  | k + 1, i, h => by
    obtain ⟨h1, h2⟩ := (boxW_bit hn).1 h
    refine (boxW_bit hn).2 ⟨h1, fun u hu => (gcS_bit hn).2 ?_⟩
    rcases (gcS_bit hn).1 (h2 u hu) with h3 | ⟨h3, h4⟩
    · exact .inl h3
    · exact .inr ⟨h3, gc_dec hn k u h4⟩
theorem com_gc (hn : n ≤ 64) (hr : ∀ a b, Rl r a b → b < n) : ∀ k i, (comW r n c s).getLsbD i = true → (gcB r n c s k).getLsbD i = true
  | 0, i, h => (allW_iff hn).2 ((comW_bit hn hr).1 h).1
  | k + 1, i, h => by
    obtain ⟨h1, h2⟩ := (comW_bit hn hr).1 h
    refine (boxW_bit hn).2 ⟨h1, fun u hu => (gcS_bit hn).2 ?_⟩
    cases hc : c.getLsbD u with
    | false => exact .inl ⟨hr _ _ hu, rfl⟩
    | true =>
      refine .inr ⟨h2 u (.one hu hc), com_gc hn hr k u ((comW_bit hn hr).2 ⟨hr _ _ hu, fun x hx => h2 x ?_⟩)⟩
      clear h2
      induction hx with
      | one h hc2 => exact .step (.one hu hc) h hc2
      | step _ h3 hc2 ih => exact .step ih h3 hc2
theorem gc_fix (hn : n ≤ 64) (hr : ∀ a b, Rl r a b → b < n) {k : Nat} (h : gcB r n c s (k + 1) = gcB r n c s k) : gcB r n c s k = comW r n c s := by
  refine bits_ext (gc_lt hn k) (fun i hi => ((comW_bit hn hr).1 hi).1) (fun i _ => ⟨fun hi => (comW_bit hn hr).2 ⟨gc_lt hn k i hi, fun u hu => ?_⟩, com_gc hn hr k i⟩)
  have step : ∀ a b, (gcB r n c s k).getLsbD a = true → Rl r a b → c.getLsbD b = true → s.getLsbD b = true ∧ (gcB r n c s k).getLsbD b = true := fun a b ha hab hcb => by
    rw [← h] at ha
    have h2 := ((boxW_bit hn).1 ha).2 b hab
    rcases (gcS_bit hn).1 h2 with h3 | h3
    · rw [hcb] at h3; exact absurd h3.2 (by simp)
    · exact h3
  have key : s.getLsbD u = true ∧ (gcB r n c s k).getLsbD u = true := by
    induction hu with
    | one h2 hc2 => exact step _ _ hi h2 hc2
    | step _ h2 hc2 ih => exact step _ _ ih.2 h2 hc2
  exact key.1
theorem gc_less (hn : n ≤ 64) {k : Nat} (h : gcB r n c s (k + 1) ≠ gcB r n c s k) : cntB n (gcB r n c s (k + 1)) < cntB n (gcB r n c s k) :=
  cntB_lt (gc_lt hn (k + 1)) (gc_lt hn k) (gc_dec hn k) h
end
end Go.Proofs.Wit
namespace Go.Proofs.Wit
open Go
/-! labels, masks, and which formulas fit a model -/
def lab (q : Int → Int → Int → Prop) : Tr → Prop
  | .leaf op i _ g => q op i g
  | .un op i _ g _ => q op i g
  | .bin op i _ g _ _ => q op i g
theorem allL.lab {q : Int → Int → Int → Prop} : ∀ {t : Tr}, allL q t → Wit.lab q t
  | .leaf .., h => h
  | .un .., h => h.1
  | .bin .., h => h.1
theorem allL.kid {q : Int → Int → Int → Prop} : ∀ {t c : Tr}, allL q t → c ∈ kids t → allL q c
  | .leaf .., _, _, hc => by cases hc
  | .un .., _, h, hc => by rw [List.mem_singleton.1 hc]; exact h.2
  | .bin .., _, h, hc => by
    simp only [kids, List.mem_cons, List.not_mem_nil, or_false] at hc
    rcases hc with rfl | rfl
    · exact h.2.1
    · exact h.2.2
theorem Clo.allL {q : Int → Int → Int → Prop} {ts : List Tr} (hc : Clo ts) (h : ∀ u ∈ ts, Wit.lab q u) : ∀ t : Tr, t ∈ ts → Wit.allL q t
  | .leaf .., ht => h _ ht
  | .un _ _ _ _ a, ht => ⟨h _ ht, hc.allL h a (hc.mem ht a (by simp [kids]))⟩
  | .bin _ _ _ _ a b, ht => ⟨h _ ht, hc.allL h a (hc.mem ht a (by simp [kids])), hc.allL h b (hc.mem ht b (by simp [kids]))⟩
theorem mem_subT (t : Tr) : t ∈ subT t := (subT_ok t).mem
theorem allL_subT {q : Int → Int → Int → Prop} {t : Tr} : allL q t ↔ ∀ u ∈ subT t, lab q u :=
  ⟨fun h u hu => (visit_all (fun _ ht _ hc => ht.kid hc) t h (fun u hu => by cases hu) u hu).lab, fun h => (subT_ok t).clo.allL h t (mem_subT t)⟩
theorem lab_nodeOf {q : Int → Int → Int → Prop} {ts : List Tr} : ∀ {u : Tr}, lab q u ↔ q (nodeOf ts u).op (nodeOf ts u).i (nodeOf ts u).g
  | .leaf .. => Iff.rfl
  | .un .. => Iff.rfl
  | .bin .. => Iff.rfl
theorem allL_can {q : Int → Int → Int → Prop} {t : Tr} : allL q t ↔ ∀ n ∈ canT t, q n.op n.i n.g := by
  rw [allL_subT]
  show _ ↔ ∀ n ∈ nodesOf (subT t), _
  unfold nodesOf
  constructor
  · intro h n hn
    obtain ⟨u, hu, rfl⟩ := List.mem_map.1 hn
    exact lab_nodeOf.1 (h u hu)
  · intro h u hu
    exact lab_nodeOf.2 (h _ (List.mem_map_of_mem hu))
def orL (h : NV → Nat) (c : List NV) : Nat := c.foldl (fun a n => a ||| h n) 0
theorem orL_snoc {h : NV → Nat} {c : List NV} {n : NV} : orL h (c ++ [n]) = orL h c ||| h n := by simp [orL]
theorem orL_take {h : NV → Nat} {c : List NV} {k : Nat} (hk : k < c.length) : orL h (c.take (k + 1)) = orL h (c.take k) ||| h c[k] := by rw [List.take_succ_eq_append_getElem hk, orL_snoc]
theorem orL_lt {h : NV → Nat} {k : Nat} {c : List NV} : (∀ n ∈ c, h n < 2 ^ k) → orL h c < 2 ^ k := by
  induction c using snoc_ind with
  | h0 => intro _; exact Nat.two_pow_pos k
  | h1 c n ih => intro hb; rw [orL_snoc]; exact Nat.or_lt_two_pow (ih (fun m hm => hb m (by simp [hm]))) (hb n (by simp))
theorem orL_bit {h : NV → Nat} {j : Nat} {c : List NV} : (orL h c).testBit j = true ↔ ∃ n ∈ c, (h n).testBit j = true := by
  induction c using snoc_ind with
  | h0 => simp [orL]
  | h1 c n ih =>
    rw [orL_snoc, Nat.testBit_or, Bool.or_eq_true, ih]
    simp only [List.mem_append, List.mem_singleton]
    constructor
    · rintro (⟨m, h1, h2⟩ | h1)
      · exact ⟨m, .inl h1, h2⟩
      · exact ⟨n, .inr rfl, h1⟩
    · rintro ⟨m, h1 | rfl, h2⟩
      · exact .inl ⟨m, h1, h2⟩
      · exact .inr h2
def ftN (n : NV) : Nat := if n.op = 3 then 2 ^ n.i.toNat else 0
def agN (n : NV) : Nat := (if agO n.op = true then 2 ^ n.i.toNat else 0) ||| n.g.toNat
structure FldOk (op i e g : Int) : Prop where
  i0 : iO op = false → i = 0
  e0 : op ≠ 17 → e = 0
  g0 : grO op = false → g = 0
  fact : op = 3 → 0 ≤ i ∧ i < 8
  ag : agO op = true → 0 ≤ i ∧ i < 4
  act : op = 17 → (0 ≤ i ∧ i < 8) ∧ 0 ≤ e ∧ e < 8
  gr : grO op = true → 1 ≤ g ∧ g < 16
theorem fldOk_of {op i e g : Int} (h : fldE op i e g = 0) : FldOk op i e g := by
  unfold fldE at h
  split at h
  · cases h
  · rename_i h1
    split at h
    · cases h
    · rename_i h2
      simp only [Bool.or_eq_true, Bool.and_eq_true, Bool.not_eq_true', bne_iff_ne, ne_eq, beq_iff_eq, not_or, not_and, Bool.and_eq_false_iff, decide_eq_false_iff_not, Classical.not_not] at h1 h2
      obtain ⟨⟨a1, a2⟩, a3⟩ := h1
      obtain ⟨⟨⟨b1, b2⟩, b3⟩, b4⟩ := h2
      refine ⟨a1, a2, a3, fun e => ?_, fun e => ?_, fun e => ?_, fun e => ?_⟩
      · have := b1 e; omega
      · have := b2 e; omega
      · have := b3 e; omega
      · have := b4 e; omega
def okM (m k A : Nat) : Bool := (List.range k).all (fun i => gb m i != 1 || decide (i < A))
theorem gb_testBit {m i : Nat} : gb m i = 1 ↔ m.testBit i = true := by
  unfold gb
  rw [Nat.testBit_eq_decide_div_mod_eq]; simp
theorem okM_iff {m k A : Nat} : okM m k A = true ↔ ∀ i, i < k → m.testBit i = true → i < A := by
  unfold okM
  simp only [List.all_eq_true, List.mem_range, Bool.or_eq_true, bne_iff_ne, ne_eq, decide_eq_true_eq, gb_testBit]
  constructor
  · intro h i hi hb
    rcases h i hi with h1 | h1
    · exact absurd hb h1
    · exact h1
  · intro h i hi
    by_cases hb : m.testBit i = true
    · exact .inr (h i hi hb)
    · exact .inl hb
def fitB (f : List NV) (A B : Nat) : Bool := chkF f == 0 && (okM (orL agN (compF f)) 4 A && okM (orL ftN (compF f)) 8 B)
def FitL (A B : Nat) (op i g : Int) : Prop := (agO op = true → i.toNat < A) ∧ (op = 3 → i.toNat < B) ∧ g.toNat < 2 ^ A
theorem bits_lt {g A : Nat} (hg : g < 16) : (∀ i, i < 4 → g.testBit i = true → i < A) ↔ g < 2 ^ A := by
  constructor
  · intro h
    refine Nat.lt_pow_two_of_testBit g (fun i hi => ?_)
    by_cases h4 : i < 4
    · cases e : g.testBit i with
      | false => rfl
      | true => have := h i h4 e; omega
    · exact Nat.testBit_lt_two_pow (Nat.lt_of_lt_of_le hg (by show 2 ^ 4 ≤ 2 ^ i; exact Nat.pow_le_pow_right (by decide) (by omega)))
  · intro h i _ hb
    refine Classical.byContradiction (fun hA => ?_)
    rw [Nat.testBit_lt_two_pow (Nat.lt_of_lt_of_le h (Nat.pow_le_pow_right (by decide) (by omega)))] at hb
    cases hb
theorem g_lt {op i e g : Int} (h : FldOk op i e g) : g.toNat < 16 := by
  cases hg : grO op with
  | false => rw [h.g0 hg]; decide
  | true => have := h.gr hg; omega
theorem agN_lt {n : NV} (h : FldOk n.op n.i n.e n.g) : agN n < 2 ^ 4 := by
  refine Nat.or_lt_two_pow ?_ (g_lt h)
  split
  · rename_i ha; have := h.ag ha; exact Nat.pow_lt_pow_right (by decide) (by omega)
  · decide
theorem ftN_lt {n : NV} (h : FldOk n.op n.i n.e n.g) : ftN n < 2 ^ 8 := by
  unfold ftN
  split
  · rename_i ha; have := h.fact ha; exact Nat.pow_lt_pow_right (by decide) (by omega)
  · decide
theorem fit_ag {n : NV} (h : FldOk n.op n.i n.e n.g) {A : Nat} : (∀ i, i < 4 → (agN n).testBit i = true → i < A) ↔ (agO n.op = true → n.i.toNat < A) ∧ n.g.toNat < 2 ^ A := by
  rw [← bits_lt (g_lt h)]
  unfold agN
  constructor
  · intro h1
    refine ⟨fun ha => ?_, fun i hi hb => h1 i hi (by rw [Nat.testBit_or, hb, Bool.or_true])⟩
    have := h.ag ha
    exact h1 n.i.toNat (by omega) (by rw [Nat.testBit_or, if_pos ha, Nat.testBit_two_pow_self, Bool.true_or])
  · rintro ⟨h1, h2⟩ i hi hb
    rw [Nat.testBit_or, Bool.or_eq_true] at hb
    rcases hb with hb | hb
    · split at hb
      · rename_i ha
        rw [Nat.testBit_two_pow, decide_eq_true_eq] at hb
        rw [← hb]; exact h1 ha
      · rw [Nat.zero_testBit] at hb; cases hb
    · exact h2 i hi hb
theorem fit_ft {n : NV} (h : FldOk n.op n.i n.e n.g) {B : Nat} : (∀ i, i < 8 → (ftN n).testBit i = true → i < B) ↔ (n.op = 3 → n.i.toNat < B) := by
  unfold ftN
  constructor
  · intro h1 h3
    have := h.fact h3
    exact h1 n.i.toNat (by omega) (by rw [if_pos h3, Nat.testBit_two_pow_self])
  · intro h1 i _ hb
    split at hb
    · rename_i h3
      rw [Nat.testBit_two_pow, decide_eq_true_eq] at hb
      rw [← hb]; exact h1 h3
    · rw [Nat.zero_testBit] at hb; cases hb
theorem NodesOk.fld {f : List NV} (h : NodesOk f) : ∀ n ∈ f, FldOk n.op n.i n.e n.g := fun n hn => by
  obtain ⟨i, hi, rfl⟩ := List.mem_iff_getElem.1 hn
  exact fldOk_of (h i hi).fld
theorem NodesOk.opm {f : List NV} (h : NodesOk f) : ∀ n ∈ f, 1 ≤ n.op ∧ n.op ≤ 21 := fun n hn => by
  obtain ⟨i, hi, rfl⟩ := List.mem_iff_getElem.1 hn
  exact (h i hi).op
theorem fitB_iff {f : List NV} {A B : Nat} : fitB f A B = true ↔ chkF f = 0 ∧ allL (FitL A B) (topT f) := by
  unfold fitB
  rw [Bool.and_eq_true, beq_iff_eq]
  refine and_congr_right (fun h0 => ?_)
  have hok := (chkF_zero.1 h0).top
  rw [compF_eq h0, allL_can, Bool.and_eq_true, okM_iff, okM_iff]
  have hfl := (canT_nodes hok).fld
  constructor
  · rintro ⟨h1, h2⟩ n hn
    have k1 := (fit_ag (hfl n hn) (A := A)).1 (fun i hi hb => h1 i hi (orL_bit.2 ⟨n, hn, hb⟩))
    have k2 := (fit_ft (hfl n hn) (B := B)).1 (fun i hi hb => h2 i hi (orL_bit.2 ⟨n, hn, hb⟩))
    exact ⟨k1.1, k2, k1.2⟩
  · intro h
    constructor
    · intro i hi hb
      obtain ⟨n, hn, hb⟩ := orL_bit.1 hb
      exact (fit_ag (hfl n hn)).2 ⟨(h n hn).1, (h n hn).2.2⟩ i hi hb
    · intro i hi hb
      obtain ⟨n, hn, hb⟩ := orL_bit.1 hb
      exact (fit_ft (hfl n hn)).2 (h n hn).2.1 i hi hb
/-! fragments -/
def andN (a b : Nat) : Nat := a &&& (511 ^^^ b)
theorem andN_zero {a b : Nat} (ha : a < 512) : andN a b = 0 ↔ ∀ i, a.testBit i = true → b.testBit i = true := by
  have h511 : ∀ i, (511 : Nat).testBit i = decide (i < 9) := fun i => by
    rw [show (511 : Nat) = 2 ^ 9 - 1 from rfl, Nat.testBit_two_pow_sub_one]
  constructor
  · intro h i hi
    have h9 : i < 9 := by
      refine Classical.byContradiction (fun hc => ?_)
      rw [Nat.testBit_lt_two_pow (Nat.lt_of_lt_of_le ha (by show 2 ^ 9 ≤ 2 ^ i; exact Nat.pow_le_pow_right (by decide) (by omega)))] at hi
      cases hi
    have := congrArg (fun x => x.testBit i) h
    simp only [andN, Nat.testBit_and, Nat.testBit_xor, hi, h511, h9, decide_true, Nat.zero_testBit, Bool.true_and, Bool.true_bne] at this
    simpa using this
  · intro h
    refine Nat.eq_of_testBit_eq (fun i => ?_)
    rw [andN, Nat.testBit_and, Nat.testBit_xor, h511, Nat.zero_testBit]
    cases e : a.testBit i with
    | false => rfl
    | true =>
      rw [h i e]
      have h9 : i < 9 := by
        refine Classical.byContradiction (fun hc => ?_)
        rw [Nat.testBit_lt_two_pow (Nat.lt_of_lt_of_le ha (by show 2 ^ 9 ≤ 2 ^ i; exact Nat.pow_le_pow_right (by decide) (by omega)))] at e
        cases e
      simp [h9]
theorem frN_lt (n : NV) : frN n < 512 := by
  have := frO_lt n.op
  have := frN_eq n
  omega
theorem frg_zero {c : List NV} {b : Nat} : andN (frgL c) b = 0 ↔ ∀ n ∈ c, andN (frN n) b = 0 := by
  rw [andN_zero (frgL_lt c)]
  constructor
  · intro h n hn
    rw [andN_zero (frN_lt n)]
    exact fun i hi => h i (orL_bit.2 ⟨n, hn, hi⟩)
  · intro h i hi
    obtain ⟨n, hn, hb⟩ := orL_bit.1 (show (orL frN c).testBit i = true from hi)
    exact (andN_zero (frN_lt n)).1 (h n hn) i hb
theorem op_cases {p : Int → Prop} (h : ∀ k : Nat, k < 21 → p ((k : Int) + 1)) {op : Int} (ho : 1 ≤ op ∧ op ≤ 21) : p op := by
  have := h (op.toNat - 1) (by omega)
  rw [show (((op.toNat - 1 : Nat) : Int) + 1) = op by omega] at this
  exact this
theorem frO_15 {op : Int} (ho : 1 ≤ op ∧ op ≤ 21) : andN (frO op).toNat 15 = 0 ↔ op ≤ 13 :=
  op_cases (p := fun op => andN (frO op).toNat 15 = 0 ↔ op ≤ 13) (by decide) ho
theorem frO_1 {op : Int} (ho : 1 ≤ op ∧ op ≤ 21) : andN (frO op).toNat 1 = 0 ↔ op ≤ 10 :=
  op_cases (p := fun op => andN (frO op).toNat 1 = 0 ↔ op ≤ 10) (by decide) ho
theorem frg_has {t : Tr} {b : Nat} {r : Int → Prop} (ht : t.ok) (hr : ∀ {op : Int}, (1 ≤ op ∧ op ≤ 21) → (andN (frO op).toNat b = 0 ↔ r op)) : andN (frgL (canT t)) b = 0 ↔ allL (fun op _ _ => r op) t := by
  rw [frg_zero, allL_can]
  have ho := (canT_nodes ht).opm
  exact ⟨fun h n hn => (hr (ho n hn)).1 (h n hn), fun h n hn => (hr (ho n hn)).2 (h n hn)⟩
theorem bAndNotI {P : Program} {t : TypeId} {a b : Nat} (ha : a < 512) (hb : b < 512) : Bin P .andNot t (.int .i64 a) (.int .i64 b) (.int .i64 (andN a b)) := by
  refine bI _ ?_
  have h1 : (BitVec.ofInt 64 (a : Int)).toNat = a := by
    rw [BitVec.ofInt_natCast, BitVec.toNat_ofNat]; exact Nat.mod_eq_of_lt (by omega)
  have h2 : BitVec.ofInt 64 (b : Int) = BitVec.ofNat 64 b := BitVec.ofInt_natCast ..
  have h0 : BitVec.ofInt 64 (a : Int) = BitVec.ofNat 64 a := BitVec.ofInt_natCast ..
  have hx : andN a b < 2 ^ 9 := Nat.and_lt_two_pow _ (by show 511 ^^^ b < 2 ^ 9; exact Nat.xor_lt_two_pow (by decide) (by omega))
  have key : (BitVec.ofInt 64 (a : Int) &&& ~~~ BitVec.ofInt 64 (b : Int)) = BitVec.ofNat 64 (andN a b) := by
    rw [h0, h2]
    apply BitVec.eq_of_getLsbD_eq
    intro i hi
    rw [BitVec.getLsbD_and, BitVec.getLsbD_not, BitVec.getLsbD_ofNat, BitVec.getLsbD_ofNat, BitVec.getLsbD_ofNat, andN, Nat.testBit_and, Nat.testBit_xor, show (511 : Nat) = 2 ^ 9 - 1 from rfl, Nat.testBit_two_pow_sub_one]
    have e9 : ¬ i < 9 → a.testBit i = false := fun hc => Nat.testBit_lt_two_pow (Nat.lt_of_lt_of_le ha (by show 2 ^ 9 ≤ 2 ^ i; exact Nat.pow_le_pow_right (by decide) (by omega)))
    by_cases h9 : i < 9
    · simp [hi, h9]
    · simp [hi, e9 h9]
  show (binOp .andNot t (.int .i64 a) (.int .i64 b)) = _
  show (pure (Value.int .i64 (IntKind.i64.wrap ((BitVec.ofInt 64 (a : Int) &&& ~~~ BitVec.ofInt 64 (b : Int)).toNat : Int))) : Sem Value) = _
  rw [key, BitVec.toNat_ofNat, Nat.mod_eq_of_lt (by omega), IntWalk.i64_in _ (by omega)]
/-! what Holds says of a model and a formula -/
def holdE (n : Int) (val : List W64) (rel : List (List W64)) (f : List NV) : Int :=
  if checkM n val rel ≠ 0 then checkM n val rel else if chkF f ≠ 0 then chkF f else if andN (frgL (compF f)) 15 ≠ 0 then 10 else if fitB f rel.length val.length = false then 2 else 0
def StatL (A B : Nat) (op i g : Int) : Prop := op ≤ 13 ∧ FitL A B op i g
theorem allL_and {p q : Int → Int → Int → Prop} : ∀ {t : Tr}, allL p t → allL q t → allL (fun op i g => p op i g ∧ q op i g) t
  | .leaf .., h, k => ⟨h, k⟩
  | .un .., h, k => ⟨⟨h.1, k.1⟩, allL_and h.2 k.2⟩
  | .bin .., h, k => ⟨⟨h.1, k.1⟩, allL_and h.2.1 k.2.1, allL_and h.2.2 k.2.2⟩
theorem holdE_zero {n : Int} {val : List W64} {rel : List (List W64)} {f : List NV} : holdE n val rel f = 0 ↔ ValM n val rel ∧ chkF f = 0 ∧ allL (StatL rel.length val.length) (topT f) := by
  unfold holdE
  constructor
  · intro h
    split at h
    · rename_i h1; exact absurd h h1
    · rename_i h1
      split at h
      · rename_i h2; exact absurd h h2
      · rename_i h2
        split at h
        · cases h
        · rename_i h3
          split at h
          · cases h
          · rename_i h4
            have h2 := Classical.not_not.1 h2
            have h3 := Classical.not_not.1 h3
            rw [compF_eq h2] at h3
            exact ⟨checkM_zero.1 (Classical.not_not.1 h1), h2, allL_and ((frg_has (chkF_zero.1 h2).top frO_15).1 h3) (fitB_iff.1 (by simpa using h4)).2⟩
  · rintro ⟨h1, h2, h3⟩
    have k3 : andN (frgL (compF f)) 15 = 0 := by
      rw [compF_eq h2]; exact (frg_has (chkF_zero.1 h2).top frO_15).2 (h3.mono (fun _ _ _ h => h.1))
    have k4 : fitB f rel.length val.length = true := fitB_iff.2 ⟨h2, h3.mono (fun _ _ _ h => h.2)⟩
    rw [if_neg (by simp [checkM_zero.2 h1]), if_neg (by simp [h2]), if_neg (by simp [k3]), if_neg (by simp [k4])]
theorem semT_mk {n : Nat} {val : List W64} {rel : List (List W64)} {nd : NV} {a b : Tr} : semT n val rel (mkT nd a b) = oneW n val rel nd.op nd.i nd.g (if usX nd.op = true then semT n val rel a else 0#64) (if usY nd.op = true then semT n val rel b else 0#64) := by
  unfold mkT
  split
  · rename_i h; rw [if_pos (usY_X h)]; rfl
  · split
    · rename_i h; rfl
    · rfl
end Go.Proofs.Wit
namespace Go.Proofs.Wit
open Go Go.RowKit
/-! unions of relations, step by step; masks -/
section
variable {n : Nat} {rel : List (List W64)} {g k w : Nat}
theorem joinV_succ : joinW rel g w (k + 1) = if gb g k = 1 then joinW rel g w k ||| (rel.getD k []).getD w 0#64 else joinW rel g w k := rfl
theorem joinV_none (h : ∀ a, a < k → gb g a = 0) : joinW rel g w k = 0#64 := by
  induction k with
  | zero => rfl
  | succ k ih =>
    rw [joinV_succ, if_neg (by rw [h k (Nat.lt_succ_self k)]; decide)]
    exact ih (fun a ha => h a (Nat.lt_succ_of_lt ha))
theorem joinV_len : (joinTo n rel g k).length = n := by simp [joinTo]
theorem joinV_skip (h : gb g k = 0) : joinTo n rel g (k + 1) = joinTo n rel g k := by
  unfold joinTo
  congr 1
  funext w
  rw [joinV_succ, if_neg (by rw [h]; decide)]
theorem joinV_first (_hn : n ≤ 64) (h0 : ∀ a, a < k → gb g a = 0) (h1 : gb g k = 1) {r : List W64} (hr : rel.getD k [] = r) (hl : r.length = n) (_hv : Val r) : joinTo n rel g (k + 1) = r := by
  apply List.ext_getElem (by simp [joinTo, hl])
  intro i e1 e2
  have hi : i < n := by omega
  have e3 : (joinTo n rel g (k + 1))[i] = joinW rel g i (k + 1) := by simp [joinTo]
  rw [e3, joinV_succ, if_pos h1, joinV_none h0, hr]
  simp [List.getD_eq_getElem?_getD, e2]
theorem joinV_step (h1 : gb g k = 1) {r : List W64} (hr : rel.getD k [] = r) : flm (fun w x => x ||| r.getD w 0#64) (joinTo n rel g k) n = joinTo n rel g (k + 1) := by
  apply List.ext_getElem (by simp [joinTo, flm])
  intro i e1 e2
  have hi : i < n := by simpa [joinTo] using e2
  have e3 : (joinTo n rel g (k + 1))[i] = joinW rel g i (k + 1) := by simp [joinTo]
  rw [e3, joinV_succ, if_pos h1, hr]
  simp [flm, joinTo, hi]
end
/-- a relation all of whose points are below n -/
theorem joinL_val {n : Nat} {val : List W64} {rel : List (List W64)} (hv : ValM (n : Int) val rel) (g : Nat) : Val (joinL n rel g) ∧ (joinL n rel g).length = n := by
  have h64 := hv.n64
  have hl : (joinL n rel g).length = n := joinV_len
  refine ⟨⟨by omega, fun a b hab => ?_⟩, hl⟩
  rw [hl]
  obtain ⟨_, i, hi, _, h⟩ := joinL_bit.1 hab
  have hm : rel.getD i [] ∈ rel := by simp [List.getD_eq_getElem?_getD, hi]
  have := (hv.rels _ hm).lt _ _ h
  have := hv.len _ hm
  omega
theorem meetL_val {n : Nat} {val : List W64} {rel : List (List W64)} (hv : ValM (n : Int) val rel) (g : Nat) : Val (meetL n rel g) ∧ (meetL n rel g).length = n := by
  have h64 := hv.n64
  have hl : (meetL n rel g).length = n := meetTo_len
  refine ⟨⟨by omega, fun a b hab => ?_⟩, hl⟩
  rw [hl]
  have ha := hab.dom
  rw [hl] at ha
  unfold Rl at hab
  rw [meetL, meetTo_get ha] at hab
  exact meetW_lt (by omega) _ _ hab
theorem okM_shr {m k A : Nat} (hm : m < 2 ^ k) : okM m k A = decide (m / 2 ^ A = 0) := by
  have h1 : okM m k A = true ↔ m / 2 ^ A = 0 := by
    rw [okM_iff, Nat.div_eq_zero_iff_lt (Nat.two_pow_pos A)]
    constructor
    · intro h
      refine Nat.lt_pow_two_of_testBit m (fun i hi => ?_)
      by_cases hk : i < k
      · cases hb : m.testBit i with
        | false => rfl
        | true => have := h i hk hb; omega
      · exact Nat.testBit_lt_two_pow (Nat.lt_of_lt_of_le hm (Nat.pow_le_pow_right (by decide) (by omega)))
    · intro h i _ hb
      refine Classical.byContradiction (fun hn => ?_)
      rw [Nat.testBit_lt_two_pow (Nat.lt_of_lt_of_le h (Nat.pow_le_pow_right (by decide) (by omega)))] at hb
      cases hb
  by_cases h : m / 2 ^ A = 0
  · rw [decide_eq_true h]; exact h1.2 h
  · rw [decide_eq_false h, Bool.eq_false_iff]; exact fun h2 => h (h1.1 h2)
theorem ag_gr {op : Int} (h : agO op = true) : grO op = false := by
  simp only [agO, Bool.or_eq_true, beq_iff_eq] at h
  simp only [grO, Bool.and_eq_false_iff, decide_eq_false_iff_not]
  omega
theorem g_nn {n : NV} (h : FldOk n.op n.i n.e n.g) : 0 ≤ n.g := by
  cases hg : grO n.op with
  | true => have := h.gr hg; omega
  | false => have := h.g0 hg; omega
end Go.Proofs.Wit
namespace Go.Proofs.Wit
/-! a canonical list's sets -/
structure NdFit (A B : Nat) (nd : NV) : Prop where
  op1 : 1 ≤ nd.op
  op13 : nd.op ≤ 13
  fact : nd.op = 3 → 0 ≤ nd.i ∧ nd.i.toNat < B
  ag : nd.op = 9 ∨ nd.op = 10 → 0 ≤ nd.i ∧ nd.i.toNat < A
  gr : 11 ≤ nd.op → 1 ≤ nd.g ∧ nd.g.toNat < 2 ^ A
theorem semT_node {n : Nat} {val : List W64} {rel : List (List W64)} {g : List NV} (ho : NodesOk g) {k : Nat} (hk : k < g.length) :
    semT n val rel (treeAt g k) = oneW n val rel g[k].op g[k].i g[k].g (if usX g[k].op = true then semT n val rel (treeAt g g[k].x.toNat) else 0#64) (if usY g[k].op = true then semT n val rel (treeAt g g[k].y.toNat) else 0#64) := by
  have ho2 := ho.ord k hk
  rw [treeAt_node hk (fun h => by have := ho2.1 h; omega) (fun h => by have := ho2.2 h; omega), semT_mk]
/-- what is known of a list that is its own canonical list -/
structure CanF (g : List NV) : Prop where
  chk : chkF g = 0
  can : g = canT (topT g)
end Go.Proofs.Wit
namespace Go.Proofs.Wit
open Go Go.RowKit
/-! formulas that are built of others: too long ones are no list -/
theorem subT_kid {c t : Tr} (h : c ∈ kids t) : subT c ⊆ subT t :=
  visit_sub c (ts := []) (subT_ok t).clo ((subT_ok t).clo.mem (mem_subT t) c h) (List.nil_subset _)
theorem canT_kid {c t : Tr} (h : c ∈ kids t) : (canT c).length ≤ (canT t).length := by
  rw [canT_len, canT_len]
  exact (subT_ok c).nd.length_le_of_subset (subT_kid h)
theorem bT_long {t : Tr} (h : 200 < (canT t).length) : bT t = [] := if_pos h
theorem bT_ok {t : Tr} (h : ¬ 200 < (canT t).length) : bT t = canT t := if_neg h
theorem bT_le (t : Tr) : (bT t).length ≤ 200 := by
  unfold bT; split
  · simp
  · omega
theorem bT_nil {t : Tr} : bT t = [] ↔ 200 < (canT t).length := by
  constructor
  · intro h
    refine Classical.byContradiction (fun hn => ?_)
    rw [bT_ok hn] at h
    have := canT_pos t
    rw [h] at this; exact absurd this (by simp)
  · exact bT_long
theorem bldF_bad {n : NV} {gs : List (List NV)} (h : ∃ g ∈ gs, chkF g ≠ 0) : bldF n gs = [] := if_pos h
theorem bldF_le (n : NV) (gs : List (List NV)) : (bldF n gs).length ≤ 200 := by
  unfold bldF
  repeat' split
  · simp
  · simp
  · simp
  · omega
theorem bld_un {op i e g : Int} {a : Tr} (ha : a.ok) (hop : 1 ≤ op ∧ op ≤ 21) (hX : usX op = true) (hY : usY op = false) (hf : fldE op i e g = 0) : bldF ⟨op, i, e, g, 0, 0⟩ [bT a] = bT (.un op i e g a) := by
  by_cases hl : 200 < (canT a).length
  · rw [bT_long hl, bldF_bad ⟨[], by simp, by decide⟩, bT_long (Nat.lt_of_lt_of_le hl (canT_kid (by simp [kids])))]
  · obtain ⟨h1, h2, h3⟩ := bT_chk ha (by omega)
    rw [h1, bld1 h2 hop hX hY hf rfl, h3]
theorem bld_bin {op i e g : Int} {a b : Tr} (ha : a.ok) (hb : b.ok) (hop : 1 ≤ op ∧ op ≤ 21) (hY : usY op = true) (hf : fldE op i e g = 0) : bldF ⟨op, i, e, g, 0, 0⟩ [bT a, bT b] = bT (.bin op i e g a b) := by
  by_cases hl : 200 < (canT a).length
  · rw [bT_long hl, bldF_bad ⟨[], by simp, by decide⟩, bT_long (Nat.lt_of_lt_of_le hl (canT_kid (by simp [kids])))]
  · by_cases hl2 : 200 < (canT b).length
    · rw [bT_long hl2, bldF_bad ⟨[], by simp, by decide⟩, bT_long (Nat.lt_of_lt_of_le hl2 (canT_kid (by simp [kids])))]
    · obtain ⟨h1, h2, h3⟩ := bT_chk ha (by omega)
      obtain ⟨k1, k2, k3⟩ := bT_chk hb (by omega)
      rw [h1, k1, bld2 h2 k2 hop hY hf, h3, k3]
theorem compF_bT {t : Tr} (h : t.ok) : compF (bT t) = bT t := by
  by_cases hl : 200 < (canT t).length
  · rw [bT_long hl]; exact if_pos (by decide)
  · obtain ⟨h1, h2, h3⟩ := bT_chk h (by omega)
    rw [h1, compF_eq h2, h3]
/-! conjunctions -/
def andB (a b : List NV) : List NV := bldF ⟨5, 0, 0, 0, 0, 0⟩ [a, b]
def bldAll : List (List NV) → List NV
  | [] => bldF ⟨1, 0, 0, 0, 0, 0⟩ []
  | g :: gs => gs.foldl andB (compF g)
def conjT : List Tr → Tr
  | [] => .leaf 1 0 0 0
  | t :: ts => ts.foldl (fun a b => .bin 5 0 0 0 a b) t
theorem and_ok {a b : Tr} (ha : a.ok) (hb : b.ok) : (Tr.bin 5 0 0 0 a b).ok := ⟨by omega, rfl, rfl, ha, hb⟩
theorem foldl_ok : ∀ {ts : List Tr} {t : Tr}, t.ok → (∀ u ∈ ts, u.ok) → (ts.foldl (fun a b => Tr.bin 5 0 0 0 a b) t).ok
  | [], _, h, _ => h
  | u :: us, t, h, hs => by
    rw [List.foldl_cons]
    exact foldl_ok (ts := us) (t := Tr.bin 5 0 0 0 t u) (and_ok h (hs u (by simp))) (fun v hv => hs v (by simp [hv]))
theorem true_ok : (Tr.leaf 1 0 0 0).ok := ⟨by decide, rfl, rfl⟩
theorem conjT_ok : ∀ {ts : List Tr}, (∀ u ∈ ts, u.ok) → (conjT ts).ok
  | [], _ => true_ok
  | t :: ts, h => foldl_ok (h t (by simp)) (fun u hu => h u (by simp [hu]))
theorem foldl_bT : ∀ {ts : List Tr} {t : Tr}, t.ok → (∀ u ∈ ts, u.ok) → (ts.map bT).foldl andB (bT t) = bT (ts.foldl (fun a b => .bin 5 0 0 0 a b) t)
  | [], _, _, _ => rfl
  | u :: us, t, h, hs => by
    rw [List.map_cons, List.foldl_cons, List.foldl_cons, andB, bld_bin h (hs u (by simp)) (by omega) rfl rfl]
    exact foldl_bT (and_ok h (hs u (by simp))) (fun v hv => hs v (by simp [hv]))
theorem bldAll_bT : ∀ {ts : List Tr}, (∀ u ∈ ts, u.ok) → bldAll (ts.map bT) = bT (conjT ts)
  | [], _ => bld0 (n := ⟨1, 0, 0, 0, 0, 0⟩) (by decide) rfl rfl rfl rfl
  | t :: ts, h => by
    rw [List.map_cons, bldAll, compF_bT (h t (by simp))]
    exact foldl_bT (h t (by simp)) (fun u hu => h u (by simp [hu]))
/-! x[lo:] of a slice -/
def aSl (a : Option Addr) (cap lo sz : Nat) : Option Addr := if cap = lo then a else a.map (·.add (lo * sz))
theorem Sl.drop {w : World} {a : Option Addr} {xs : List Value} (h : Sl w a xs) {cap lo : Nat} (hc : xs.length ≤ cap) : Sl w (aSl a cap lo 1) (xs.drop lo) := by
  by_cases hl : xs.length ≤ lo
  · rw [List.drop_eq_nil_of_le hl]; exact Sl.nil _ _
  · obtain ⟨b, o, rfl, hb⟩ := h.isSome (by omega)
    have e0 : aSl (some ⟨b, o, none⟩) cap lo 1 = some ⟨b, o + lo, none⟩ := by
      rw [aSl, if_neg (by omega), Option.map_some, Addr.add, Nat.mul_one]
      split
      · rename_i hz; subst hz; rfl
      · rfl
    rw [e0]
    refine ⟨fun _ => ⟨b, o + lo, rfl, hb⟩, fun i hi => ?_⟩
    rw [List.length_drop] at hi
    have := h.cell (lo + i) (by omega)
    have e1 : adr (some ⟨b, o + lo, none⟩) i = adr (some ⟨b, o, none⟩) (lo + i) := by
      simp only [adr, Option.getD_some, Nat.add_assoc]
    rw [e1, this]
    simp [List.getD_eq_getElem?_getD, List.getElem?_drop]
section
variable {P : Program} {w0 : World} {S : List Nat} {n : Nat} {l : Fl} {h : Hl} {ops : Array Oper} {i d : Nat} {ty : TypeId} {pos : String} {aft : Array Edge} {g : Option (Nat × Bool)}
theorem Vop.slLo {t e : TypeId} {x y : Operand} {a : Option Addr} {m cap lo : Nat} {kd : IntKind} {j : Int} {sz : Nat} (ho : ops[i]? = some ⟨some d, .slice t x (some y) none none, ty, pos, aft, g⟩) (hw : wantL ops l g = true)
    (hx : opd l x = some (.slice a m cap)) (hy : opd l y = some (.int kd j)) (hd : Nat.blt d n = true) (hu : P.underlying t = some (.slice e)) (he : ∀ w, (sizeOf e).run P w = .ok sz w) (hj : j = lo) (hc : lo ≤ m) :
    Vop P w0 S n h ops i l d (.slice (aSl a cap lo sz) (m - lo) (cap - lo)) :=
  .of ho hw rfl rfl hd (fun t w Ds _ hF hS => ⟨.value (.slice (aSl a cap lo sz) (m - lo) (cap - lo)), by
    subst hj
    simp only [execOp, hF.opd hx, hF.opd hy, Option.map_some, Option.map_none, Instr.sliceAt, Sem.run_bind, run_underlying hu, Result.andThen_ok, Instr.slice, Instr.sliceBounds, Instr.sliceBound, asIntOf, Sem.run_pure]
    rw [if_pos ⟨by omega, by omega⟩]
    simp only [Sem.run_pure, Result.andThen_ok, he, Int.toNat_natCast]
    rfl, rfl⟩)
end
end Go.Proofs.Wit
namespace Go.Proofs.Wit
/-! partitions whose worlds agree on a set -/
structure Agr (n : Nat) (P : List Int) (s : W64) : Prop where
  len : P.length = n
  ok : OkP P
  inv : IvX n P s
theorem val_lt {n : Int} {val : List W64} {rel : List (List W64)} (hv : ValM n val rel) {k : Nat} (hn : n = (k : Int)) : ∀ r ∈ rel, ∀ a b, Rl r a b → b < k := fun r hr a b h => by
  have h1 := (hv.rels r hr).lt a b h
  have h2 := hv.len r hr
  omega
section
variable {m : Int} {n : Nat} {val : List W64} {rel : List (List W64)} {t : Tr}
end
/-! the groups of a formula's distributed knowledge -/
structure Grps (c : List NV) (k : Nat) (gs : List Int) : Prop where
  has : ∀ (i : Nat) (hi : i < c.length), i < k → c[i].op = 12 → c[i].g ∈ gs
  of : ∀ g ∈ gs, ∃ n ∈ c, n.op = 12 ∧ n.g = g
  nd : gs.Nodup
theorem blt_max {P : Program} {t ty : TypeId} {a b c : Int} (h : c = max a b) : Blt P .max #[t, t] ty [.int .i64 a, .int .i64 b] (.int .i64 c) := by
  intro cs w
  have e : (if b > a then b else a) = c := by rw [h]; split <;> omega
  simp [builtin, Builtin.max_, Builtin.max2, e]
end Go.Proofs.Wit
namespace Go.Proofs.Wit
open Go
/-! the first number with a property -/
def fst (q : Nat → Bool) : Nat → Option Nat
  | 0 => none
  | k + 1 => match fst q k with
    | some j => some j
    | none => if q k = true then some k else none
theorem fst_none {q : Nat → Bool} : ∀ {N : Nat}, fst q N = none ↔ ∀ i, i < N → q i = false
  | 0 => by simp [fst]
  | k + 1 => by
    rw [fst]
    cases h : fst q k with
    | some j =>
      simp only [reduceCtorEq, false_iff]
      intro h2
      have := (fst_none (q := q) (N := k)).2 (fun i hi => h2 i (by omega))
      rw [h] at this; cases this
    | none =>
      have h1 := (fst_none (q := q) (N := k)).1 h
      by_cases hq : q k = true
      · simp only [hq, if_true, reduceCtorEq, false_iff]
        intro h2; rw [h2 k (by omega)] at hq; cases hq
      · simp only [hq, if_false, true_iff, Bool.false_eq_true]
        intro i hi
        rcases Nat.lt_succ_iff_lt_or_eq.1 hi with h3 | rfl
        · exact h1 i h3
        · simpa using hq
theorem fst_some {q : Nat → Bool} : ∀ {N j : Nat}, fst q N = some j ↔ j < N ∧ q j = true ∧ ∀ i, i < j → q i = false
  | 0, j => by simp [fst]
  | k + 1, j => by
    rw [fst]
    cases h : fst q k with
    | some i =>
      obtain ⟨h1, h2, h3⟩ := (fst_some (q := q) (N := k)).1 h
      simp only [Option.some.injEq]
      constructor
      · rintro rfl; exact ⟨by omega, h2, h3⟩
      · rintro ⟨_, k2, k3⟩
        rcases Nat.lt_trichotomy i j with e | e | e
        · rw [k3 i e] at h2; cases h2
        · exact e
        · rw [h3 j e] at k2; cases k2
    | none =>
      have h1 := fst_none.1 h
      by_cases hq : q k = true
      · simp only [hq, if_true, Option.some.injEq]
        constructor
        · rintro rfl; exact ⟨by omega, hq, h1⟩
        · rintro ⟨k1, k2, k3⟩
          rcases Nat.lt_succ_iff_lt_or_eq.1 k1 with e | e
          · rw [h1 j e] at k2; cases k2
          · exact e.symm
      · simp only [hq, if_false, reduceCtorEq, false_iff, Bool.false_eq_true]
        rintro ⟨k1, k2, _⟩
        rcases Nat.lt_succ_iff_lt_or_eq.1 k1 with e | rfl
        · rw [h1 j e] at k2; cases k2
        · exact hq k2
/-! rounds that tell two worlds apart -/
def apB (n : Nat) (val : List W64) (rel : List (List W64)) (v w k : Nat) : Bool := (psq n val rel k).getD v 0 != (psq n val rel k).getD w 0
def dst (n : Nat) (val : List W64) (rel : List (List W64)) (v w : Nat) : Option Nat := fst (apB n val rel v w) (dep n val rel + 1)
def optI : Option Nat → Int
  | none => -1
  | some k => k
section
variable {n : Nat} {val : List W64} {rel : List (List W64)}
theorem apB_false {v w k : Nat} : apB n val rel v w k = false ↔ PEq (psq n val rel k) v w := by simp [apB, PEq]
theorem psq_from (hn : 1 ≤ n) (h64 : n ≤ 64) {k : Nat} (hk : dep n val rel ≤ k) : psq n val rel k = psq n val rel (dep n val rel) := by
  have := psq_stable (dep_spec (val := val) (rels := rel) hn h64).2.1 (k - dep n val rel)
  rwa [show dep n val rel + (k - dep n val rel) = k by omega] at this
/-- any longer search finds the same -/
theorem dst_eq (hn : 1 ≤ n) (h64 : n ≤ 64) {v w N : Nat} (hN : dep n val rel < N) : fst (apB n val rel v w) N = dst n val rel v w := by
  unfold dst
  cases h : fst (apB n val rel v w) (dep n val rel + 1) with
  | some j =>
    obtain ⟨h1, h2, h3⟩ := fst_some.1 h
    exact fst_some.2 ⟨by omega, h2, h3⟩
  | none =>
    have h1 := fst_none.1 h
    refine fst_none.2 (fun i hi => ?_)
    by_cases hd : i ≤ dep n val rel
    · exact h1 i (by omega)
    · have := h1 (dep n val rel) (by omega)
      unfold apB at this ⊢
      rw [psq_from hn h64 (by omega : dep n val rel ≤ i)]; exact this
theorem dst_none (hn : 1 ≤ n) (h64 : n ≤ 64) {v w : Nat} : dst n val rel v w = none ↔ ∀ k, PEq (psq n val rel k) v w := by
  constructor
  · intro h k
    have h1 := dst_eq (val := val) (rel := rel) hn h64 (v := v) (w := w) (N := dep n val rel + k + 1) (by omega)
    rw [h] at h1
    exact apB_false.1 (fst_none.1 h1 k (by omega))
  · intro h; exact fst_none.2 (fun i _ => apB_false.2 (h i))
theorem dst_some (hn : 1 ≤ n) (h64 : n ≤ 64) {v w k : Nat} : dst n val rel v w = some k ↔ ¬ PEq (psq n val rel k) v w ∧ ∀ i, i < k → PEq (psq n val rel i) v w := by
  rw [← dst_eq (val := val) (rel := rel) hn h64 (v := v) (w := w) (N := dep n val rel + k + 1) (by omega), fst_some]
  constructor
  · rintro ⟨_, h2, h3⟩; exact ⟨fun h => (by rw [apB_false.2 h] at h2; cases h2), fun i hi => apB_false.1 (h3 i hi)⟩
  · rintro ⟨h2, h3⟩
    refine ⟨by omega, ?_, fun i hi => apB_false.2 (h3 i hi)⟩
    cases e : apB n val rel v w k with
    | true => rfl
    | false => exact absurd (apB_false.1 e) h2
theorem dst_lt (_hn : 1 ≤ n) (_h64 : n ≤ 64) {v w k : Nat} (h : dst n val rel v w = some k) : k ≤ dep n val rel := by
  have := (fst_some.1 (show fst (apB n val rel v w) (dep n val rel + 1) = some k from h)).1
  omega
/-- apart after k rounds: found at k or before -/
theorem dst_le (hn : 1 ≤ n) (h64 : n ≤ 64) {v w k : Nat} (h : ¬ PEq (psq n val rel k) v w) : ∃ j, dst n val rel v w = some j ∧ j ≤ k := by
  cases e : dst n val rel v w with
  | none => exact absurd ((dst_none hn h64).1 e k) h
  | some j =>
    refine ⟨j, rfl, Classical.byContradiction (fun hc => ?_)⟩
    exact h (((dst_some hn h64).1 e).2 k (by omega))
/-- what tells worlds apart first: a fact -/
theorem dst_zero {v w : Nat} (hv : v < n) (hw : w < n) (hn : 1 ≤ n) (h64 : n ≤ 64) : dst n val rel v w = some 0 ↔ ∃ i, i < val.length ∧ (val.getD i 0#64).getLsbD v ≠ (val.getD i 0#64).getLsbD w := by
  rw [dst_some hn h64]
  constructor
  · rintro ⟨h, _⟩
    refine Classical.byContradiction (fun hno => h ((ker_eq_iff hv hw).2 ?_))
    have key : ∀ k, k ≤ val.length → fmTo val v k = fmTo val w k := by
      intro k
      induction k with
      | zero => intro _; rfl
      | succ k ih =>
        intro hk
        rw [fmTo_succ, fmTo_succ, ih (by omega)]
        have : (val.getD k 0#64).getLsbD v = (val.getD k 0#64).getLsbD w := Classical.byContradiction (fun hne => hno ⟨k, by omega, hne⟩)
        rw [this]
    exact key val.length (Nat.le_refl _)
  · rintro ⟨i, hi, hne⟩
    exact ⟨fun h => hne (fmTo_inj ((ker_eq_iff hv hw).1 h) i hi), fun i hi => absurd hi (Nat.not_lt_zero _)⟩
/-- or a successor of the one that no successor of the other agrees with -/
theorem dst_succ {v w k : Nat} (hv : v < n) (hw : w < n) (hn : 1 ≤ n) (h64 : n ≤ 64) (hlt : ∀ r ∈ rel, ∀ a b, Rl r a b → b < n) (h : dst n val rel v w = some (k + 1)) :
    ∃ a, a < rel.length ∧ ((∃ u, Rl (rel.getD a []) v u ∧ ∀ y, Rl (rel.getD a []) w y → ¬ PEq (psq n val rel k) u y) ∨ (∃ u, Rl (rel.getD a []) w u ∧ ∀ y, Rl (rel.getD a []) v y → ¬ PEq (psq n val rel k) u y)) := by
  obtain ⟨h1, h2⟩ := (dst_some hn h64).1 h
  have h3 := h2 k (by omega)
  refine Classical.byContradiction (fun hno => h1 ((nxt_eq_iff (by rw [psq_len]; exact hv) (by rw [psq_len]; exact hw)).2 ⟨h3, fun r hr => ?_⟩))
  obtain ⟨a, ha, rfl⟩ := List.mem_iff_getElem.1 hr
  have hg : rel.getD a [] = rel[a] := by simp [List.getD_eq_getElem?_getD, ha]
  have hok := psq_ok (val := val) (rels := rel) h64 k
  have hl := psq_len (n := n) (val := val) (rels := rel) k
  have key : ∀ x y, (∀ u, Rl rel[a] x u → ∃ u', Rl rel[a] y u' ∧ PEq (psq n val rel k) u u') → ∀ i, (rch (psq n val rel k) (rel[a].getD x 0#64)).getLsbD i = true → (rch (psq n val rel k) (rel[a].getD y 0#64)).getLsbD i = true := by
    intro x y hxy i hi
    obtain ⟨u, hu, hu2, hu3⟩ := (rch_bit hok).1 hi
    obtain ⟨u', k1, k2⟩ := hxy u hu2
    have hun := hlt _ hr _ _ k1
    refine (rch_bit hok).2 ⟨u', by omega, k1, ?_⟩
    rw [← hu3]
    exact k2.symm
  apply BitVec.eq_of_getLsbD_eq
  intro i _
  rw [Bool.eq_iff_iff]
  constructor
  · refine key v w (fun u hu => Classical.byContradiction (fun hc => hno ⟨a, ha, .inl ⟨u, by rw [hg]; exact hu, fun y hy hp => hc ⟨y, by rw [hg] at hy; exact hy, hp⟩⟩⟩)) i
  · refine key w v (fun u hu => Classical.byContradiction (fun hc => hno ⟨a, ha, .inr ⟨u, by rw [hg]; exact hu, fun y hy hp => hc ⟨y, by rw [hg] at hy; exact hy, hp⟩⟩⟩)) i
end
end Go.Proofs.Wit
namespace Go.Proofs.Wit
open Go
/-! formulas that tell worlds apart -/
section
variable {n : Nat} {val : List W64} {rel : List (List W64)}
/-- t has only facts, negations, conjunctions, truth and possibility, and fits -/
def Pln (A B : Nat) (t : Tr) : Prop := allL (fun op i g => StatL A B op i g ∧ op ≤ 10) t
structure TellT (n : Nat) (val : List W64) (rel : List (List W64)) (v w k : Nat) (t : Tr) : Prop where
  ok : t.ok
  pl : Pln rel.length val.length t
  yes : (semT n val rel t).getLsbD v = true
  no : (semT n val rel t).getLsbD w = false
  dp : depT t ≤ k
/-- the literal of the first fact that differs -/
def litT (i : Nat) (yes : Bool) : Tr := if yes = true then .leaf 3 i 0 0 else .un 4 0 0 0 (.leaf 3 i 0 0)
theorem fact_ok {i : Nat} (h : i < 8) : (Tr.leaf 3 i 0 0).ok := by
  refine ⟨by omega, rfl, ?_⟩
  refine fldE_0 ?_ ?_
  · simp [iO, grO]
  · simp [agO, grO]; omega
theorem not_ok {t : Tr} (h : t.ok) : (Tr.un 4 0 0 0 t).ok := ⟨by omega, rfl, rfl, rfl, h⟩
theorem sem_fact {i : Nat} : semT n val rel (.leaf 3 i 0 0) = val.getD i 0#64 := by
  show oneW n val rel 3 i 0 0#64 0#64 = _
  rw [oneW, if_pos rfl, Int.toNat_natCast]
theorem sem_not {t : Tr} : semT n val rel (.un 4 0 0 0 t) = allW n &&& ~~~ semT n val rel t := by
  show oneW n val rel 4 0 0 _ 0#64 = _
  rw [oneW, if_neg (by decide), if_pos (by decide), boolW, if_neg (by decide), if_pos rfl]
theorem sem_true : semT n val rel (.leaf 1 0 0 0) = allW n := by
  show oneW n val rel 1 0 0 0#64 0#64 = _
  rw [oneW, if_neg (by decide), if_pos (by decide), boolW, if_pos rfl]
theorem sem_and {a b : Tr} : semT n val rel (.bin 5 0 0 0 a b) = semT n val rel a &&& semT n val rel b := by
  show oneW n val rel 5 0 0 _ _ = _
  rw [oneW, if_neg (by decide), if_pos (by decide), boolW, if_neg (by decide), if_neg (by decide), if_pos rfl]
theorem sem_poss {a : Nat} {t : Tr} : semT n val rel (.un 10 a 0 0 t) = allW n &&& ~~~ boxW (rel.getD a []) n (allW n &&& ~~~ semT n val rel t) := by
  show oneW n val rel 10 a 0 _ 0#64 = _
  rw [oneW, if_neg (by decide), if_neg (by decide), if_neg (by decide), if_pos rfl, Int.toNat_natCast]
theorem bit_not (h64 : n ≤ 64) {s : W64} {v : Nat} (hv : v < n) : (allW n &&& ~~~ s).getLsbD v = !s.getLsbD v := by
  rw [BitVec.getLsbD_and, allW_has h64 hv, not_bit (by omega), Bool.true_and]
theorem bit_poss (h64 : n ≤ 64) (hlt : ∀ r ∈ rel, ∀ a b, Rl r a b → b < n) {a : Nat} (ha : a < rel.length) {t : Tr} {v : Nat} (hv : v < n) : (semT n val rel (.un 10 a 0 0 t)).getLsbD v = true ↔ ∃ u, Rl (rel.getD a []) v u ∧ (semT n val rel t).getLsbD u = true := by
  have hm : rel.getD a [] ∈ rel := by rw [List.getD_eq_getElem?_getD, List.getElem?_eq_getElem ha]; exact List.getElem_mem ha
  rw [sem_poss, bit_not h64 hv, Bool.not_eq_true', ← Bool.not_eq_true, boxW_bit h64]
  constructor
  · intro h
    refine Classical.byContradiction (fun hno => h ⟨hv, fun u hu => ?_⟩)
    rw [bit_not h64 (hlt _ hm _ _ hu)]
    cases e : (semT n val rel t).getLsbD u with
    | false => rfl
    | true => exact absurd ⟨u, hu, e⟩ hno
  · rintro ⟨u, hu, hs⟩ ⟨_, h⟩
    have := h u hu
    rw [bit_not h64 (hlt _ hm _ _ hu), hs] at this
    cases this
theorem pln_true {A B : Nat} : Pln A B (.leaf 1 0 0 0) := ⟨⟨by decide, fun h => (by cases h), fun h => (by cases h), Nat.two_pow_pos A⟩, by decide⟩
theorem pln_fact {A B i : Nat} (h : i < B) : Pln A B (.leaf 3 i 0 0) := ⟨⟨by decide, fun h => (by cases h), fun _ => (by rw [Int.toNat_natCast]; exact h), Nat.two_pow_pos A⟩, by decide⟩
theorem pln_not {A B : Nat} {t : Tr} (h : Pln A B t) : Pln A B (.un 4 0 0 0 t) := ⟨⟨⟨by decide, fun h => (by cases h), fun h => (by cases h), Nat.two_pow_pos A⟩, by decide⟩, h⟩
theorem pln_and {A B : Nat} {s t : Tr} (h : Pln A B s) (k : Pln A B t) : Pln A B (.bin 5 0 0 0 s t) := ⟨⟨⟨by decide, fun h => (by cases h), fun h => (by cases h), Nat.two_pow_pos A⟩, by decide⟩, h, k⟩
theorem pln_poss {A B a : Nat} {t : Tr} (ha : a < A) (h : Pln A B t) : Pln A B (.un 10 a 0 0 t) := ⟨⟨⟨by decide, fun _ => (by rw [Int.toNat_natCast]; exact ha), fun h => (by cases h), Nat.two_pow_pos A⟩, by decide⟩, h⟩
theorem poss_ok {a : Nat} {t : Tr} (ha : a < 4) (h : t.ok) : (Tr.un 10 a 0 0 t).ok := ⟨by omega, rfl, rfl, by
  refine fldE_0 ?_ ?_
  · simp [iO, grO, agO]
  · simp [agO, grO]; omega, h⟩
/-! conjunctions -/
theorem foldl_bit {i : Nat} : ∀ {ts : List Tr} {t : Tr}, (semT n val rel (ts.foldl (fun a b => Tr.bin 5 0 0 0 a b) t)).getLsbD i = true ↔ (semT n val rel t).getLsbD i = true ∧ ∀ u ∈ ts, (semT n val rel u).getLsbD i = true
  | [], _ => by simp
  | u :: us, t => by
    rw [List.foldl_cons, foldl_bit, sem_and, BitVec.getLsbD_and, Bool.and_eq_true]
    simp only [List.mem_cons, forall_eq_or_imp, and_assoc]
theorem conj_bit (h64 : n ≤ 64) {ts : List Tr} {i : Nat} (hi : i < n) : (semT n val rel (conjT ts)).getLsbD i = true ↔ ∀ u ∈ ts, (semT n val rel u).getLsbD i = true := by
  cases ts with
  | nil => simp only [conjT, sem_true, allW_has h64 hi, List.not_mem_nil, false_implies, implies_true]
  | cons t ts => rw [conjT, foldl_bit]; simp
theorem foldl_pln {A B : Nat} : ∀ {ts : List Tr} {t : Tr}, Pln A B t → (∀ u ∈ ts, Pln A B u) → Pln A B (ts.foldl (fun a b => Tr.bin 5 0 0 0 a b) t)
  | [], _, h, _ => h
  | u :: us, _, h, hs => by rw [List.foldl_cons]; exact foldl_pln (pln_and h (hs u (by simp))) (fun v hv => hs v (by simp [hv]))
theorem conj_pln {A B : Nat} {ts : List Tr} (h : ∀ u ∈ ts, Pln A B u) : Pln A B (conjT ts) := by
  cases ts with
  | nil => exact pln_true
  | cons t ts => exact foldl_pln (h t (by simp)) (fun u hu => h u (by simp [hu]))
theorem foldl_dep {k : Nat} : ∀ {ts : List Tr} {t : Tr}, depT t ≤ k → (∀ u ∈ ts, depT u ≤ k) → depT (ts.foldl (fun a b => Tr.bin 5 0 0 0 a b) t) ≤ k
  | [], _, h, _ => h
  | u :: us, t, h, hs => by
    rw [List.foldl_cons]
    refine foldl_dep ?_ (fun v hv => hs v (by simp [hv]))
    have := hs u (by simp)
    show max (depT t) (depT u) + mdO 5 ≤ k
    rw [show mdO 5 = 0 from rfl]; omega
theorem conj_dep {k : Nat} {ts : List Tr} (h : ∀ u ∈ ts, depT u ≤ k) : depT (conjT ts) ≤ k := by
  cases ts with
  | nil => show mdO 1 ≤ k; rw [show mdO 1 = 0 from rfl]; omega
  | cons t ts => exact foldl_dep (h t (by simp)) (fun u hu => h u (by simp [hu]))
/-- formulas that tell x apart from each of some worlds -/
def TellL (n : Nat) (val : List W64) (rel : List (List W64)) (x k : Nat) (ys : List Nat) (ts : List Tr) : Prop := ts.length = ys.length ∧ ∀ (i : Nat) (h : i < ys.length) (h2 : i < ts.length), ∃ j, j ≤ k ∧ dst n val rel x ys[i] = some j ∧ TellT n val rel x ys[i] j ts[i]
theorem TellL.nil {x k : Nat} : TellL n val rel x k [] [] := ⟨rfl, fun _i h => absurd h (Nat.not_lt_zero _)⟩
theorem TellL.snoc {x k y j : Nat} {ys : List Nat} {ts : List Tr} {t : Tr} (h : TellL n val rel x k ys ts) (hj : j ≤ k) (hd : dst n val rel x y = some j) (ht : TellT n val rel x y j t) : TellL n val rel x k (ys ++ [y]) (ts ++ [t]) :=
  ⟨by simp [h.1], fun i h1 h2 => by
    have hl := h.1
    by_cases hi : i < ys.length
    · rw [List.getElem_append_left hi, List.getElem_append_left (by omega)]
      exact h.2 i hi (by omega)
    · have e : i = ys.length := by simp at h1; omega
      subst e
      simp only [List.getElem_append_right (Nat.le_refl _), Nat.sub_self, List.getElem_cons_zero, List.getElem_append_right (Nat.le_of_eq hl), hl]
      exact ⟨j, hj, hd, ht⟩⟩
theorem TellL.mem {x k : Nat} {ys : List Nat} {ts : List Tr} (h : TellL n val rel x k ys ts) : ∀ t ∈ ts, ∃ y ∈ ys, ∃ j, j ≤ k ∧ dst n val rel x y = some j ∧ TellT n val rel x y j t := fun t ht => by
  obtain ⟨i, hi, rfl⟩ := List.mem_iff_getElem.1 ht
  have hl := h.1
  exact ⟨_, List.getElem_mem (by omega : i < ys.length), h.2 i (by omega) hi⟩
theorem TellL.ofMem {x k : Nat} {ys : List Nat} {ts : List Tr} (h : TellL n val rel x k ys ts) : ∀ y ∈ ys, ∃ t ∈ ts, ∃ j, j ≤ k ∧ dst n val rel x y = some j ∧ TellT n val rel x y j t := fun y hy => by
  obtain ⟨i, hi, rfl⟩ := List.mem_iff_getElem.1 hy
  have hl := h.1
  exact ⟨_, List.getElem_mem (by omega : i < ts.length), h.2 i hi (by omega)⟩
theorem TellL.ok {x k : Nat} {ys : List Nat} {ts : List Tr} (h : TellL n val rel x k ys ts) : ∀ t ∈ ts, t.ok := fun t ht => by
  obtain ⟨_, _, _, _, _, h1⟩ := h.mem t ht; exact h1.ok
/-- a successor that no successor of the other world agrees with makes a formula -/
theorem told_poss (hv : ValM (n : Int) val rel) {v w k a u : Nat} {ys : List Nat} {ts : List Tr} (hvn : v < n) (hwn : w < n) (ha : a < rel.length) (hu : Rl (rel.getD a []) v u) (hys : ∀ y, Rl (rel.getD a []) w y → y ∈ ys) (h : TellL n val rel u k ys ts) : TellT n val rel v w (k + 1) (.un 10 a 0 0 (conjT ts)) := by
  have h1 := hv.n1
  have h64 := hv.n64
  have h4 := hv.agents
  have hlt := val_lt hv rfl
  have hm : rel.getD a [] ∈ rel := by rw [List.getD_eq_getElem?_getD, List.getElem?_eq_getElem ha]; exact List.getElem_mem ha
  have hun := hlt _ hm _ _ hu
  refine ⟨poss_ok (by omega) (conjT_ok h.ok), pln_poss ha (conj_pln (fun t ht => ?_)), ?_, ?_, ?_⟩
  · obtain ⟨_, _, _, _, _, h5⟩ := h.mem t ht; exact h5.pl
  · exact (bit_poss (by omega) hlt ha hvn).2 ⟨u, hu, (conj_bit (by omega) hun).2 (fun t ht => by obtain ⟨_, _, _, _, _, h5⟩ := h.mem t ht; exact h5.yes)⟩
  · rw [← Bool.not_eq_true, bit_poss (by omega) hlt ha hwn]
    rintro ⟨y, hy, hs⟩
    obtain ⟨t, ht, _, _, _, h5⟩ := h.ofMem y (hys y hy)
    have := (conj_bit (by omega) (hlt _ hm _ _ hy)).1 hs t ht
    rw [h5.no] at this; cases this
  · show depT (conjT ts) + mdO 10 ≤ k + 1
    have := conj_dep (k := k) (ts := ts) (fun t ht => by obtain ⟨_, _, j, hj, _, h5⟩ := h.mem t ht; exact Nat.le_trans h5.dp hj)
    rw [show mdO 10 = 1 from rfl]; omega
theorem TellT.dual (h64 : n ≤ 64) {v w k : Nat} {t : Tr} (hvn : v < n) (hwn : w < n) (h : TellT n val rel v w k t) : TellT n val rel w v k (.un 4 0 0 0 t) :=
  ⟨not_ok h.ok, pln_not h.pl, by rw [sem_not, bit_not h64 hwn, h.no]; rfl, by rw [sem_not, bit_not h64 hvn, h.yes]; rfl, by
    show depT t + mdO 4 ≤ k
    rw [show mdO 4 = 0 from rfl]; exact h.dp⟩
theorem told_lit (hv : ValM (n : Int) val rel) {v w i : Nat} (_hvn : v < n) (_hwn : w < n) (hi : i < val.length) (hy : (val.getD i 0#64).getLsbD v = true) (hno : (val.getD i 0#64).getLsbD w = false) : TellT n val rel v w 0 (.leaf 3 i 0 0) := by
  have h8 := hv.facts
  exact ⟨fact_ok (by omega), pln_fact hi, by rw [sem_fact]; exact hy, by rw [sem_fact]; exact hno, by show mdO 3 ≤ 0; decide⟩
end
end Go.Proofs.Wit
namespace Go.Proofs.Wit
open Go
/-! what is known of the formulas that are made already -/
/-- with a tree its parts -/
def KC (U : List Tr) : Prop := ∀ t ∈ U, ∀ c ∈ kids t, c ∈ U
theorem KC.len {U : List Tr} (h : KC U) {t : Tr} (ht : t ∈ U) : (canT t).length ≤ U.length := by
  rw [canT_len]
  exact (subT_ok t).nd.length_le_of_subset (fun u hu => visit_all (p := fun t => t ∈ U) h t ht (fun u hu => by cases hu) u hu)
theorem KC.snoc {U : List Tr} (h : KC U) {t : Tr} (ht : ∀ c ∈ kids t, c ∈ U) : KC (U ++ [t]) := fun u hu c hc => by
  rcases List.mem_append.1 hu with h1 | h1
  · exact List.mem_append_left _ (h u h1 c hc)
  · rw [List.mem_singleton.1 h1] at hc; exact List.mem_append_left _ (ht c hc)
theorem foldl_uni : ∀ {ts : List Tr} {t : Tr} {U : List Tr}, KC U → t ∈ U → (∀ u ∈ ts, u ∈ U) → ∃ U', KC U' ∧ U'.length ≤ U.length + ts.length ∧ U ⊆ U' ∧ ts.foldl (fun a b => Tr.bin 5 0 0 0 a b) t ∈ U'
  | [], _, U, h, ht, _ => ⟨U, h, Nat.le_refl _, fun _ h => h, ht⟩
  | u :: us, t, U, h, ht, hs => by
    have h1 : KC (U ++ [Tr.bin 5 0 0 0 t u]) := h.snoc (fun c hc => by
      simp only [kids, List.mem_cons, List.not_mem_nil, or_false] at hc
      rcases hc with rfl | rfl
      · exact ht
      · exact hs _ (by simp))
    obtain ⟨U', k1, k2, k3, k4⟩ := foldl_uni (ts := us) h1 (by simp : Tr.bin 5 0 0 0 t u ∈ U ++ [Tr.bin 5 0 0 0 t u]) (fun v hv => List.mem_append_left _ (hs v (by simp [hv])))
    refine ⟨U', k1, ?_, fun x hx => k3 (List.mem_append_left _ hx), by rw [List.foldl_cons]; exact k4⟩
    rw [List.length_append, List.length_singleton] at k2
    rw [List.length_cons]; omega
theorem conj_uni {ts : List Tr} {U : List Tr} (h : KC U) (h0 : Tr.leaf 1 0 0 0 ∈ U) (hs : ∀ u ∈ ts, u ∈ U) (hl : ts.length ≤ 5) : ∃ U', KC U' ∧ U'.length ≤ U.length + 4 ∧ U ⊆ U' ∧ conjT ts ∈ U' := by
  cases ts with
  | nil => exact ⟨U, h, by omega, fun _ h => h, h0⟩
  | cons t ts =>
    obtain ⟨U', k1, k2, k3, k4⟩ := foldl_uni (ts := ts) h (hs t (by simp)) (fun u hu => hs u (by simp [hu]))
    rw [List.length_cons] at hl
    exact ⟨U', k1, by omega, k3, k4⟩
abbrev Mm := List ((Int × Int) × FV)
abbrev mq : Int × Int → Int × Int → Bool := fun a b => a.1 == b.1 && a.2 == b.2
theorem mget_mem {ν : Type} : ∀ {L : List ((Int × Int) × ν)} {k : Int × Int} {v : ν}, mget mq L k = some v → (k, v) ∈ L
  | [], _, _, h => by cases h
  | (a, b) :: L, k, v, h => by
    rw [mget] at h
    split at h
    · rename_i hq
      have : a = k := by
        simp only [mq, Bool.and_eq_true, beq_iff_eq] at hq
        exact Prod.ext hq.1.symm hq.2.symm
      cases h; rw [this]; simp
    · exact List.mem_cons_of_mem _ (mget_mem h)
theorem mget_nomem {ν : Type} : ∀ {L : List ((Int × Int) × ν)} {k : Int × Int}, mget mq L k = none ↔ k ∉ L.map (·.1)
  | [], _ => by simp [mget]
  | (a, b) :: L, k => by
    rw [mget]
    split
    · rename_i hq
      have : a = k := by
        simp only [mq, Bool.and_eq_true, beq_iff_eq] at hq
        exact Prod.ext hq.1.symm hq.2.symm
      simp [this]
    · rename_i hq
      have hne : k ≠ a := by
        rintro rfl; exact hq (by simp [mq])
      rw [mget_nomem, List.map_cons, List.mem_cons, not_or]
      exact ⟨fun h => ⟨hne, h⟩, fun h => h.2⟩
def allP (n : Nat) : List (Int × Int) := (List.range n).flatMap (fun v : Nat => (List.range n).map (fun w : Nat => ((v : Int), (w : Int))))
theorem allP_len (n : Nat) : (allP n).length = n * n := by
  have key : ∀ l : List Nat, (l.map (fun _ => n)).sum = l.length * n := fun l => by
    induction l with
    | nil => simp
    | cons a l ih => rw [List.map_cons, List.sum_cons, ih, List.length_cons, Nat.succ_mul, Nat.add_comm]
  have := key (List.range n)
  rw [List.length_range] at this
  simpa [allP, List.length_flatMap] using this
theorem mem_allP {n v w : Nat} (hv : v < n) (hw : w < n) : ((v : Int), (w : Int)) ∈ allP n := by
  simp only [allP, List.mem_flatMap, List.mem_range, List.mem_map]
  exact ⟨v, hv, w, hw, rfl⟩
section
variable {n : Nat} {val : List W64} {rel : List (List W64)}
/-- a formula for a pair, or none since it is too long -/
def Fo (n : Nat) (val : List W64) (rel : List (List W64)) (v w k : Nat) (f : List NV) : Prop := (f = [] ∧ 5 < n) ∨ ∃ t, TellT n val rel v w k t ∧ f = bT t ∧ f ≠ []
structure Uni (U : List Tr) (L : Mm) : Prop where
  kc : KC U
  top : Tr.leaf 1 0 0 0 ∈ U
  ent : ∀ e ∈ L, ∀ t, t.ok → e.2.f = bT t → e.2.f ≠ [] → t ∈ U
structure Memo (n : Nat) (val : List W64) (rel : List (List W64)) (L : Mm) : Prop where
  nd : (L.map (·.1)).Nodup
  ent : ∀ e ∈ L, ∃ v w k : Nat, e.1 = ((v : Int), (w : Int)) ∧ v < n ∧ w < n ∧ dst n val rel v w = some k ∧ Fo n val rel v w k e.2.f
  uni : n ≤ 5 → ∃ U, Uni U L ∧ U.length ≤ 6 * L.length + 1
theorem bT_inj {s t : Tr} (hs : s.ok) (ht : t.ok) (h : bT s = bT t) (hne : bT s ≠ []) : s = t := by
  have h1 : ¬ 200 < (canT s).length := fun hl => hne (bT_nil.2 hl)
  have h2 : ¬ 200 < (canT t).length := fun hl => hne (by rw [h]; exact bT_nil.2 hl)
  rw [bT_ok h1, bT_ok h2] at h
  rw [← topT_canT hs.wf, h, topT_canT ht.wf]
theorem Memo.nil : Memo n val rel [] := ⟨List.nodup_nil, fun _ h => (by cases h), fun _ => ⟨[.leaf 1 0 0 0], ⟨fun t ht c hc => (by rw [List.mem_singleton.1 ht] at hc; cases hc), by simp, fun _ h => (by cases h)⟩, by simp⟩⟩
theorem Memo.len {L : Mm} (h : Memo n val rel L) {k : Int × Int} (hk : k ∉ L.map (·.1)) (hp : k ∈ allP n) : L.length + 1 ≤ n * n := by
  have hn : (k :: L.map (·.1)).Nodup := List.nodup_cons.2 ⟨hk, h.nd⟩
  have hs : k :: L.map (·.1) ⊆ allP n := fun x hx => by
    rcases List.mem_cons.1 hx with rfl | hx
    · exact hp
    · obtain ⟨e, he, rfl⟩ := List.mem_map.1 hx
      obtain ⟨v, w, j, h1, h2, h3, _⟩ := h.ent e he
      rw [h1]; exact mem_allP h2 h3
  have := hn.length_le_of_subset hs
  rw [allP_len] at this
  simpa using this
/-- what is known of a conjunction -/
def AllP (n : Nat) (val : List W64) (rel : List (List W64)) (x k : Nat) (ys : List Nat) (L : Mm) (f : List NV) : Prop :=
  (f = [] ∧ 5 < n) ∨ ∃ ts, TellL n val rel x k ys ts ∧ f = bT (conjT ts) ∧ ∀ U, Uni U L → ys.length ≤ 5 → n ≤ 5 → ∃ U', Uni U' L ∧ U'.length ≤ U.length + 4 ∧ conjT ts ∈ U'
theorem Uni.mono {U U' : List Tr} {L : Mm} (h : Uni U L) (hk : KC U') (hs : U ⊆ U') : Uni U' L := ⟨hk, hs h.top, fun e he t ht h1 h2 => hs (h.ent e he t ht h1 h2)⟩
theorem Uni.snoc {U : List Tr} {L : Mm} (h : Uni U L) {t : Tr} (ht : ∀ c ∈ kids t, c ∈ U) : Uni (U ++ [t]) L := h.mono (h.kc.snoc ht) (fun _ hx => List.mem_append_left _ hx)
/-- the parts of a conjunction stand in the memo -/
theorem allP_of {x k : Nat} {ys : List Nat} {L : Mm} {ts : List Tr} (h : TellL n val rel x k ys ts) (hm : ∀ t ∈ ts, bT t ≠ [] ∧ ∃ e ∈ L, e.2.f = bT t) : AllP n val rel x k ys L (bldAll (ts.map bT)) := by
  refine .inr ⟨ts, h, bldAll_bT h.ok, fun U hU hy _ => ?_⟩
  obtain ⟨U', h1, h2, h3, h4⟩ := conj_uni hU.kc hU.top (fun t ht => by
    obtain ⟨h5, e, he, h6⟩ := hm t ht
    exact hU.ent e he t (h.ok t ht) h6 (by rw [h6]; exact h5)) (by rw [h.1]; exact hy)
  exact ⟨U', hU.mono h1 h3, h2, h4⟩
/-- what is known of a formula that is made -/
def MakeP (n : Nat) (val : List W64) (rel : List (List W64)) (v w k : Nat) (L : Mm) (f : List NV) : Prop :=
  (f = [] ∧ 5 < n) ∨ ∃ t, TellT n val rel v w k t ∧ f = bT t ∧ (n ≤ 5 → ∀ U, Uni U L → ∃ U', Uni U' L ∧ U'.length ≤ U.length + 6 ∧ t ∈ U')
/-- the memo with one formula more -/
theorem Memo.add {L : Mm} (h : Memo n val rel L) {v w k : Nat} (hv : v < n) (hw : w < n) (hd : dst n val rel v w = some k) (hk : ((v : Int), (w : Int)) ∉ L.map (·.1)) {fv : FV} (hm : MakeP n val rel v w k L fv.f) : Memo n val rel (L ++ [(((v : Int), (w : Int)), fv)]) ∧ Fo n val rel v w k fv.f := by
  have hlen := h.len hk (mem_allP hv hw)
  have hfo : Fo n val rel v w k fv.f := by
    by_cases h0 : fv.f = []
    · rcases hm with h1 | ⟨t, h1, h2, h3⟩
      · exact .inl h1
      · refine .inl ⟨h0, Classical.byContradiction (fun hc => ?_)⟩
        obtain ⟨U, hU, hUl⟩ := h.uni (by omega)
        obtain ⟨U', k1, k2, k3⟩ := h3 (by omega) U hU
        have := k1.kc.len k3
        rw [h2, bT_nil] at h0
        have hnn : n * n ≤ 5 * 5 := Nat.mul_le_mul (by omega) (by omega)
        omega
    · rcases hm with h1 | ⟨t, h1, h2, h3⟩
      · exact absurd h1.1 h0
      · exact .inr ⟨t, h1, h2, h0⟩
  refine ⟨⟨?_, ?_, ?_⟩, hfo⟩
  · rw [List.map_append, List.nodup_append]
    exact ⟨h.nd, by simp, fun a ha b hb => by
      rw [List.map_singleton, List.mem_singleton] at hb
      rw [hb]; rintro rfl; exact hk ha⟩
  · intro e he
    rcases List.mem_append.1 he with he | he
    · exact h.ent e he
    · rw [List.mem_singleton.1 he]; exact ⟨v, w, k, rfl, hv, hw, hd, hfo⟩
  · intro h5
    rcases hm with h1 | ⟨t, h1, h2, h3⟩
    · exact absurd h1.2 (by omega)
    · obtain ⟨U, hU, hUl⟩ := h.uni h5
      obtain ⟨U', k1, k2, k3⟩ := h3 h5 U hU
      refine ⟨U', ⟨k1.kc, k1.top, fun e he s hs e1 e2 => ?_⟩, by rw [List.length_append, List.length_singleton]; omega⟩
      rcases List.mem_append.1 he with he | he
      · exact k1.ent e he s hs e1 e2
      · rw [List.mem_singleton.1 he] at e1 e2
        dsimp only at e1 e2
        rw [← bT_inj h1.ok hs (by rw [← h2]; exact e1) (by rw [← h2]; exact e2)]
        exact k3
end
end Go.Proofs.Wit
namespace Go.Proofs.Wit
/-! rewriting of formulas by rules, from the parts up -/
abbrev Rul := Int → Int → Int → Int → Tr → Tr → Tr
def mkQ : Rul := fun op i e g a b => mkT ⟨op, i, e, g, 0, 0⟩ a b
theorem usX_of_Y {op : Int} (h : usX op = false) : usY op = false := by
  cases e : usY op with
  | false => rfl
  | true => exact absurd ((usY_X e).symm.trans h) (by decide)
/-! simplification -/
def cT (o : Int) : Tr := .leaf o 0 0 0
def isT : Tr → Int → Bool
  | .leaf op _ _ _, o => op == o
  | _, _ => false
def strT : Tr → Option Tr
  | .un op _ _ _ a => if op = 4 then some a else none
  | _ => none
def ntT (t : Tr) : Tr := .un 4 0 0 0 t
def negT (t : Tr) : Tr := (strT t).getD (ntT t)
def oppT (a b : Tr) : Bool := strT a == some b || strT b == some a
def jointT (op i e g : Int) (a b : Tr) (ne dm : Int) : Tr :=
  if (isT a dm || isT b dm || (oppT a b && !isT a ne && !isT b ne)) = true then cT dm
  else if isT a ne = true then b else if (isT b ne || a == b) = true then a else mkQ op i e g a b
def condT (a b : Tr) : Tr :=
  if (isT a 2 || isT b 1 || a == b) = true then cT 1 else if isT a 1 = true then b else if isT b 2 = true then negT a else mkQ 7 0 0 0 a b
def equT (a b : Tr) : Tr :=
  if (a == b) = true then cT 1 else if oppT a b = true then cT 2 else if isT a 1 = true then b else if isT b 1 = true then a
  else if isT a 2 = true then negT b else if isT b 2 = true then negT a else mkQ 8 0 0 0 a b
def simT : Rul := fun op i e g a b =>
  if op = 4 then (if isT a 1 = true then cT 2 else if isT a 2 = true then cT 1 else negT a)
  else if op = 5 then jointT op i e g a b 1 2
  else if op = 6 then jointT op i e g a b 2 1
  else if op = 7 then condT a b
  else if op = 8 then equT a b
  else if op = 10 then (if isT a 2 = true then cT 2 else mkQ op i e g a b)
  else if op = 16 then (if (isT a 1 && !isT b 1) = true then b else if (isT a 2 || isT b 1) = true then cT 1 else mkQ op i e g a b)
  else if op = 13 ∨ op = 14 then (if (isT a 2 || isT b 1) = true then cT 1 else mkQ op i e g a b)
  else if op = 9 ∨ op = 11 ∨ op = 12 ∨ op = 15 ∨ op = 17 then (if isT a 1 = true then cT 1 else mkQ op i e g a b)
  else mkQ op i e g a b
/-- what the rules of simplification give -/
inductive SimC (op i e g : Int) (a b : Tr) : Tr → Prop
  | c1 : SimC op i e g a b (cT 1)
  | c2 : SimC op i e g a b (cT 2)
  | a (h : usX op = true) : SimC op i e g a b a
  | b (h : usY op = true) : SimC op i e g a b b
  | sa (h : usX op = true) (c : Tr) (h : strT a = some c) : SimC op i e g a b c
  | sb (h : usY op = true) (c : Tr) (h : strT b = some c) : SimC op i e g a b c
  | na (h : usX op = true) (h0 : strT a = none) (h1 : isT a 1 = false) (h2 : isT a 2 = false) : SimC op i e g a b (ntT a)
  | nb (h : usY op = true) (h0 : strT b = none) (h1 : isT b 1 = false) (h2 : isT b 2 = false) : SimC op i e g a b (ntT b)
  | mk (h : simT op i e g a b = mkQ op i e g a b) : SimC op i e g a b (mkQ op i e g a b)
end Go.Proofs.Wit
namespace Go.Proofs.Wit
open Go Go.RowKit
/-! a maker of formulas in memory: a struct, a map that is turned, lists that are not -/
structure IV where
  a : Option Addr
  c : Nat
  xs : List Int
def IV.v (x : IV) : Value := .slice x.a x.xs.length x.c
theorem notIn_map {w : World} {mD : Nat} {es : Array MapEntry} {k : Nat} (hm : w.heap[mD]? = some (.map es k)) {a : Option Addr} {xs : List Value} (h : Sl w a xs) (h0 : 0 < xs.length) : ∀ b o, a = some ⟨b, o, none⟩ → b ∉ [mD] := fun b o e hb => by
  rw [List.mem_singleton] at hb
  subst hb
  have := h.cell 0 h0
  subst e
  unfold adr World.cell? at this
  simp only [Option.getD_some, hm] at this
  cases this
theorem Sl.exM {w w' : World} {mD : Nat} {es : Array MapEntry} {k : Nat} (hm : w.heap[mD]? = some (.map es k)) {a : Option Addr} {xs : List Value} (h : Sl w a xs) (e : Ex [mD] w w') : Sl w' a xs := by
  by_cases h0 : 0 < xs.length
  · exact h.ex e (notIn_map hm h h0)
  · rw [List.eq_nil_of_length_eq_zero (by omega : xs.length = 0)]; exact Sl.nil _ _
theorem MV.At.exM {w w' : World} {mD : Nat} {es : Array MapEntry} {k : Nat} (hm : w.heap[mD]? = some (.map es k)) {m : MV} (h : m.At w) (e : Ex [mD] w w') : m.At w' :=
  ⟨Sl.exM hm h.rel e, fun r hr => ⟨Sl.exM hm (h.row r hr).at_ e, (h.row r hr).len, (h.row r hr).cap⟩, Sl.exM hm h.val e, h.lr, h.lv, h.cr, h.cv⟩
theorem FA.exM {w w' : World} {mD : Nat} {es : Array MapEntry} {k : Nat} (hm : w.heap[mD]? = some (.map es k)) {a : Option Addr} {f : List NV} (h : FA w a f) (e : Ex [mD] w w') : FA w' a f := ⟨Sl.exM hm h.at_ e⟩
abbrev mkrCs (m : MV) (mD : Nat) (pa : Option Addr) (pl pc : Nat) : Array Value := #[.int .i64 m.n, .slice m.va m.val.length m.vc, .slice m.ra m.rows.length m.rc, .map (some mD), .slice pa pl pc]
structure MkAt (e : TypeId) (w : World) (mD bk : Nat) (m : MV) (pa : Option Addr) (pc : Nat) (ps : List IV) : Prop where
  blk : w.heap[bk]? = some (.cells (mkrCs m mD pa ps.length pc) e (0, 0))
  mod : m.At w
  pre : Sl w pa (ps.map IV.v)
  row : ∀ p ∈ ps, SlI w p.a p.xs
theorem MkAt.ne {e : TypeId} {w : World} {mD bk : Nat} {m : MV} {pa : Option Addr} {pc : Nat} {ps : List IV} (h : MkAt e w mD bk m pa pc ps) {es : Array MapEntry} {k : Nat} (hm : w.heap[mD]? = some (.map es k)) : bk ∉ [mD] := fun hb => by
  rw [List.mem_singleton] at hb; subst hb
  have := h.blk
  rw [hm] at this; cases this
theorem MkAt.ex {e : TypeId} {w w' : World} {mD bk : Nat} {m : MV} {pa : Option Addr} {pc : Nat} {ps : List IV} (h : MkAt e w mD bk m pa pc ps) {es : Array MapEntry} {k : Nat} (hm : w.heap[mD]? = some (.map es k)) (x : Ex [mD] w w') : MkAt e w' mD bk m pa pc ps :=
  ⟨by rw [x.block bk (Array.getElem?_eq_some_iff.1 h.blk).1 (h.ne hm)]; exact h.blk, h.mod.exM hm x, Sl.exM hm h.pre x, fun p hp => Sl.exM hm (h.row p hp) x⟩
/-- the partitions of a maker: after 0, 1, .. rounds -/
def PsIs (n : Nat) (val : List W64) (rel : List (List W64)) (ps : List IV) : Prop := ps.length = dep n val rel + 1 ∧ ∀ (k : Nat) (h : k < ps.length), ps[k].xs = psq n val rel k
/-- a formula lies in known blocks -/
def FV.In (t : TypeId) (H : Hl) (x : FV) : Prop := ∃ q sp, (q, obN t x.f sp) ∈ H ∧ x.a = q.map (fun b => ⟨b, 0, none⟩) ∧ (q = none → x.f.length = 0 ∧ x.c = 0) ∧ (x.f.flatMap NV.cells ++ sp).length = x.c * 6
theorem FV.In.mono {t : TypeId} {H H' : Hl} {x : FV} (h : x.In t H) (hs : H ⊆ H') : x.In t H' := by
  obtain ⟨q, sp, h1, h2⟩ := h; exact ⟨q, sp, hs h1, h2⟩
theorem FV.In.at {t : TypeId} {w0 w : World} {S : List Nat} {h : Hl} {Y : List (Nat × Obj)} {x : FV} (g : x.In t h) (s : St w0 S w h Y) : FA w x.a x.f := by
  obtain ⟨q, sp, h1, h2, h3, _⟩ := g
  obtain ⟨j, hj⟩ := List.mem_iff_getElem?.1 h1
  rw [h2]
  exact faAt s j hj (fun e => (h3 e).1)
/-- the caller's own list -/
theorem FV.In.own {t : TypeId} {w0 w : World} {h : Hl} {Y : List (Nat × Obj)} {x : FV} (g : x.In t h) (s : St w0 [] w h Y) : OwnN t w0 w x.v x.f := by
  obtain ⟨q, sp, h1, h2, h3, h4⟩ := g
  refine ⟨q, x.c, sp, ?_, h3, h4, fun b e => ?_⟩
  · cases q with
    | none => rw [FV.v, h2]; rfl
    | some b => rw [FV.v, h2]; rfl
  · obtain ⟨k1, _, k2⟩ := s.own _ h1 b e
    exact ⟨k2.resolve_right (by simp), k1⟩
end Go.Proofs.Wit
namespace Go.Proofs.Wit
open Go Go.RowKit
theorem Ex.cellS {w w' : World} {S : List Nat} (e : Ex S w w') {b j : Nat} (hb : b ∉ S) {cs : Array Value} {t : TypeId} {fr : Nat × Nat} {v : Value} (h : w.heap[b]? = some (.cells cs t fr)) (hv : cs[j]? = some v) : w'.cell? ⟨b, j, none⟩ = some v := by
  have h1 := e.block b (Array.getElem?_eq_some_iff.1 h).1 hb
  rw [h] at h1
  unfold World.cell?
  simp only [h1]
  exact hv
section
variable {P : Program} {t : TypeId} {x y : W64}
theorem bGtUV {v : Bool} (h : v = decide (y.toNat < x.toNat)) : Bin P .gtr t (U x) (U y) (.bool v) := by
  refine bU _ ?_
  rw [h]
  show pure (Value.bool (decide ((x.toNat : Int) > (y.toNat : Int)))) = _
  congr 2
  simp only [gt_iff_lt, Int.ofNat_lt]
theorem bLtUV {v : Bool} (h : v = decide (x.toNat < y.toNat)) : Bin P .lss t (U x) (U y) (.bool v) := by
  refine bU _ ?_
  rw [h]
  show pure (Value.bool (decide ((x.toNat : Int) < (y.toNat : Int)))) = _
  congr 2
  simp only [Int.ofNat_lt]
end
theorem bit1 {s : W64} {i : Nat} : ((s >>> i) &&& 1#64).toNat = if s.getLsbD i = true then 1 else 0 := by
  have h : (s >>> i) &&& 1#64 = if s.getLsbD i = true then 1#64 else 0#64 := by
    apply BitVec.eq_of_getLsbD_eq
    intro k hk
    rw [BitVec.getLsbD_and, BitVec.getLsbD_ushiftRight]
    by_cases h0 : k = 0
    · subst h0
      rw [Nat.add_zero]
      cases s.getLsbD i <;> simp
    · rw [show (1#64).getLsbD k = false from by rw [BitVec.getLsbD_one]; simp [h0]]
      cases s.getLsbD i <;> simp [BitVec.getLsbD_one, h0]
  rw [h]; split <;> rfl
theorem bit_gt {s : W64} {v x : Nat} (h : decide (((s >>> x) &&& 1#64).toNat < ((s >>> v) &&& 1#64).toNat) = true) : s.getLsbD v = true ∧ s.getLsbD x = false := by
  rw [bit1, bit1] at h
  revert h
  cases s.getLsbD v <;> cases s.getLsbD x <;> simp
theorem bit_ng {s : W64} {v x : Nat} (h : decide (((s >>> x) &&& 1#64).toNat < ((s >>> v) &&& 1#64).toNat) = false) (h2 : decide (((s >>> v) &&& 1#64).toNat < ((s >>> x) &&& 1#64).toNat) = false) : s.getLsbD v = s.getLsbD x := by
  rw [bit1, bit1] at h h2
  revert h h2
  cases s.getLsbD v <;> cases s.getLsbD x <;> simp
theorem MkAt.of {e t : TypeId} {w0 w : World} {S : List Nat} {h : Hl} {Y : List (Nat × Obj)} {mD bk : Nat} {m : MV} {qA : Option Nat} {capA : Nat} {ps : List IV} {spA : List Value} (s : St w0 S w h Y)
    (hb : (some bk, Obj.cells (mkrCs m mD (qA.map (fun b => ⟨b, 0, none⟩)) ps.length capA) e (0, 0)) ∈ h) (hA : (qA, ob IV.v t ps spA) ∈ h) (hq : qA = none → ps.length = 0) (hps : ∀ p ∈ ps, InS I64 h p.a p.xs) (hm : m.At w) :
    MkAt e w mD bk m (qA.map (fun b => ⟨b, 0, none⟩)) capA ps := by
  refine ⟨(s.own _ hb bk rfl).1, hm, ?_, fun p hp => (hps p hp).sl s⟩
  exact (InS.at hq hA).sl s
/-- the first fact that tells two worlds apart -/
theorem lit_told {n : Nat} {val : List W64} {rel : List (List W64)} (hv : ValM (n : Int) val rel) {v w i : Nat} (hvn : v < n) (hwn : w < n) (hi : i < val.length) (hne : (val.getD i 0#64).getLsbD v ≠ (val.getD i 0#64).getLsbD w) : TellT n val rel v w 0 (litT i ((val.getD i 0#64).getLsbD v)) := by
  have h64 := hv.n64
  cases e : (val.getD i 0#64).getLsbD v with
  | true =>
    have e2 : (val.getD i 0#64).getLsbD w = false := by cases h : (val.getD i 0#64).getLsbD w <;> simp_all
    exact told_lit hv hvn hwn hi e e2
  | false =>
    have e2 : (val.getD i 0#64).getLsbD w = true := by cases h : (val.getD i 0#64).getLsbD w <;> simp_all
    exact (told_lit hv hwn hvn hi e2 e).dual (by omega) hwn hvn
/-- its list -/
theorem lit_bld {i : Nat} (hi : i < 8) : bldF ⟨3, i, 0, 0, 0, 0⟩ [] = bT (litT i true) ∧ bldF ⟨4, 0, 0, 0, 0, 0⟩ [bldF ⟨3, i, 0, 0, 0, 0⟩ []] = bT (litT i false) := by
  have h1 : bldF ⟨3, i, 0, 0, 0, 0⟩ [] = bT (.leaf 3 i 0 0) := bld0 (n := ⟨3, i, 0, 0, 0, 0⟩) (by decide : 1 ≤ (3 : Int) ∧ (3 : Int) ≤ 21) rfl (fact_ok hi).2.2 rfl rfl
  exact ⟨h1, by rw [h1]; exact bld_un (fact_ok hi) (by decide) rfl rfl rfl⟩
end Go.Proofs.Wit
