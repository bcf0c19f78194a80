/- Laws of a calculus of walks, proved for any program: no condition beyond those that each theorem states. -/
import Derived.Test.YtcljmlnnfdaljaaDoorS21
namespace Go.Proofs.Wit
theorem rch_bit {p : List Int} (hp : OkP p) {s : W64} {b : Nat} : (rch p s).getLsbD b = true ↔ ∃ x, x < p.length ∧ s.getLsbD x = true ∧ p.getD x 0 = (b : Int) := by
  have hl := hp.len
  have hbit : ∀ x, Rl (bitsP p) x b ↔ x < p.length ∧ p.getD x 0 = (b : Int) := fun x => by
    constructor
    · intro h
      have hx := h.dom
      rw [show (bitsP p).length = p.length from by simp [bitsP]] at hx
      obtain ⟨h1, h2, h3⟩ := hp.low x hx
      unfold Rl at h
      rw [show (bitsP p).getD x 0#64 = 1#64 <<< (p.getD x 0).toNat from by simp [bitsP, List.getD_eq_getElem?_getD, hx], one_bit (by omega)] at h
      have : b = (p.getD x 0).toNat := by simpa using h
      exact ⟨hx, by omega⟩
    · rintro ⟨hx, e⟩
      obtain ⟨h1, h2, h3⟩ := hp.low x hx
      unfold Rl
      rw [show (bitsP p).getD x 0#64 = 1#64 <<< (p.getD x 0).toNat from by simp [bitsP, List.getD_eq_getElem?_getD, hx], one_bit (by omega)]
      simp only [decide_eq_true_eq]
      omega
  rw [rch, mapR_bit]
  constructor
  · rintro ⟨x, h1, h2⟩
    obtain ⟨h3, h4⟩ := (hbit x).1 h2
    exact ⟨x, h3, h1, h4⟩
  · rintro ⟨x, h1, h2, h3⟩
    exact ⟨x, h2, (hbit x).2 ⟨h1, h3⟩⟩
section
variable {n : Nat} {val : List W64} {rel : List (List W64)}
end
end Go.Proofs.Wit
namespace Go.Proofs.Wit
open Go Go.RowKit
/-! groups: the meet of the relations of a group -/
section
variable {P : Program} {t : TypeId}
theorem bShrN {x j : Nat} {b : Int} {k : IntKind} (h : b = j) (_hx : x < 9223372036854775808) (hj : j ≤ 64) : Bin P .shr t (.int .i64 x) (.int k b) (.int .i64 ((x / 2 ^ j : Nat) : Int)) := by
  subst h
  refine bin_pure (fun p q => eqg_int _ _ _ _ _ _ _ _) ?_
  show Op.shift .shr .i64 (x : Int) k (j : Int) = _
  unfold Op.shift
  rw [if_neg (by omega), Int.toNat_natCast]
  show pure (Value.int .i64 ((x : Int).fdiv (2 ^ (min j 64)))) = _
  rw [Nat.min_eq_left hj]
  have e1 : ((2 : Int) ^ j) = ((2 ^ j : Nat) : Int) := by norm_cast
  rw [e1, ← Int.ofNat_fdiv]
theorem bAnd1N {x : Nat} (hx : x < 9223372036854775808) : Bin P .and t (.int .i64 x) (.int .i64 1) (.int .i64 ((x % 2 : Nat) : Int)) := bI _ (by
  show Op.intBits .and .i64 (x : Int) 1 = _
  unfold Op.intBits
  have e1 : (BitVec.ofInt 64 (x : Int) &&& BitVec.ofInt 64 1).toNat = x % 2 := by
    rw [ofInt_nat, show BitVec.ofInt 64 1 = BitVec.ofNat 64 1 from rfl, BitVec.toNat_and, BitVec.toNat_ofNat, BitVec.toNat_ofNat, Nat.mod_eq_of_lt (by omega), Nat.mod_eq_of_lt (by omega), Nat.and_one_is_mod]
  show pure (Value.int .i64 (IntKind.i64.wrap ((BitVec.ofInt 64 (x : Int) &&& BitVec.ofInt 64 1).toNat : Int))) = _
  rw [e1, IntWalk.i64_in _ (by omega)])
theorem bRem2N {x : Nat} : Bin P .rem t (.int .i64 x) (.int .i64 2) (.int .i64 ((x % 2 : Nat) : Int)) := bI _ (by
  show Op.intDiv .rem .i64 (x : Int) 2 = _
  unfold Op.intDiv
  rw [if_neg (by decide)]
  rfl)
end
def gb (g k : Nat) : Nat := g / 2 ^ k % 2
theorem gb_cases (g k : Nat) : gb g k = 0 ∨ gb g k = 1 := by unfold gb; omega
def meetW (n : Nat) (rel : List (List W64)) (g w : Nat) (k : Nat) : W64 := upTo (fun a (o : W64) => if gb g a = 1 then o &&& (rel.getD a []).getD w 0#64 else o) (allW n) k
def meetTo (n : Nat) (rel : List (List W64)) (g k : Nat) : List W64 := (List.range n).map (fun w => meetW n rel g w k)
def meetL (n : Nat) (rel : List (List W64)) (g : Nat) : List W64 := meetTo n rel g rel.length
section
variable {n : Nat} {rel : List (List W64)} {g k w : Nat}
theorem meetW_succ : meetW n rel g w (k + 1) = if gb g k = 1 then meetW n rel g w k &&& (rel.getD k []).getD w 0#64 else meetW n rel g w k := rfl
theorem meetW_none (h : ∀ a, a < k → gb g a = 0) : meetW n rel g w k = allW n := by
  induction k with
  | zero => rfl
  | succ k ih =>
    rw [meetW_succ, if_neg (by rw [h k (Nat.lt_succ_self k)]; decide)]
    exact ih (fun a ha => h a (Nat.lt_succ_of_lt ha))
theorem meetTo_len : (meetTo n rel g k).length = n := by simp [meetTo]
theorem meetTo_get (hw : w < n) : (meetTo n rel g k).getD w 0#64 = meetW n rel g w k := by simp [meetTo, List.getD_eq_getElem?_getD, hw]
theorem meetTo_skip (h : gb g k = 0) : meetTo n rel g (k + 1) = meetTo n rel g k := by
  unfold meetTo
  congr 1
  funext w
  rw [meetW_succ, if_neg (by rw [h]; decide)]
theorem and_all {s : W64} (hn : n ≤ 64) (h : ∀ i, s.getLsbD i = true → i < n) : allW n &&& s = s := by
  apply eq_of_bits
  intro i hi
  rw [BitVec.getLsbD_and, allW_bit hn hi]
  cases hb : s.getLsbD i with
  | false => simp
  | true => simp [h i hb]
theorem meetTo_first (hn : n ≤ 64) (h0 : ∀ a, a < k → gb g a = 0) (h1 : gb g k = 1) {r : List W64} (hr : rel.getD k [] = r) (hl : r.length = n) (hv : Val r) : meetTo n rel g (k + 1) = r := by
  apply List.ext_getElem (by simp [meetTo, hl])
  intro i e1 e2
  have hi : i < n := by omega
  have e3 : (meetTo n rel g (k + 1))[i] = meetW n rel g i (k + 1) := by simp [meetTo]
  rw [e3, meetW_succ, if_pos h1, meetW_none h0, hr]
  have e4 : r.getD i 0#64 = r[i] := by simp [List.getD_eq_getElem?_getD, e2]
  rw [and_all hn (fun j hj => by have := hv.lt i j hj; omega), e4]
theorem meetTo_step (h1 : gb g k = 1) {r : List W64} (hr : rel.getD k [] = r) : flm (fun w x => x &&& r.getD w 0#64) (meetTo n rel g k) n = meetTo n rel g (k + 1) := by
  apply List.ext_getElem (by simp [meetTo, flm])
  intro i e1 e2
  have hi : i < n := by simpa [meetTo] using e2
  have e3 : (meetTo n rel g (k + 1))[i] = meetW n rel g i (k + 1) := by simp [meetTo]
  rw [e3, meetW_succ, if_pos h1, hr]
  simp [flm, meetTo, hi]
theorem flm_next {f : Nat → W64 → W64} {xs : List W64} {j : Nat} (hj : j < xs.length) : (flm f xs j).set j (f j ((flm f xs j).getD j 0#64)) = flm f xs (j + 1) := by
  rw [flm_get hj, if_neg (Nat.lt_irrefl j)]
  exact flm_succ hj
theorem meetW_lt (hn : n ≤ 64) : ∀ k i, (meetW n rel g w k).getLsbD i = true → i < n
  | 0, i, h => by
    rw [show meetW n rel g w 0 = allW n from rfl, allW_bit hn (bit_lt h)] at h
    simpa using h
  | k + 1, i, h => by
    rw [meetW_succ] at h
    split at h
    · rw [BitVec.getLsbD_and, Bool.and_eq_true] at h
      exact meetW_lt hn k i h.1
    · exact meetW_lt hn k i h
theorem meetTo_val (hn : n ≤ 64) : Val (meetTo n rel g k) := ⟨by rw [meetTo_len]; exact hn, fun u v h => by
  have hu := h.dom
  rw [meetTo_len] at hu ⊢
  unfold Rl at h
  rw [meetTo_get hu] at h
  exact meetW_lt hn k v h⟩
end
/-- what WithGroups says -/
def gbad (rl : Nat) (gs : List Int) : Bool := gs.any (fun g => decide (g < 1) || decide ((2 ^ rl : Nat) ≤ g))
def grpE (n : Int) (val : List W64) (rel : List (List W64)) (gs : List Int) : Int :=
  if checkM n val rel ≠ 0 then checkM n val rel else if 15 < gs.length then 8 else if gbad rel.length gs = true then 2 else 0
def grpR (n : Nat) (rel : List (List W64)) (gs : List Int) : List (List W64) := gs.map (fun g => meetL n rel g.toNat)
def grpP (n : Int) (val : List W64) (rel : List (List W64)) (gs : List Int) : List Int :=
  if grpE n val rel gs ≠ 0 then [] else psq n.toNat val (rel ++ grpR n.toNat rel gs) (dep n.toNat val (rel ++ grpR n.toNat rel gs))
theorem grpP_bad {n : Int} {val : List W64} {rel : List (List W64)} {gs : List Int} (h : grpE n val rel gs ≠ 0) : grpP n val rel gs = [] := if_pos h
theorem grpP_ok {n : Int} {val : List W64} {rel : List (List W64)} {gs : List Int} (h : grpE n val rel gs = 0) : grpP n val rel gs = psq n.toNat val (rel ++ grpR n.toNat rel gs) (dep n.toNat val (rel ++ grpR n.toNat rel gs)) := if_neg (by simp [h])
theorem gbad_hit {rl : Nat} {gs : List Int} {k : Nat} (hk : k < gs.length) (h : gs[k] < 1 ∨ (2 ^ rl : Nat) ≤ gs[k]) : gbad rl gs = true := by
  rw [gbad, List.any_eq_true]
  exact ⟨gs[k], List.getElem_mem hk, by rw [Bool.or_eq_true, decide_eq_true_iff, decide_eq_true_iff]; exact h⟩
theorem gbad_none {rl : Nat} {gs : List Int} (h : ∀ (k : Nat) (hk : k < gs.length), 1 ≤ gs[k] ∧ gs[k] < (2 ^ rl : Nat)) : gbad rl gs = false := by
  rw [gbad, List.any_eq_false]
  intro g hg
  obtain ⟨k, hk, rfl⟩ := List.mem_iff_getElem.1 hg
  have := h k hk
  rw [Bool.or_eq_true, decide_eq_true_iff, decide_eq_true_iff]
  omega
theorem grpR_snoc {n : Nat} {rel : List (List W64)} {gs : List Int} {k : Nat} (hk : k < gs.length) : grpR n rel (gs.take (k + 1)) = grpR n rel (gs.take k) ++ [meetL n rel gs[k].toNat] := by
  rw [grpR, List.take_succ_eq_append_getElem hk, List.map_append]; rfl
theorem gb_none {g : Nat} : ∀ k, (∀ a, a < k → gb g a = 0) → g % 2 ^ k = 0
  | 0, _ => by simp [Nat.mod_one]
  | k + 1, h => by
    have h1 := gb_none k (fun a ha => h a (Nat.lt_succ_of_lt ha))
    have h2 := h k (Nat.lt_succ_self k)
    unfold gb at h2
    rw [Nat.mod_pow_succ, h1, h2, Nat.mul_zero]
theorem gb_some {g k : Nat} (h1 : 1 ≤ g) (h2 : g < 2 ^ k) : ¬ ∀ a, a < k → gb g a = 0 := fun h => by
  have := gb_none k h
  rw [Nat.mod_eq_of_lt h2] at this
  omega
theorem slrAt {w0 w : World} {S : List Nat} {h : Hl} {Y : List (Nat × Obj)} (s : St w0 S w h Y) (j : Nat) {q : Option Nat} {xs : List Row} {e : TypeId} {sp : List Value} (hj : h[j]? = some (q, ob Row.v e xs sp)) (hq : q = none → xs.length = 0) : SlR w (q.map (fun b => ⟨b, 0, none⟩)) xs := by
  cases q with
  | none => rw [List.eq_nil_of_length_eq_zero (hq rfl)]; exact Sl.nil _ _
  | some b => exact Sl.blk (s.get hj)
section
variable {P : Program} {r : Option Nat} {f : FuncId} {R : Value → World → Prop} {w0 : World} {S : List Nat} {Y : List (Nat × Obj)} {n : Nat} {k : List Item} {l : Fl} {h : Hl}
variable {ops : Array Oper} {i d : Nat} {rest : List Nat} {ty : TypeId} {pos : String} {aft : Array Edge} {g : Option (Nat × Bool)}
end
end Go.Proofs.Wit
