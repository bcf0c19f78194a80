/- Laws of walks, for any program, under the conditions that each theorem states. -/
import Derived.Test.YtcljmlnnfdaljaaGreatDoorZ10
namespace Go.Proofs.Wit
open Go Go.RowKit
/-! for the reference of chapter 19 -/
section
variable {P : Program} {t : TypeId}
theorem bRem2 {x : W64} : Bin P .rem t (U x) (U 2#64) (U (x &&& 1#64)) := bU _ (by
  show Op.intDiv .rem .u64 (x.toNat : Int) 2 = _
  unfold Op.intDiv
  rw [if_neg (by decide)]
  show pure (Value.int .u64 ((x.toNat : Int).tmod 2)) = pure (Value.int .u64 ((x &&& 1#64).toNat : Int))
  rw [show (x.toNat : Int).tmod 2 = ((x.toNat % 2 : Nat) : Int) from rfl, BitVec.toNat_and]
  rw [show (1#64 : W64).toNat = 1 from rfl, Nat.and_one_is_mod])
end
theorem add_new {s : W64} {b : Nat} (h : s.getLsbD b = false) : s + 1#64 <<< b = s ||| 1#64 <<< b := by
  apply BitVec.add_eq_or_of_and_eq_zero
  apply eq_of_bits
  intro i hi
  by_cases hb : b < 64
  · rw [BitVec.getLsbD_and, one_bit hb]
    by_cases e : i = b
    · subst e; simp [h]
    · simp [e]
  · simp [hi, show i < b from by omega]
theorem or_old {s : W64} {b : Nat} (h : s.getLsbD b = true) : s ||| 1#64 <<< b = s := by
  apply eq_of_bits
  intro i hi
  rw [BitVec.getLsbD_or, one_bit (bit_lt h)]
  by_cases e : i = b
  · subst e; simp [h]
  · simp [e]
def rchTo (p : List Int) (s : W64) (k : Nat) : W64 := imgU (bitsP p) s k
theorem rchTo_all {p : List Int} {s : W64} : rchTo p s p.length = rch p s := by
  have := imgU_eq (bitsP p) s
  rw [show (bitsP p).length = p.length from by simp [bitsP]] at this
  exact this
theorem rchTo_succ {p : List Int} {s : W64} {k : Nat} (hk : k < p.length) : rchTo p s (k + 1) = if s.getLsbD k = true then rchTo p s k ||| 1#64 <<< p[k].toNat else rchTo p s k := by
  show (if s.getLsbD k = true then rchTo p s k ||| (bitsP p).getD k 0#64 else rchTo p s k) = _
  rw [show (bitsP p).getD k 0#64 = 1#64 <<< p[k].toNat from by simp [bitsP, List.getD_eq_getElem?_getD, hk]]
section
variable {κ : Type} [DecidableEq κ]
/-- going down from i: low is the lowest point above j with the key of i -/
structure Down (key : Nat → κ) (i : Nat) (j : Int) (low : Nat) : Prop where
  lo : j < low
  hi : low ≤ i
  eq : key low = key i
  min : ∀ m : Nat, j < m → m ≤ i → key m = key i → low ≤ m
omit [DecidableEq κ] in
theorem Down.start {key : Nat → κ} {i : Nat} {j : Int} (h : j < i) (h2 : ∀ m : Nat, j < m → m < i → False) : Down key i j i := ⟨h, Nat.le_refl _, rfl, fun m h1 h3 _ => by
  rcases Nat.lt_or_eq_of_le h3 with h4 | h4
  · exact (h2 m h1 h4).elim
  · omega⟩
omit [DecidableEq κ] in
theorem Down.hit {key : Nat → κ} {i : Nat} {j low : Nat} (_h : Down key i j low) (hj : j ≤ i) (hk : key j = key i) : Down key i ((j : Int) - 1) j := ⟨by omega, hj, hk, fun m h1 _ _ => by omega⟩
omit [DecidableEq κ] in
theorem Down.skip {key : Nat → κ} {i : Nat} {j low : Nat} (h : Down key i j low) (hk : key j ≠ key i) : Down key i ((j : Int) - 1) low := ⟨by have := h.lo; omega, h.hi, h.eq, fun m h1 h2 h3 => by
  by_cases e : m = j
  · subst e; exact absurd h3 hk
  · exact h.min m (by omega) h2 h3⟩
theorem Down.led {key : Nat → κ} {i : Nat} {j : Int} {low : Nat} (h : Down key i j low) (hj : j < 0) : led key i = low := by
  obtain ⟨h1, h2, h3⟩ := led_spec key i
  apply Nat.le_antisymm
  · exact h3 low h.eq
  · exact h.min _ (by omega) h1 h2
/-- the keys of the first k points, as lowest points -/
def leds (key : Nat → κ) (k : Nat) : List Int := (List.range k).map (fun i => (Wit.led key i : Int))
theorem leds_len {key : Nat → κ} {k : Nat} : (leds key k).length = k := by simp [leds]
theorem leds_succ {key : Nat → κ} {k : Nat} : leds key (k + 1) = leds key k ++ [(Wit.led key k : Int)] := by simp [leds, List.range_succ]
theorem leds_get {key : Nat → κ} {k i : Nat} (h : i < k) : (leds key k).getD i 0 = (Wit.led key i : Int) := by simp [leds, List.getD_eq_getElem?_getD, h]
end
/-- the keys of a round -/
def rkey (rels : List (List W64)) (p : List Int) (w : Nat) : Int × List W64 := (p.getD w 0, rels.map (fun r => rch p (r.getD w 0#64)))
theorem div_leds {rels : List (List W64)} {p : List Int} : divP p (leds (rkey rels p) p.length) = nxt rels p := by
  unfold divP nxt
  apply ker_congr
  intro i j hi hj
  rw [leds_get hi, leds_get hj]
  show _ ↔ rkey rels p i = rkey rels p j
  rw [Prod.mk.injEq]
  constructor
  · rintro ⟨_, h⟩
    exact led_iff.1 (by omega)
  · intro h
    exact ⟨congrArg Prod.fst h, by rw [led_iff.2 h]⟩
theorem rkey_iff {rels : List (List W64)} {p : List Int} {i j : Nat} : rkey rels p i = rkey rels p j ↔ p.getD i 0 = p.getD j 0 ∧ ∀ r ∈ rels, rch p (r.getD i 0#64) = rch p (r.getD j 0#64) := by
  simp [rkey]
/-- the facts of the first k worlds -/
def fmL (val : List W64) (k : Nat) : List Int := (List.range k).map (fun i => (fm val i : Int))
theorem fmL_len {val : List W64} {k : Nat} : (fmL val k).length = k := by simp [fmL]
theorem fmL_succ {val : List W64} {k : Nat} : fmL val (k + 1) = fmL val k ++ [(fm val k : Int)] := by simp [fmL, List.range_succ]
theorem div_fm {val : List W64} {n : Nat} {rels : List (List W64)} : divP (List.replicate n 0) (fmL val n) = psq n val rels 0 := div_zero
theorem fmTo_succ {val : List W64} {w k : Nat} : fmTo val w (k + 1) = fmTo val w k + (if (val.getD k 0#64).getLsbD w = true then 2 ^ k else 0) := rfl
/-- row k, worlds before j are done -/
structure RowR (va vb : List W64) (ra rb : List (List W64)) (na nb : Nat) (z0 : List W64) (k j : Nat) (z : List W64) (ch : Bool) : Prop where
  turn : TurnZ va vb ra rb na nb z0 z ch k
  done : ch = false → ∀ w, w < j → Rl z k w → matB va vb ra rb z k w = true
section
variable {va vb : List W64} {ra rb : List (List W64)} {na nb k j : Nat} {z0 z : List W64} {ch : Bool}
end
end Go.Proofs.Wit
