/- Laws of walks, for any program, under the conditions that each theorem states. -/
import Derived.Test.YthojdcaojjmoaaaDoorA08
import Derived.Test.YthojdcaojjmoaaaDoorA31
import Derived.Test.YthojdcaojjmoaaaDoorA27
namespace Go.Proofs.Wit
open Go Go.RowKit
/-! classes of worlds by keys of bits -/
theorem bLeV {P : Program} {t : TypeId} {a b : Int} {v : Bool} {k : IntKind} (e : decide (a ≤ b) = v) : Bin P .leq t (.int k a) (.int k b) (.bool v) := e ▸ bLe
def bt (s : W64) (w : Nat) : UInt8 := if s.getLsbD w then 1 else 0
theorem shr_one (s : W64) (w : Nat) : (s >>> w) &&& 1#64 = if s.getLsbD w then 1#64 else 0#64 := by
  apply BitVec.eq_of_getLsbD_eq
  intro i hi
  rw [BitVec.getLsbD_and, BitVec.getLsbD_ushiftRight, BitVec.getLsbD_one]
  by_cases h0 : i = 0
  · subst h0; cases h : s.getLsbD w <;> simp
  · cases h : s.getLsbD w <;> simp [h0, BitVec.getLsbD_one]
theorem bt_wrap (s : W64) (w : Nat) : IntKind.u8.wrap (((s >>> w) &&& 1#64).toNat : Int) = ((bt s w).toNat : Int) := by
  rw [shr_one, bt]
  cases s.getLsbD w <;> rfl
theorem bt_val (s : W64) (w : Nat) : (((s >>> w) &&& 1#64).toNat : Int) = ((bt s w).toNat : Int) := by
  rw [shr_one, bt]
  cases s.getLsbD w <;> rfl
theorem cBt {P : Program} {a b : TypeId} {c : TypeDesc} (x : W64) (w : Nat) (hs : P.underlying a = some c) (ht : P.underlying b = some (.int .u8)) : Cnv P a b (U ((x >>> w) &&& 1#64)) (I8 (bt x w)) := by
  show Cnv P a b (.int .u64 (((x >>> w) &&& 1#64).toNat : Int)) (.int .u8 ((bt x w).toNat : Int))
  rw [← bt_val]
  exact cInt hs ht (by rw [bt_wrap, bt_val])
theorem bt_iff {s : W64} {i j : Nat} : bt s i = bt s j ↔ s.getLsbD i = s.getLsbD j := by
  unfold bt
  cases s.getLsbD i <;> cases s.getLsbD j <;> simp
def keyB (sets : List W64) (w : Nat) : List UInt8 := sets.map (fun s => bt s w)
theorem keyB_iff {sets : List W64} {i j : Nat} : keyB sets i = keyB sets j ↔ ∀ s ∈ sets, s.getLsbD i = s.getLsbD j := by
  unfold keyB
  constructor
  · intro h s hs
    have := List.map_inj_left.1 h s hs
    exact bt_iff.1 this
  · intro h
    exact List.map_congr_left (fun s hs => bt_iff.2 (h s hs))
theorem keyB_prt {sets : List W64} {w : Nat} : prt sets.length (fun j => bt (sets.getD j 0#64) w) 0 sets.length = keyB sets w := by
  rw [prt_all]
  unfold keyB
  apply List.ext_getElem (by simp)
  intro i h1 h2
  simp only [List.getElem_map, List.getElem_range]
  rw [List.length_map, List.length_range] at h1
  simp [List.getD_eq_getElem?_getD, h1]
/-- the first worlds of the keys, and what is written, after k worlds -/
structure Cls (ks : Nat → List UInt8) (n : Nat) (L : List (List UInt8 × Nat)) (l : List Int) (k : Nat) : Prop where
  len : l.length = n
  le : k ≤ n
  low : ∀ x v, mget (fun a b => a == b) L x = some v → v < k ∧ ks v = x
  at_ : ∀ i, i < k → ∃ v : Nat, l.getD i 0 = v ∧ mget (fun a b => a == b) L (ks i) = some v ∧ v ≤ i
theorem Cls.start {ks : Nat → List UInt8} {n : Nat} : Cls ks n [] (List.replicate n 0) 0 := ⟨by simp, Nat.zero_le _, (fun _ _ h => by cases h), (fun i h => by omega)⟩
theorem Cls.old {ks : Nat → List UInt8} {n : Nat} {L : List (List UInt8 × Nat)} {l : List Int} {k v : Nat} (h : Cls ks n L l k) (hk : k < n) (hv : mget (fun a b => a == b) L (ks k) = some v) : Cls ks n L (l.set k (v : Int)) (k + 1) :=
  ⟨by simp [h.len], hk, fun x v hx => by have := h.low x v hx; exact ⟨by omega, this.2⟩, fun i hi => by
    rw [getD_setI (by rw [h.len]; exact hk)]
    by_cases e : i = k
    · subst e; rw [if_pos rfl]; exact ⟨v, rfl, hv, by have := h.low _ _ hv; omega⟩
    · rw [if_neg e]; exact h.at_ i (by omega)⟩
theorem Cls.new {ks : Nat → List UInt8} {n : Nat} {L : List (List UInt8 × Nat)} {l : List Int} {k : Nat} (h : Cls ks n L l k) (hk : k < n) (hno : mget (fun a b => a == b) L (ks k) = none) :
    Cls ks n (L ++ [(ks k, k)]) (l.set k (k : Int)) (k + 1) ∧ mget (fun a b => a == b) (L ++ [(ks k, k)]) (ks k) = some k := by
  have h2 : mget (fun a b => a == b) (L ++ [(ks k, k)]) (ks k) = some k := by rw [mget_snoc, hno]; simp
  refine ⟨⟨by simp [h.len], hk, fun x v hx => ?_, fun i hi => ?_⟩, h2⟩
  · rw [mget_snoc] at hx
    cases hm : mget (fun a b => a == b) L x with
    | some u =>
      rw [hm] at hx
      obtain rfl := Option.some.inj hx
      have := h.low x _ hm
      exact ⟨by omega, this.2⟩
    | none =>
      rw [hm, Option.none_or] at hx
      split at hx
      · rename_i he
        obtain rfl := Option.some.inj hx
        exact ⟨by omega, (eq_of_beq he).symm⟩
      · cases hx
  · rw [getD_setI (by rw [h.len]; exact hk)]
    by_cases e : i = k
    · subst e; rw [if_pos rfl]; exact ⟨i, rfl, h2, Nat.le_refl _⟩
    · rw [if_neg e]
      obtain ⟨v, h3, h4, h5⟩ := h.at_ i (by omega)
      exact ⟨v, h3, by rw [mget_snoc, h4]; rfl, h5⟩
/-- the classes of n worlds -/
structure ClsP (ks : Nat → List UInt8) (n : Nat) (p : List Int) : Prop where
  len : p.length = n
  low : ∀ i, i < n → ∃ v : Nat, p.getD i 0 = v ∧ v ≤ i ∧ ks v = ks i ∧ p.getD v 0 = v
  eq : ∀ i j, i < n → j < n → ks i = ks j → p.getD i 0 = p.getD j 0
theorem Cls.done {ks : Nat → List UInt8} {n : Nat} {L : List (List UInt8 × Nat)} {l : List Int} (h : Cls ks n L l n) : ClsP ks n l := by
  refine ⟨h.len, fun i hi => ?_, fun i j hi hj e => ?_⟩
  · obtain ⟨v, h1, h2, h3⟩ := h.at_ i hi
    obtain ⟨h4, h5⟩ := h.low _ _ h2
    obtain ⟨v2, h6, h7, _⟩ := h.at_ v h4
    rw [h5, h2] at h7
    obtain rfl := Option.some.inj h7
    exact ⟨v, h1, h3, h5, h6⟩
  · obtain ⟨v, h1, h2, _⟩ := h.at_ i hi
    obtain ⟨u, h3, h4, _⟩ := h.at_ j hj
    rw [e, h4] at h2
    obtain rfl := Option.some.inj h2
    rw [h1, h3]
theorem ClsP.ok {ks : Nat → List UInt8} {n : Nat} {p : List Int} (h : ClsP ks n p) (hn : n ≤ 64) : OkP p :=
  ⟨by rw [h.len]; exact hn, fun i hi => by
    rw [h.len] at hi
    obtain ⟨v, h1, h2, _, h4⟩ := h.low i hi
    rw [h1, Int.toNat_natCast]
    exact ⟨by omega, by omega, h4⟩⟩
end Go.Proofs.Wit
