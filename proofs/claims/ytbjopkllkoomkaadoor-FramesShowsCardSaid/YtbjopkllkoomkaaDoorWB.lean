/- Laws of a calculus of walks, proved for any program: no condition beyond those that each theorem states. -/
import Derived.Test.YtbjopkllkoomkaaDoorWA
namespace Go.Proofs.Wit
open Go Go.RowKit
/-! plain facts on relations as lists of words -/
def allW (n : Nat) : W64 := if 64 ≤ n then 18446744073709551615#64 else (1#64 <<< n) - 1#64
def badW (n : Nat) (xs : List W64) (k : Nat) : Bool := xs.getD k 0#64 &&& ~~~ (allW n) != 0#64
def checkR (n : Int) (xs : List W64) : Int :=
  if n < 0 ∨ 64 < n then 2 else if (xs.length : Int) ≠ n then 3 else if anyTo (badW n.toNat xs) xs.length then 1 else 0
def twoR (r s : List W64) : Int := if checkR r.length r ≠ 0 then checkR r.length r else if checkR s.length s ≠ 0 then checkR s.length s else if r.length ≠ s.length then 1 else 0

theorem mem_pts {s : W64} {i : Nat} : i ∈ pts s ↔ i < 64 ∧ s.getLsbD i = true := by simp [pts]
theorem allOnes_eq : (18446744073709551615#64 : W64) = BitVec.allOnes 64 := by decide
theorem allW_bit {n i : Nat} (hn : n ≤ 64) (hi : i < 64) : (allW n).getLsbD i = decide (i < n) := by
  unfold allW
  split
  · rw [allOnes_eq, BitVec.getLsbD_allOnes]; simp; omega
  · rename_i h
    have e1 : ((1#64 <<< n) - 1#64).toNat = 2 ^ n - 1 := by
      have hp : 2 ^ n < 2 ^ 64 := Nat.pow_lt_pow_right (by decide) (by omega)
      have h1 : 0 < 2 ^ n := Nat.pow_pos (by decide)
      rw [BitVec.toNat_sub, BitVec.toNat_shiftLeft, Nat.shiftLeft_eq]
      simp only [BitVec.toNat_ofNat]
      rw [show 1 % 2 ^ 64 = 1 from by decide, Nat.one_mul, Nat.mod_eq_of_lt hp]
      omega
    rw [BitVec.getLsbD, e1, Nat.testBit_two_pow_sub_one]
theorem bit_lt {s : W64} {i : Nat} (h : s.getLsbD i = true) : i < 64 := by
  rcases Nat.lt_or_ge i 64 with h1 | h1
  · exact h1
  · rw [BitVec.getLsbD_of_ge _ _ h1] at h; cases h
theorem eq_of_bits {s t : W64} (h : ∀ i, i < 64 → s.getLsbD i = t.getLsbD i) : s = t := BitVec.eq_of_getLsbD_eq (fun i hi => h i hi)
theorem andNot_zero {s t : W64} : s &&& ~~~t = 0#64 ↔ ∀ i, s.getLsbD i = true → t.getLsbD i = true := by
  constructor
  · intro h i hi
    have h1 := congrArg (fun x => BitVec.getLsbD x i) h
    have hl := bit_lt hi
    simp only [BitVec.getLsbD_and, BitVec.getLsbD_not, hi, hl] at h1
    simpa using h1
  · intro h
    refine eq_of_bits (fun i hi => ?_)
    rw [BitVec.getLsbD_and, BitVec.getLsbD_not]
    cases hs : s.getLsbD i with
    | false => simp
    | true => simp [hi, h i hs]
/-- v is a successor of w -/
def Rl (r : List W64) (w v : Nat) : Prop := (r.getD w 0#64).getLsbD v = true
/-- a valid relation -/
structure Val (r : List W64) : Prop where
  len : r.length ≤ 64
  lt : ∀ w v, Rl r w v → v < r.length
theorem Rl.dom {r : List W64} {w v : Nat} (h : Rl r w v) : w < r.length := by
  rcases Nat.lt_or_ge w r.length with h1 | h1
  · exact h1
  · unfold Rl at h; simp [List.getD_eq_getElem?_getD, List.getElem?_eq_none h1] at h
theorem badW_iff {n : Nat} {xs : List W64} {k : Nat} (hn : n ≤ 64) : badW n xs k = false ↔ ∀ i, (xs.getD k 0#64).getLsbD i = true → i < n := by
  unfold badW
  rw [bne_eq_false_iff_eq, andNot_zero]
  constructor
  · intro h i hi; have := h i hi; rw [allW_bit hn (bit_lt hi)] at this; simpa using this
  · intro h i hi; rw [allW_bit hn (bit_lt hi)]; simpa using h i hi
theorem check_zero {r : List W64} : checkR r.length r = 0 ↔ Val r := by
  unfold checkR
  constructor
  · intro h
    split at h
    · cases h
    · rename_i h1
      have hn : r.length ≤ 64 := by omega
      simp only [ne_eq, not_true_eq_false, if_false, Int.toNat_natCast] at h
      split at h
      · cases h
      · rename_i h2
        have h2 : anyTo (badW r.length r) r.length = false := by simpa using h2
        refine ⟨hn, fun w v hwv => ?_⟩
        exact (badW_iff hn).1 (anyTo_false.1 h2 w hwv.dom) v hwv
  · intro hv
    rw [if_neg (by have := hv.len; omega), if_neg (by simp), Int.toNat_natCast, if_neg]
    rw [anyTo_false.2 (fun k hk => (badW_iff hv.len).2 (fun i hi => hv.lt k i hi))]; simp
theorem Val.pts {r : List W64} (h : Val r) (w : Nat) : ∀ i ∈ pts (r.getD w 0#64), i < r.length := fun i hi => h.lt w i (mem_pts.1 hi).2
theorem two_zero {r s : List W64} : twoR r s = 0 ↔ Val r ∧ Val s ∧ r.length = s.length := by
  unfold twoR
  rw [← check_zero (r := r), ← check_zero (r := s)]
  constructor
  · intro h
    split at h
    · rename_i h1; exact absurd h h1
    · rename_i h1
      split at h
      · rename_i h2; exact absurd h h2
      · rename_i h2
        split at h
        · cases h
        · rename_i h3
          exact ⟨by simpa using h1, by simpa using h2, by simpa using h3⟩
  · rintro ⟨h1, h2, h3⟩
    rw [if_neg (by simp [h1]), if_neg (by simp [h2]), if_neg (by simp [h3])]
/-- the union of the successors of the points of a set -/
def mapR (r : List W64) (s : W64) : W64 := (pts s).foldl (fun o w => o ||| r.getD w 0#64) 0#64
theorem foldl_or_bit (r : List W64) (v : Nat) : ∀ (l : List Nat) (o : W64), (l.foldl (fun o w => o ||| r.getD w 0#64) o).getLsbD v = (o.getLsbD v || l.any (fun w => (r.getD w 0#64).getLsbD v))
  | [], o => by simp
  | w :: l, o => by rw [List.foldl_cons, foldl_or_bit r v l, BitVec.getLsbD_or, List.any_cons, Bool.or_assoc]
theorem mapR_bit {r : List W64} {s : W64} {v : Nat} : (mapR r s).getLsbD v = true ↔ ∃ w, s.getLsbD w = true ∧ Rl r w v := by
  rw [mapR, foldl_or_bit]
  simp only [BitVec.getLsbD_zero, Bool.false_or, List.any_eq_true]
  constructor
  · rintro ⟨w, hw, h⟩; exact ⟨w, (mem_pts.1 hw).2, h⟩
  · rintro ⟨w, hw, h⟩; exact ⟨w, mem_pts.2 ⟨bit_lt hw, hw⟩, h⟩
/-- the first k elements turned -/
def flm (g : Nat → W64 → W64) (xs : List W64) (k : Nat) : List W64 := xs.mapIdx (fun i x => if i < k then g i x else x)
theorem flm_length {g : Nat → W64 → W64} {xs : List W64} {k : Nat} : (flm g xs k).length = xs.length := by simp [flm]
theorem flm_zero {g : Nat → W64 → W64} {xs : List W64} : flm g xs 0 = xs := by
  apply List.ext_getElem? ; intro i; simp [flm]
theorem flm_get {g : Nat → W64 → W64} {xs : List W64} {k i : Nat} (hi : i < xs.length) : (flm g xs k).getD i 0#64 = if i < k then g i (xs.getD i 0#64) else xs.getD i 0#64 := by
  simp [flm, List.getD_eq_getElem?_getD, hi]
theorem flm_succ {g : Nat → W64 → W64} {xs : List W64} {k : Nat} (hk : k < xs.length) : (flm g xs k).set k (g k (xs.getD k 0#64)) = flm g xs (k + 1) := by
  apply List.ext_getElem?
  intro i
  rw [List.getElem?_set]
  simp only [flm, List.getElem?_mapIdx]
  split
  · rename_i e; subst e; simp [hk, List.getD_eq_getElem?_getD]
  · rename_i e
    cases hx : xs[i]? with
    | none => rfl
    | some x =>
      simp only [Option.map_some]
      by_cases h1 : i < k
      · rw [if_pos h1, if_pos (by omega)]
      · rw [if_neg h1, if_neg (by omega)]
/-- the reversed pairs -/
def revS (w : Nat) (s : W64) (out : List W64) : List W64 := (pts s).foldl (fun out v => out.set v (out.getD v 0#64 ||| 1#64 <<< w)) out
def revR (r : List W64) : List W64 := upTo (fun w out => revS w (r.getD w 0#64) out) (List.replicate r.length 0#64) r.length
theorem foldl_set_length (w : Nat) : ∀ (l : List Nat) (out : List W64), (l.foldl (fun out v => out.set v (out.getD v 0#64 ||| 1#64 <<< w)) out).length = out.length
  | [], _ => rfl
  | v :: l, out => by rw [List.foldl_cons, foldl_set_length w l]; simp
theorem upTo_rev_length (r : List W64) (n : Nat) : (upTo (fun w out => revS w (r.getD w 0#64) out) (List.replicate r.length 0#64) n).length = r.length := by
  refine upTo_inv (fun _ (out : List W64) => out.length = r.length) (by simp) (fun k a _ h => ?_)
  rw [revS, foldl_set_length]; exact h
theorem revR_length (r : List W64) : (revR r).length = r.length := upTo_rev_length r _
theorem foldl_set_bit (w : Nat) (hw : w < 64) (v i : Nat) : ∀ (l : List Nat) (out : List W64), (∀ x ∈ l, x < out.length) → v < out.length →
    ((l.foldl (fun out v => out.set v (out.getD v 0#64 ||| 1#64 <<< w)) out).getD v 0#64).getLsbD i = ((out.getD v 0#64).getLsbD i || (decide (v ∈ l) && decide (i = w)))
  | [], out, _, _ => by simp
  | x :: l, out, hl, hv => by
    rw [List.foldl_cons, foldl_set_bit w hw v i l _ (fun y hy => by simpa using hl y (List.mem_cons_of_mem _ hy)) (by simpa using hv)]
    have hx : x < out.length := hl x (List.mem_cons_self ..)
    by_cases e : x = v
    · subst e
      have : (out.set x (out.getD x 0#64 ||| 1#64 <<< w)).getD x 0#64 = out.getD x 0#64 ||| 1#64 <<< w := by simp [List.getD_eq_getElem?_getD, hx]
      rw [this, BitVec.getLsbD_or, BitVec.getLsbD_shiftLeft]
      have : (decide (i < 64) && !decide (i < w) && (1#64).getLsbD (i - w)) = decide (i = w) := by
        rw [BitVec.getLsbD_one]
        by_cases e2 : i = w
        · subst e2; simp [hw]
        · simp [e2]; omega
      rw [this]
      simp
      cases (out[x]?.getD 0#64).getLsbD i <;> cases decide (i = w) <;> simp
    · have : (out.set x (out.getD x 0#64 ||| 1#64 <<< w)).getD v 0#64 = out.getD v 0#64 := by simp [List.getD_eq_getElem?_getD, e]
      rw [this]
      have : decide (v ∈ x :: l) = decide (v ∈ l) := by simp [Ne.symm e]
      rw [this]
theorem revR_bit {r : List W64} (hv : Val r) {v w : Nat} (hlt : v < r.length) : Rl (revR r) v w ↔ Rl r w v := by
  have key : ∀ n, n ≤ r.length → (∀ i, ((upTo (fun w out => revS w (r.getD w 0#64) out) (List.replicate r.length 0#64) n).getD v 0#64).getLsbD i = true ↔ i < n ∧ Rl r i v) := by
    intro n
    induction n with
    | zero => intro _ i; simp [upTo, List.getD_eq_getElem?_getD, hlt]
    | succ n ih =>
      intro hn i
      have hlen := upTo_rev_length r n
      have hn64 : n < 64 := by have := hv.len; omega
      rw [upTo, revS, foldl_set_bit n hn64 v i _ _ (fun x hx => by rw [hlen]; exact hv.pts n x hx) (by rw [hlen]; exact hlt), Bool.or_eq_true, ih (by omega)]
      simp only [Bool.and_eq_true, decide_eq_true_eq]
      constructor
      · rintro (⟨h1, h2⟩ | ⟨h1, rfl⟩)
        · exact ⟨by omega, h2⟩
        · exact ⟨by omega, (mem_pts.1 h1).2⟩
      · rintro ⟨h1, h2⟩
        by_cases e : i = n
        · subst e; exact .inr ⟨mem_pts.2 ⟨bit_lt h2, h2⟩, rfl⟩
        · exact .inl ⟨by omega, h2⟩
  unfold Rl revR
  rw [key _ (Nat.le_refl _) w]
  exact ⟨fun h => h.2, fun h => ⟨Rl.dom h, h⟩⟩
end Go.Proofs.Wit
namespace Go.Proofs.Wit
theorem or_eq_left {a b : W64} (h : a ||| b = a) : b &&& ~~~a = 0#64 := by
  rw [andNot_zero]; intro i hi
  have := congrArg (fun x => BitVec.getLsbD x i) h
  simpa [BitVec.getLsbD_or, hi] using this
theorem sub_or {a b c : W64} (h : a &&& ~~~b = 0#64) : a &&& ~~~(b ||| c) = 0#64 := by
  rw [andNot_zero] at *; intro i hi; rw [BitVec.getLsbD_or, h i hi]; rfl
theorem or_sub {a b c : W64} (h : a &&& ~~~c = 0#64) (h2 : b &&& ~~~c = 0#64) : (a ||| b) &&& ~~~c = 0#64 := by
  rw [andNot_zero] at *; intro i hi
  rw [BitVec.getLsbD_or, Bool.or_eq_true] at hi
  rcases hi with hi | hi
  · exact h i hi
  · exact h2 i hi
theorem map_sub {r : List W64} {a c : W64} (h : a &&& ~~~c = 0#64) (h2 : mapR r c &&& ~~~c = 0#64) : mapR r a &&& ~~~c = 0#64 := by
  rw [andNot_zero] at *
  intro i hi
  obtain ⟨w, hw, hr⟩ := mapR_bit.1 hi
  exact h2 i (mapR_bit.2 ⟨w, h w hw, hr⟩)
theorem or_grows {a b : W64} (h : a ||| b ≠ a) : 18446744073709551616 - (a ||| b).toNat < 18446744073709551616 - a.toNat := by
  have h1 : a.toNat ≤ (a ||| b).toNat := by rw [BitVec.toNat_or]; exact Nat.left_le_or
  have h2 : a.toNat ≠ (a ||| b).toNat := fun e => h (BitVec.eq_of_toNat_eq e.symm)
  have := (a ||| b).isLt
  omega
theorem sub_antisymm {a b : W64} (h : a &&& ~~~b = 0#64) (h2 : b &&& ~~~a = 0#64) : a = b := by
  rw [andNot_zero] at *
  refine eq_of_bits (fun i _ => ?_)
  cases ha : a.getLsbD i <;> cases hb : b.getLsbD i <;> first | rfl | (have := h i ha; rw [hb] at this; cases this) | (have := h2 i hb; rw [ha] at this; cases this)
end Go.Proofs.Wit
namespace Go.Proofs.Wit
open Go Go.RowKit
/-! plain facts on closures -/
theorem Rl.toBit {r : List W64} {w v : Nat} : Rl r w v ↔ (r.getD w 0#64).getLsbD v = true := Iff.rfl
/-- the same size, and contained -/
structure Le (r s : List W64) : Prop where
  len : r.length = s.length
  sub : ∀ u v, Rl r u v → Rl s u v
theorem Le.refl (r : List W64) : Le r r := ⟨rfl, fun _ _ h => h⟩
theorem Le.trans {r s t : List W64} (h : Le r s) (k : Le s t) : Le r t := ⟨h.len.trans k.len, fun u v x => k.sub u v (h.sub u v x)⟩
theorem list_ext {r s : List W64} (hl : r.length = s.length) (h : ∀ u v, Rl r u v ↔ Rl s u v) : r = s := by
  apply List.ext_getElem hl
  intro i h1 h2
  refine eq_of_bits (fun j _ => ?_)
  have := h i j
  unfold Rl at this
  simp only [List.getD_eq_getElem?_getD, List.getElem?_eq_getElem h1, List.getElem?_eq_getElem h2, Option.getD_some] at this
  exact Bool.eq_iff_iff.2 this
theorem Le.antisymm {r s : List W64} (h : Le r s) (k : Le s r) : r = s := list_ext h.len (fun u v => ⟨h.sub u v, k.sub u v⟩)
theorem Le.bits {r s : List W64} (h : Le r s) (i : Nat) : r.getD i 0#64 &&& ~~~(s.getD i 0#64) = 0#64 := andNot_zero.2 (fun j hj => h.sub i j hj)
theorem Rl.set {l : List W64} {w u v : Nat} {x : W64} (hw : w < l.length) : Rl (l.set w x) u v ↔ if u = w then x.getLsbD v = true else Rl l u v := by
  unfold Rl
  by_cases e : u = w
  · subst e; simp [List.getD_eq_getElem?_getD, hw]
  · rw [if_neg e]; simp [List.getD_eq_getElem?_getD, Ne.symm e]
/-- how much room is left above a list of words -/
def room (l : List W64) : Nat := (l.map (fun x => 18446744073709551616 - x.toNat)).sum
theorem bit_ge {a b : W64} (h : a &&& ~~~b = 0#64) : a.toNat ≤ b.toNat := by
  have : a ||| b = b := by
    rw [andNot_zero] at h
    refine eq_of_bits (fun i _ => ?_)
    rw [BitVec.getLsbD_or]
    cases ha : a.getLsbD i with
    | false => simp
    | true => simp [h i ha]
  rw [← this, BitVec.toNat_or]; exact Nat.left_le_or
theorem room_aux : ∀ {r s : List W64}, r.length = s.length → (∀ i, (r.getD i 0#64).toNat ≤ (s.getD i 0#64).toNat) → room s ≤ room r ∧ (room s = room r → r = s)
  | [], [], _, _ => ⟨Nat.le_refl _, fun _ => rfl⟩
  | [], _ :: _, h, _ => by simp at h
  | _ :: _, [], h, _ => by simp at h
  | a :: r, b :: s, h, hb => by
    obtain ⟨h1, h2⟩ := room_aux (r := r) (s := s) (by simpa using h) (fun i => by simpa using hb (i + 1))
    have h0 : a.toNat ≤ b.toNat := by simpa using hb 0
    have ha := a.isLt
    have hb' := b.isLt
    unfold room at h1 h2 ⊢
    simp only [List.map_cons, List.sum_cons]
    refine ⟨by omega, fun e => ?_⟩
    have e1 : a.toNat = b.toNat := by omega
    rw [h2 (by omega), BitVec.eq_of_toNat_eq e1]
theorem Le.room {r s : List W64} (h : Le r s) : room s ≤ room r := (room_aux h.len (fun i => bit_ge (h.bits i))).1
theorem Le.room_lt {r s : List W64} (h : Le r s) (hne : r ≠ s) : Wit.room s < Wit.room r := by
  obtain ⟨h1, h2⟩ := room_aux h.len (fun i => bit_ge (h.bits i))
  have : Wit.room s ≠ Wit.room r := fun e => hne (h2 e)
  omega
/-- a step that grows a relation; F says of a relation that the step leaves it -/
structure GoodS (g : List W64 → List W64) (F : List W64 → Prop) : Prop where
  val : ∀ {l}, Val l → Val (g l)
  infl : ∀ {l}, Val l → Le l (g l)
  mono : ∀ {l m}, Val l → Val m → Le l m → Le (g l) (g m)
  fix : ∀ {l}, Val l → (g l = l ↔ F l)
theorem GoodS.ofBits {g : List W64 → List W64} (A : List W64 → Nat → Nat → Prop) (hlen : ∀ l, (g l).length = l.length) (hbit : ∀ l, Val l → ∀ u v, Rl (g l) u v ↔ Rl l u v ∨ A l u v)
    (hdom : ∀ l, Val l → ∀ u v, A l u v → v < l.length) (hmono : ∀ l m, Val l → Val m → Le l m → ∀ u v, A l u v → A m u v) : GoodS g (fun l => ∀ u v, A l u v → Rl l u v) where
  val {l} h := ⟨by rw [hlen]; exact h.len, fun u v x => by
    rw [hlen]
    rcases (hbit l h u v).1 x with x | x
    · exact h.lt u v x
    · exact hdom l h u v x⟩
  infl {l} h := ⟨(hlen l).symm, fun u v x => (hbit l h u v).2 (.inl x)⟩
  mono {l m} h k hle := ⟨by rw [hlen, hlen]; exact hle.len, fun u v x => (hbit m k u v).2 (by
    rcases (hbit l h u v).1 x with x | x
    · exact .inl (hle.sub u v x)
    · exact .inr (hmono l m h k hle u v x))⟩
  fix {l} h := ⟨fun e u v x => by
      have := (hbit l h u v).2 (.inr x)
      rwa [e] at this, fun hF => list_ext (hlen l) (fun u v => ⟨fun x => by
        rcases (hbit l h u v).1 x with x | x
        · exact x
        · exact hF u v x, fun x => (hbit l h u v).2 (.inl x)⟩)⟩
theorem GoodS.id : GoodS (fun l => l) (fun _ => True) := ⟨fun h => h, fun _ => .refl _, fun _ _ h => h, fun _ => ⟨fun _ => trivial, fun _ => rfl⟩⟩
theorem GoodS.comp {g g' : List W64 → List W64} {F F' : List W64 → Prop} (h : GoodS g F) (h' : GoodS g' F') : GoodS (fun l => g' (g l)) (fun l => F l ∧ F' l) where
  val v := h'.val (h.val v)
  infl v := (h.infl v).trans (h'.infl (h.val v))
  mono v k le := h'.mono (h.val v) (h.val k) (h.mono v k le)
  fix {l} v := by
    constructor
    · intro e
      have e1 : g l = l := by
        have := h'.infl (h.val v)
        rw [e] at this
        exact this.antisymm (h.infl v)
      rw [e1] at e
      exact ⟨(h.fix v).1 e1, (h'.fix v).1 e⟩
    · rintro ⟨a, b⟩
      rw [(h.fix v).2 a, (h'.fix v).2 b]
theorem GoodS.upTo {st : Nat → List W64 → List W64} {F : Nat → List W64 → Prop} (h : ∀ k, GoodS (st k) (F k)) : ∀ n, GoodS (fun l => upTo st l n) (fun l => ∀ k, k < n → F k l)
  | 0 => ⟨fun h => h, fun _ => .refl _, fun _ _ h => h, fun _ => ⟨fun _ k hk => by omega, fun _ => rfl⟩⟩
  | n + 1 => by
    have := (GoodS.upTo h n).comp (h n)
    refine ⟨this.val, this.infl, this.mono, fun v => (this.fix v).trans ⟨fun ⟨a, b⟩ k hk => ?_, fun a => ⟨fun k hk => a k (by omega), a n (by omega)⟩⟩⟩
    rcases Nat.lt_succ_iff_lt_or_eq.1 hk with h1 | rfl
    · exact a k h1
    · exact b
theorem GoodS.upToLen {st : Nat → List W64 → List W64} {F : Nat → List W64 → Prop} (h : ∀ k, GoodS (st k) (F k)) : GoodS (fun l => Wit.upTo st l l.length) (fun l => ∀ k, k < l.length → F k l) :=
  ⟨fun v => (GoodS.upTo h _).val v, fun v => (GoodS.upTo h _).infl v, fun {l m} v k le => by
    have := (GoodS.upTo h l.length).mono v k le
    simp only [le.len] at this ⊢
    exact this, fun v => (GoodS.upTo h _).fix v⟩
theorem GoodS.iff {g : List W64 → List W64} {F G : List W64 → Prop} (h : GoodS g F) (hi : ∀ {l}, Val l → (F l ↔ G l)) : GoodS g G := ⟨h.val, h.infl, h.mono, fun v => (h.fix v).trans (hi v)⟩
/-- out is the least valid relation above r with F -/
structure Least (F : List W64 → Prop) (r out : List W64) : Prop where
  val : Val out
  le : Le r out
  has : F out
  least : ∀ c, Val c → Le r c → F c → Le out c
theorem Least.uniq {F : List W64 → Prop} {r a b : List W64} (h : Least F r a) (k : Least F r b) : a = b :=
  (h.least b k.val k.le k.has).antisymm (k.least a h.val h.le h.has)
/-- the properties -/
def reflR (l : List W64) : Prop := ∀ w, w < l.length → Rl l w w
def symmR (l : List W64) : Prop := ∀ u v, Rl l u v → Rl l v u
def tranR (l : List W64) : Prop := ∀ u v x, Rl l u v → Rl l v x → Rl l u x
def euclR (l : List W64) : Prop := ∀ u v x, Rl l u v → Rl l u x → Rl l v x
/-- the steps of the program -/
def reflS (w : Nat) (l : List W64) : List W64 := l.set w (l.getD w 0#64 ||| 1#64 <<< w)
def tranS (w : Nat) (l : List W64) : List W64 := l.set w (l.getD w 0#64 ||| mapR l (l.getD w 0#64))
def symmG (l : List W64) : List W64 := flm (fun w x => x ||| (revR l).getD w 0#64) l l.length
def eucT (s : W64) (l : List W64) (us : List Nat) : List W64 := us.foldl (fun l u => l.set u (l.getD u 0#64 ||| s)) l
def eucS (w : Nat) (l : List W64) : List W64 := eucT (l.getD w 0#64) l (pts (l.getD w 0#64))
theorem set_bit {l : List W64} {w : Nat} {x : W64} {u v : Nat} : Rl (l.set w (l.getD w 0#64 ||| x)) u v ↔ Rl l u v ∨ (u = w ∧ w < l.length ∧ x.getLsbD v = true) := by
  rcases Nat.lt_or_ge w l.length with h | h
  · rw [Rl.set h]
    split
    · rename_i e; subst e
      rw [BitVec.getLsbD_or, Bool.or_eq_true, Rl.toBit]
      simp [h]
    · rename_i e; simp [e]
  · rw [List.set_eq_of_length_le h]
    exact ⟨.inl, fun x => x.elim (fun x => x) (fun x => absurd x.2.1 (by omega))⟩
theorem shift_one_bit {w v : Nat} (hw : w < 64) : (1#64 <<< w).getLsbD v = true ↔ v = w := by
  rw [BitVec.getLsbD_shiftLeft, BitVec.getLsbD_one]
  simp only [Bool.and_eq_true, Bool.not_eq_true', decide_eq_true_eq, decide_eq_false_iff_not]
  omega
theorem refl_good : GoodS (fun l => upTo reflS l l.length) reflR := by
  refine (GoodS.upToLen (F := fun w l => ∀ u v, (u = w ∧ w < l.length ∧ v = w) → Rl l u v) (fun w => ?_)).iff (fun {l} _ => ?_)
  · refine GoodS.ofBits (fun l u v => u = w ∧ w < l.length ∧ v = w) (fun l => by simp [reflS]) (fun l hv u v => ?_) (fun l _ u v h => h.2.2 ▸ h.2.1) (fun l m _ _ le u v h => ⟨h.1, le.len ▸ h.2.1, h.2.2⟩)
    rw [reflS, set_bit]
    refine or_congr Iff.rfl (and_congr_right (fun _ => and_congr_right (fun h => ?_)))
    exact shift_one_bit (by have := hv.len; omega)
  · exact ⟨fun h w hw => h w hw w w ⟨rfl, hw, rfl⟩, fun h w _ u v ⟨a, b, c⟩ => by subst a; subst c; exact h _ b⟩
theorem tranS_good (w : Nat) : GoodS (tranS w) (fun l => ∀ u v, (u = w ∧ ∃ x, Rl l w x ∧ Rl l x v) → Rl l u v) := by
  refine GoodS.ofBits (fun l u v => u = w ∧ ∃ x, Rl l w x ∧ Rl l x v) (fun l => by simp [tranS]) (fun l hv u v => ?_) (fun l hv u v ⟨_, x, _, h⟩ => hv.lt x v h) (fun l m _ _ le u v ⟨h, x, h1, h2⟩ => ⟨h, x, le.sub _ _ h1, le.sub _ _ h2⟩)
  rw [tranS, set_bit, mapR_bit]
  exact or_congr Iff.rfl (and_congr_right (fun _ => ⟨fun ⟨_, h⟩ => h, fun ⟨x, h1, h2⟩ => ⟨h1.dom, x, h1, h2⟩⟩))
theorem tran_good : GoodS (fun l => upTo tranS l l.length) tranR := by
  refine (GoodS.upToLen tranS_good).iff (fun {l} _ => ?_)
  exact ⟨fun h u v x h1 h2 => h u h1.dom u x ⟨rfl, v, h1, h2⟩, fun h w _ u v ⟨a, x, h1, h2⟩ => by subst a; exact h _ _ _ h1 h2⟩
theorem eucT_length (s : W64) : ∀ (us : List Nat) (l : List W64), (eucT s l us).length = l.length
  | [], _ => rfl
  | u :: us, l => by
    show (eucT s (l.set u _) us).length = _
    rw [eucT_length s us]; simp
theorem eucT_bit (s : W64) : ∀ (us : List Nat) (l : List W64) (u v : Nat), Rl (eucT s l us) u v ↔ Rl l u v ∨ (u ∈ us ∧ u < l.length ∧ s.getLsbD v = true)
  | [], _, _, _ => by simp [eucT]
  | x :: us, l, u, v => by
    show Rl (eucT s (l.set x _) us) u v ↔ _
    rw [eucT_bit s us, set_bit]
    simp only [List.length_set, List.mem_cons]
    constructor
    · rintro ((h | ⟨rfl, h1, h2⟩) | ⟨h1, h2, h3⟩)
      · exact .inl h
      · exact .inr ⟨.inl rfl, h1, h2⟩
      · exact .inr ⟨.inr h1, h2, h3⟩
    · rintro (h | ⟨rfl | h1, h2, h3⟩)
      · exact .inl (.inl h)
      · exact .inl (.inr ⟨rfl, h2, h3⟩)
      · exact .inr ⟨h1, h2, h3⟩
theorem eucS_good (w : Nat) : GoodS (eucS w) (fun l => ∀ u v, (Rl l w u ∧ Rl l w v) → Rl l u v) := by
  refine GoodS.ofBits (fun l u v => Rl l w u ∧ Rl l w v) (fun l => by rw [eucS, eucT_length]) (fun l hv u v => ?_) (fun l hv u v ⟨_, h⟩ => hv.lt w v h) (fun l m _ _ le u v ⟨h1, h2⟩ => ⟨le.sub _ _ h1, le.sub _ _ h2⟩)
  rw [eucS, eucT_bit, mem_pts]
  exact or_congr Iff.rfl ⟨fun ⟨h1, _, h3⟩ => ⟨h1.2, h3⟩, fun ⟨h1, h2⟩ => ⟨⟨bit_lt h1, h1⟩, hv.lt w u h1, h2⟩⟩
theorem eucl_good : GoodS (fun l => upTo eucS l l.length) euclR := by
  refine (GoodS.upToLen eucS_good).iff (fun {l} _ => ?_)
  exact ⟨fun h u v x h1 h2 => h u h1.dom v x ⟨h1, h2⟩, fun h w _ u v ⟨h1, h2⟩ => h _ _ _ h1 h2⟩
theorem symm_good : GoodS symmG symmR := by
  refine (GoodS.ofBits (fun l u v => Rl l v u) (fun l => flm_length) (fun l hv u v => ?_) (fun l hv u v h => h.dom) (fun l m _ _ le u v h => le.sub _ _ h)).iff (fun {l} _ => ⟨fun h u v x => h v u x, fun h u v x => h v u x⟩)
  rcases Nat.lt_or_ge u l.length with h | h
  · have e1 : Rl (symmG l) u v ↔ Rl l u v ∨ Rl (revR l) u v := by
      show ((flm _ l l.length).getD u 0#64).getLsbD v = true ↔ _
      rw [flm_get h, if_pos h, BitVec.getLsbD_or, Bool.or_eq_true]; rfl
    exact e1.trans (or_congr Iff.rfl (revR_bit hv h))
  · constructor
    · intro x
      have := x.dom
      rw [flm_length] at this
      omega
    · rintro (x | x)
      · have := x.dom; omega
      · have := hv.lt _ _ x; omega
end Go.Proofs.Wit
namespace Go.Proofs.Wit
/-- the properties by their numbers -/
def serR (l : List W64) : Prop := 0#64 ∉ l
def PropR (p : Int) (l : List W64) : Prop :=
  if p = 1 then serR l else if p = 2 then reflR l else if p = 3 then symmR l else if p = 4 then tranR l else if p = 5 then euclR l else False
def HasR (l : List W64) (p : Int) : Prop := checkR l.length l = 0 ∧ PropR p l
noncomputable def hasB (l : List W64) (p : Int) : Bool := @decide (HasR l p) (Classical.propDecidable _)
theorem hasB_iff {l : List W64} {p : Int} {b : Bool} (h : b = true ↔ HasR l p) : hasB l p = b := by
  unfold hasB
  cases b with
  | true => exact @decide_eq_true _ (Classical.propDecidable _) (h.1 rfl)
  | false => exact @decide_eq_false _ (Classical.propDecidable _) (fun x => by cases h.2 x)
theorem hasB_true {l : List W64} {p : Int} : hasB l p = true ↔ HasR l p := by unfold hasB; exact @decide_eq_true_iff _ (Classical.propDecidable _)
theorem symm_iff {l : List W64} (hv : Val l) : l = revR l ↔ symmR l := by
  constructor
  · intro e u v h
    have h1 : Rl (revR l) u v := e ▸ h
    exact (revR_bit hv h.dom).1 h1
  · intro h
    refine list_ext (revR_length l).symm (fun u v => ?_)
    constructor
    · intro x; exact (revR_bit hv x.dom).2 (h u v x)
    · intro x
      have hd := x.dom
      rw [revR_length] at hd
      exact h v u ((revR_bit hv hd).1 x)
theorem bit_iff {s : W64} {k : Nat} : s.getLsbD k = !((s >>> k) &&& 1#64 == 0#64) := by
  have h1 : ((s >>> k) &&& 1#64 == 0#64) = !(s.getLsbD k) := by
    cases hb : s.getLsbD k with
    | true =>
      rw [Bool.not_true, beq_eq_false_iff_ne]
      intro e
      have := congrArg (fun x => BitVec.getLsbD x 0) e
      simp [hb] at this
    | false =>
      rw [Bool.not_false, beq_iff_eq]
      refine eq_of_bits (fun i _ => ?_)
      rw [BitVec.getLsbD_and, BitVec.getLsbD_ushiftRight, BitVec.getLsbD_one]
      by_cases e : i = 0
      · subst e; simp [hb]
      · simp [e]
  rw [h1, Bool.not_not]
end Go.Proofs.Wit
namespace Go.Proofs.Wit
open Go Go.RowKit
/-! plain facts on shortest paths -/
/-- the points from which k steps lead to a point of t -/
def near (r : List W64) (t : W64) : Nat → W64
  | 0 => t
  | k + 1 => mapR (revR r) (near r t k)
/-- the points from which d + 1 steps lead to a point of t, and not fewer; and those of the layers before -/
def seenU (r : List W64) (t : W64) : Nat → W64
  | 0 => 0#64
  | d + 1 => seenU r t d ||| (near r t (d + 1) &&& ~~~ seenU r t d)
def lay (r : List W64) (t : W64) (d : Nat) : W64 := near r t (d + 1) &&& ~~~ seenU r t d
/-- the rest of a path behind w -/
def tailP (r : List W64) (t : W64) : Nat → Nat → List Nat
  | 0, _ => []
  | c + 1, w => tz (r.getD w 0#64 &&& near r t c) :: tailP r t c (tz (r.getD w 0#64 &&& near r t c))
def pathK (r : List W64) (t f : W64) (k : Nat) : List Nat := tz (f &&& near r t k) :: tailP r t k (tz (f &&& near r t k))
structure Short (r : List W64) (f t : W64) (k : Nat) : Prop where
  one : 1 ≤ k
  ne : f &&& near r t k ≠ 0#64
  least : ∀ j, 1 ≤ j → j < k → f &&& near r t j = 0#64
/-- what Path gives -/
def PathIs (r : List W64) (f to : W64) (p : List Nat) : Prop :=
  if checkR r.length r ≠ 0 then p = [] else
    (∃ k, Short r f (to &&& allW r.length) k ∧ p = pathK r (to &&& allW r.length) f k) ∨ ((∀ k, 1 ≤ k → f &&& near r (to &&& allW r.length) k = 0#64) ∧ p = [])
theorem Short.uniq {r : List W64} {f t : W64} {j k : Nat} (h : Short r f t j) (g : Short r f t k) : j = k := by
  rcases Nat.lt_trichotomy j k with x | x | x
  · exact absurd (g.least j h.one x) h.ne
  · exact x
  · exact absurd (h.least k g.one x) g.ne
theorem PathIs.uniq {r : List W64} {f t : W64} {p q : List Nat} (h : PathIs r f t p) (g : PathIs r f t q) : p = q := by
  unfold PathIs at h g
  split at h
  · rename_i hc; rw [if_pos hc] at g; rw [h, g]
  · rename_i hc; rw [if_neg hc] at g
    rcases h with ⟨k, hk, rfl⟩ | ⟨hn, rfl⟩ <;> rcases g with ⟨j, hj, rfl⟩ | ⟨gn, rfl⟩
    · rw [hk.uniq hj]
    · exact absurd (gn k hk.one) hk.ne
    · exact absurd (hn j hj.one) hj.ne
    · rfl
section
variable {r : List W64} {t : W64}
theorem near_bit (hv : Val r) {k w : Nat} : (near r t (k + 1)).getLsbD w = true ↔ ∃ v, Rl r w v ∧ (near r t k).getLsbD v = true := by
  rw [near, mapR_bit]
  constructor
  · rintro ⟨v, h1, h2⟩
    have hd := h2.dom
    rw [revR_length] at hd
    exact ⟨v, (revR_bit hv hd).1 h2, h1⟩
  · rintro ⟨v, h1, h2⟩
    exact ⟨v, h2, (revR_bit hv (hv.lt _ _ h1)).2 h1⟩
theorem seen_bit {m w : Nat} : (seenU r t m).getLsbD w = true ↔ ∃ j, 1 ≤ j ∧ j ≤ m ∧ (near r t j).getLsbD w = true := by
  induction m with
  | zero => rw [seenU]; simp; intro j h1 h2; omega
  | succ m ih =>
    rw [seenU, BitVec.getLsbD_or, Bool.or_eq_true, ih, BitVec.getLsbD_and, BitVec.getLsbD_not, Bool.and_eq_true]
    constructor
    · rintro (⟨j, h1, h2, h3⟩ | ⟨h1, _⟩)
      · exact ⟨j, h1, by omega, h3⟩
      · exact ⟨m + 1, by omega, Nat.le_refl _, h1⟩
    · rintro ⟨j, h1, h2, h3⟩
      by_cases e : j = m + 1
      · subst e
        cases hs : (seenU r t m).getLsbD w with
        | true => exact .inl (ih.1 hs)
        | false => exact .inr ⟨h3, by rw [decide_eq_true (bit_lt h3)]; rfl⟩
      · exact .inl ⟨j, h1, by omega, h3⟩
theorem lay_bit {d w : Nat} : (lay r t d).getLsbD w = true ↔ (near r t (d + 1)).getLsbD w = true ∧ ∀ j, 1 ≤ j → j ≤ d → (near r t j).getLsbD w = false := by
  rw [lay, BitVec.getLsbD_and, BitVec.getLsbD_not, Bool.and_eq_true]
  refine and_congr_right (fun h => ?_)
  simp only [bit_lt h, decide_true, Bool.true_and, Bool.not_eq_true']
  rw [← Bool.not_eq_true, seen_bit]
  constructor
  · intro hn j h1 h2
    rw [← Bool.not_eq_true]; exact fun h3 => hn ⟨j, h1, h2, h3⟩
  · rintro hn ⟨j, h1, h2, h3⟩
    rw [hn j h1 h2] at h3; cases h3
theorem lay_next (hv : Val r) {m : Nat} (hm : 1 ≤ m) : mapR (revR r) (lay r t (m - 1)) &&& ~~~ seenU r t m = lay r t m := by
  obtain ⟨d, rfl⟩ : ∃ d, m = d + 1 := ⟨m - 1, by omega⟩
  rw [Nat.add_sub_cancel, lay.eq_1 (d := d + 1)]
  refine eq_of_bits (fun w hw => ?_)
  rw [BitVec.getLsbD_and, BitVec.getLsbD_and]
  cases hs : (~~~ seenU r t (d + 1)).getLsbD w with
  | false => simp
  | true =>
    have hs2 : ¬ (seenU r t (d + 1)).getLsbD w = true := by simpa [hw] using hs
    rw [seen_bit] at hs2
    rw [Bool.and_true, Bool.and_true, Bool.eq_iff_iff, near_bit hv, mapR_bit]
    constructor
    · rintro ⟨v, h1, h2⟩
      have hd := h2.dom
      rw [revR_length] at hd
      exact ⟨v, (revR_bit hv hd).1 h2, (lay_bit.1 h1).1⟩
    · rintro ⟨v, h1, h2⟩
      refine ⟨v, lay_bit.2 ⟨h2, fun j hj hj2 => ?_⟩, (revR_bit hv (hv.lt _ _ h1)).2 h1⟩
      rw [← Bool.not_eq_true]
      exact fun h3 => hs2 ⟨j + 1, by omega, by omega, (near_bit hv).2 ⟨v, h1, h3⟩⟩
theorem and_not0 (x : W64) : x &&& ~~~0#64 = x := by
  refine eq_of_bits (fun i hi => ?_)
  rw [BitVec.getLsbD_and, BitVec.getLsbD_not, decide_eq_true hi, BitVec.getLsbD_zero]; simp
theorem lay_zero : lay r t 0 = near r t 1 := by rw [lay, seenU, and_not0]
theorem seen_one : seenU r t 1 = near r t 1 := by
  rw [seenU, seenU, and_not0]; simp
theorem seen_succ (m : Nat) : seenU r t (m + 1) = seenU r t m ||| lay r t m := rfl
theorem lay_grows {m : Nat} (h : lay r t m ≠ 0#64) : seenU r t m ||| lay r t m ≠ seenU r t m := by
  intro e
  have h1 := andNot_zero.1 (or_eq_left e)
  apply h
  refine eq_of_bits (fun i _ => ?_)
  cases hb : (lay r t m).getLsbD i with
  | false => simp
  | true =>
    have := h1 i hb
    rw [lay, BitVec.getLsbD_and, BitVec.getLsbD_not, this] at hb
    simp at hb
/-- w is of the layer c - 1 (c = 0: of t) -/
def AtL (r : List W64) (t : W64) (c w : Nat) : Prop := (near r t c).getLsbD w = true ∧ ∀ j, 1 ≤ j → j < c → (near r t j).getLsbD w = false
theorem AtL.next (hv : Val r) {c w : Nat} (h : AtL r t (c + 1) w) : r.getD w 0#64 &&& near r t c ≠ 0#64 ∧ AtL r t c (tz (r.getD w 0#64 &&& near r t c)) ∧ Rl r w (tz (r.getD w 0#64 &&& near r t c)) := by
  obtain ⟨v, h1, h2⟩ := (near_bit hv).1 h.1
  have hne : r.getD w 0#64 &&& near r t c ≠ 0#64 := by
    intro e
    have := congrArg (fun x => BitVec.getLsbD x v) e
    rw [BitVec.getLsbD_and, h2, show (r.getD w 0#64).getLsbD v = true from h1] at this
    simp at this
  have hb := (tz_spec hne).2.1
  rw [BitVec.getLsbD_and, Bool.and_eq_true] at hb
  refine ⟨hne, ⟨hb.2, fun j hj hj2 => ?_⟩, hb.1⟩
  rw [← Bool.not_eq_true]
  intro h3
  have := h.2 (j + 1) (by omega) (by omega)
  rw [(near_bit hv).2 ⟨_, hb.1, h3⟩] at this
  cases this
theorem AtL.goal (hv : Val r) {d w : Nat} (h : AtL r t (d + 2) w) : r.getD w 0#64 &&& lay r t d = r.getD w 0#64 &&& near r t (d + 1) := by
  refine eq_of_bits (fun v _ => ?_)
  rw [BitVec.getLsbD_and, BitVec.getLsbD_and]
  cases hr : (r.getD w 0#64).getLsbD v with
  | false => rfl
  | true =>
    rw [Bool.true_and, Bool.true_and, Bool.eq_iff_iff, lay_bit]
    refine ⟨fun x => x.1, fun x => ⟨x, fun j hj hj2 => ?_⟩⟩
    rw [← Bool.not_eq_true]
    intro h3
    have := h.2 (j + 1) (by omega) (by omega)
    rw [(near_bit hv).2 ⟨v, hr, h3⟩] at this
    cases this
theorem near_lt (hv : Val r) {k w : Nat} (h : (near r t (k + 1)).getLsbD w = true) : w < r.length := by
  obtain ⟨v, h1, _⟩ := (near_bit hv).1 h
  exact h1.dom
/-- no layer so far has a point of f -/
theorem no_near {f : W64} {m : Nat} (h : ∀ d, d < m → lay r t d &&& f = 0#64) : ∀ j, 1 ≤ j → j ≤ m → f &&& near r t j = 0#64 := by
  have key : ∀ m, (∀ d, d < m → lay r t d &&& f = 0#64) → seenU r t m &&& f = 0#64 := by
    intro m
    induction m with
    | zero => intro _; simp [seenU]
    | succ m ih =>
      intro h
      have h1 := ih (fun d hd => h d (by omega))
      have h2 := h m (by omega)
      rw [seen_succ]
      refine eq_of_bits (fun i _ => ?_)
      have a := congrArg (fun x => BitVec.getLsbD x i) h1
      have b := congrArg (fun x => BitVec.getLsbD x i) h2
      simp only [BitVec.getLsbD_and] at a b
      rw [BitVec.getLsbD_and, BitVec.getLsbD_or, Bool.and_or_distrib_right, a, b]; simp
  intro j hj hjm
  refine eq_of_bits (fun i _ => ?_)
  have a := congrArg (fun x => BitVec.getLsbD x i) (key m h)
  simp only [BitVec.getLsbD_and] at a
  rw [BitVec.getLsbD_and]
  cases hn : (near r t j).getLsbD i with
  | false => simp
  | true => rw [seen_bit.2 ⟨j, hj, hjm, hn⟩] at a; simpa using a
/-- an empty layer: no further one has a point -/
theorem no_more (hv : Val r) {m : Nat} (h : lay r t m = 0#64) : ∀ k w, 1 ≤ k → (near r t k).getLsbD w = true → ∃ j, 1 ≤ j ∧ j ≤ m ∧ (near r t j).getLsbD w = true := by
  have h0 : ∀ w, (near r t (m + 1)).getLsbD w = true → ∃ j, 1 ≤ j ∧ j ≤ m ∧ (near r t j).getLsbD w = true := by
    intro w hw
    apply Classical.byContradiction
    intro hn
    have : (lay r t m).getLsbD w = true := lay_bit.2 ⟨hw, fun j h1 h2 => by
      rw [← Bool.not_eq_true]; exact fun h3 => hn ⟨j, h1, h2, h3⟩⟩
    rw [h] at this; simp at this
  intro k
  induction k with
  | zero => intro w hk; omega
  | succ k ih =>
    intro w _ hw
    by_cases hk : k < m
    · exact ⟨k + 1, by omega, by omega, hw⟩
    by_cases hkm : k = m
    · subst hkm; exact h0 w hw
    obtain ⟨v, h1, h2⟩ := (near_bit hv).1 hw
    obtain ⟨j, h3, h4, h5⟩ := ih v (by omega) h2
    by_cases hj : j = m
    · subst hj; exact h0 w ((near_bit hv).2 ⟨v, h1, h5⟩)
    · exact ⟨j + 1, by omega, by omega, (near_bit hv).2 ⟨v, h1, h5⟩⟩
theorem none_of {f : W64} {m : Nat} (hv : Val r) (h : lay r t m = 0#64) (hf : ∀ d, d < m → lay r t d &&& f = 0#64) : ∀ k, 1 ≤ k → f &&& near r t k = 0#64 := by
  intro k hk
  refine eq_of_bits (fun i _ => ?_)
  rw [BitVec.getLsbD_and]
  cases hn : (near r t k).getLsbD i with
  | false => simp
  | true =>
    obtain ⟨j, h1, h2, h3⟩ := no_more hv h k i hk hn
    have := congrArg (fun x => BitVec.getLsbD x i) (no_near hf j h1 h2)
    simp only [BitVec.getLsbD_and, h3, Bool.and_true] at this
    rw [this]; simp
theorem lay_start (hv : Val r) {f : W64} {m : Nat} (hm : 1 ≤ m) (hf : ∀ d, d < m - 1 → lay r t d &&& f = 0#64) : lay r t (m - 1) &&& f &&& allW r.length = f &&& near r t m := by
  obtain ⟨d, rfl⟩ : ∃ d, m = d + 1 := ⟨m - 1, by omega⟩
  rw [Nat.add_sub_cancel] at *
  refine eq_of_bits (fun i hi => ?_)
  rw [BitVec.getLsbD_and, BitVec.getLsbD_and, BitVec.getLsbD_and, allW_bit hv.len hi, Bool.eq_iff_iff]
  simp only [Bool.and_eq_true, decide_eq_true_eq]
  constructor
  · rintro ⟨⟨h1, h2⟩, _⟩; exact ⟨h2, (lay_bit.1 h1).1⟩
  · rintro ⟨h1, h2⟩
    refine ⟨⟨lay_bit.2 ⟨h2, fun j hj hj2 => ?_⟩, h1⟩, near_lt hv h2⟩
    have := congrArg (fun x => BitVec.getLsbD x i) (no_near hf j hj hj2)
    simp only [BitVec.getLsbD_and, h1, Bool.true_and] at this
    rw [this]; simp
theorem AtL.start {f : W64} {m : Nat} (h : Short r f t m) : AtL r t m (tz (f &&& near r t m)) := by
  have hb := (tz_spec h.ne).2.1
  rw [BitVec.getLsbD_and, Bool.and_eq_true] at hb
  refine ⟨hb.2, fun j h1 h2 => ?_⟩
  have := congrArg (fun x => BitVec.getLsbD x (tz (f &&& near r t m))) (h.least j h1 h2)
  simp only [BitVec.getLsbD_and, hb.1, Bool.true_and] at this
  rw [this]; simp
end
theorem countP_lt {α : Type} {p q : α → Bool} : ∀ {l : List α}, (∀ x ∈ l, p x = true → q x = true) → (∃ x ∈ l, q x = true ∧ p x = false) → l.countP p < l.countP q
  | [], _, ⟨_, h, _⟩ => by cases h
  | a :: l, h, ⟨x, hx, h1, h2⟩ => by
    have hle : l.countP p ≤ l.countP q := List.countP_mono_left (fun y hy => h y (List.mem_cons_of_mem _ hy))
    rw [List.countP_cons, List.countP_cons]
    rcases List.mem_cons.1 hx with rfl | hx
    · rw [h1, h2]; simp; omega
    · have := countP_lt (fun y hy => h y (List.mem_cons_of_mem _ hy)) ⟨x, hx, h1, h2⟩
      have h3 := h a (List.mem_cons_self ..)
      cases hp : p a with
      | false => simp; split <;> omega
      | true => rw [h3 hp]; omega
/-- how many points a set has -/
def card (s : W64) : Nat := (List.range 64).countP (fun i => s.getLsbD i)
theorem card_lt {s t : W64} (h : s ||| t ≠ s) : card s < card (s ||| t) := by
  refine countP_lt (fun i _ hi => by rw [BitVec.getLsbD_or, hi]; rfl) ?_
  apply Classical.byContradiction
  intro hn
  apply h
  refine eq_of_bits (fun i hi => ?_)
  cases hs : s.getLsbD i with
  | true => rw [BitVec.getLsbD_or, hs]; rfl
  | false =>
    cases hu : (s ||| t).getLsbD i with
    | false => rfl
    | true => exact absurd ⟨i, List.mem_range.2 hi, hu, hs⟩ hn
theorem card_le (s : W64) : card s ≤ 64 := Nat.le_trans List.countP_le_length (by simp)
theorem card_le_n {s : W64} {n : Nat} (hn : n ≤ 64) (h : ∀ i, s.getLsbD i = true → i < n) : card s ≤ n := by
  have e : List.range 64 = List.range (n + (64 - n)) := by rw [show n + (64 - n) = 64 from by omega]
  unfold card
  rw [e, List.range_add, List.countP_append]
  have h2 : ((List.range (64 - n)).map (n + ·)).countP (fun i => s.getLsbD i) = 0 := by
    rw [List.countP_eq_zero]
    intro x hx
    obtain ⟨y, _, rfl⟩ := List.mem_map.1 hx
    intro hb
    have := h _ hb
    omega
  rw [h2]
  exact Nat.le_trans (Nat.add_le_add_right List.countP_le_length _) (by simp)
theorem card_seen {r : List W64} {t : W64} : ∀ {m : Nat}, (∀ d, d < m → lay r t d ≠ 0#64) → m ≤ card (seenU r t m)
  | 0, _ => Nat.zero_le _
  | m + 1, h => by
    have h1 := card_seen (m := m) (fun d hd => h d (by omega))
    have := card_lt (lay_grows (h m (by omega)))
    rw [← seen_succ] at this
    omega
/-- a shortest path is no longer than there are points -/
theorem Short.le {r : List W64} (hv : Val r) {f t : W64} {k : Nat} (h : Short r f t k) : k ≤ r.length := by
  have hne : ∀ d, d < k → lay r t d ≠ 0#64 := by
    intro d hd e
    obtain ⟨h1, h2⟩ := AtL.start h
    obtain ⟨j, h3, h4, h5⟩ := no_more hv e k _ h.one h1
    rw [h2 j h3 (by omega)] at h5; cases h5
  refine Nat.le_trans (card_seen hne) (card_le_n hv.len (fun i hi => ?_))
  obtain ⟨j, h1, _, h3⟩ := seen_bit.1 hi
  obtain ⟨j', rfl⟩ : ∃ j', j = j' + 1 := ⟨j - 1, by omega⟩
  exact near_lt hv h3
def layers (r : List W64) (t : W64) (m : Nat) : List W64 := (List.range m).map (lay r t)
theorem layers_length {r : List W64} {t : W64} {m : Nat} : (layers r t m).length = m := by simp [layers]
theorem layers_get {r : List W64} {t : W64} {m d : Nat} (h : d < m) : (layers r t m).getD d 0#64 = lay r t d := by simp [layers, List.getD_eq_getElem?_getD, h]
theorem layers_succ {r : List W64} {t : W64} {m : Nat} : layers r t m ++ [lay r t m] = layers r t (m + 1) := by simp [layers, List.range_succ]
theorem pathK_length {r : List W64} {t f : W64} {k : Nat} : (pathK r t f k).length = k + 1 := by
  have : ∀ c w, (tailP r t c w).length = c := by
    intro c
    induction c with
    | zero => intro w; rfl
    | succ c ih => intro w; rw [tailP, List.length_cons, ih]
  rw [pathK, List.length_cons, this]
/-- words of a machine as a number's value -/
abbrev N64 (i : Nat) : Value := .int .i64 i
end Go.Proofs.Wit
namespace Go.Proofs.Wit
open Go Go.RowKit
theorem upTo_if {σ : Type} {p : Nat → Bool} {f : Nat → σ → σ} {a : σ} : ∀ {n : Nat}, upTo (fun v a => if p v = true then f v a else a) a n = ((List.range n).filter p).foldl (fun a v => f v a) a
  | 0 => rfl
  | n + 1 => by
    rw [upTo, upTo_if, filter_range_succ, List.foldl_append]
    by_cases h : p n = true
    · rw [if_pos h, if_pos h]; rfl
    · rw [if_neg h, if_neg h]; rfl
theorem pts_range {s : W64} {n : Nat} (hn : n ≤ 64) (h : ∀ i, s.getLsbD i = true → i < n) : pts s = (List.range n).filter (fun i => s.getLsbD i) := by
  unfold pts
  have e : List.range 64 = List.range (n + (64 - n)) := by rw [show n + (64 - n) = 64 from by omega]
  rw [e, List.range_add, List.filter_append]
  have h2 : ((List.range (64 - n)).map (n + ·)).filter (fun i => s.getLsbD i) = [] := by
    rw [List.filter_eq_nil_iff]
    intro x hx
    obtain ⟨y, _, rfl⟩ := List.mem_map.1 hx
    intro hb
    have := h _ hb
    omega
  rw [h2, List.append_nil]
theorem in_bit {s : W64} {i : Nat} : ((s >>> i) &&& 1#64 == 1#64) = s.getLsbD i := by
  cases hb : s.getLsbD i with
  | true =>
    rw [beq_iff_eq]
    refine eq_of_bits (fun j _ => ?_)
    rw [BitVec.getLsbD_and, BitVec.getLsbD_ushiftRight, BitVec.getLsbD_one]
    by_cases e : j = 0
    · subst e; simp [hb]
    · simp [e]
  | false =>
    rw [beq_eq_false_iff_ne]
    intro e
    have := congrArg (fun x => BitVec.getLsbD x 0) e
    simp [hb] at this
theorem set_same {l : List W64} {k : Nat} (h : k < l.length) : l.set k (l.getD k 0#64) = l := by
  rw [List.getD_eq_getElem?_getD, List.getElem?_eq_getElem h]; exact List.set_getElem_self ..
/-- the words of Image, one by one -/
def imgU (r : List W64) (s : W64) (n : Nat) : W64 := upTo (fun u o => if s.getLsbD u = true then o ||| r.getD u 0#64 else o) 0#64 n
theorem imgU_bit {r : List W64} {s : W64} {n v : Nat} : (imgU r s n).getLsbD v = true ↔ ∃ w, w < n ∧ s.getLsbD w = true ∧ Rl r w v := by
  rw [imgU, upTo_if, foldl_or_bit]
  simp only [BitVec.getLsbD_zero, Bool.false_or, List.any_eq_true, List.mem_filter, List.mem_range]
  exact ⟨fun ⟨w, ⟨h1, h2⟩, h3⟩ => ⟨w, h1, h2, h3⟩, fun ⟨w, h1, h2, h3⟩ => ⟨w, ⟨h1, h2⟩, h3⟩⟩
theorem imgU_eq (r : List W64) (s : W64) : imgU r s r.length = mapR r s := by
  refine eq_of_bits (fun i _ => ?_)
  rw [Bool.eq_iff_iff, imgU_bit, mapR_bit]
  exact ⟨fun ⟨w, _, h⟩ => ⟨w, h⟩, fun ⟨w, h1, h2⟩ => ⟨w, h2.dom, h1, h2⟩⟩
/-- the lists of Converse, one by one -/
def revU (w : Nat) (s : W64) (out : List W64) (n : Nat) : List W64 := upTo (fun v out => if s.getLsbD v = true then out.set v (out.getD v 0#64 ||| 1#64 <<< w) else out) out n
theorem revU_length {w : Nat} {s : W64} {out : List W64} {n : Nat} : (revU w s out n).length = out.length :=
  upTo_inv (n := n) (fun _ (l : List W64) => l.length = out.length) rfl (fun k a _ h => by
    by_cases e : s.getLsbD k = true
    · rw [if_pos e, List.length_set]; exact h
    · rw [if_neg e]; exact h)
theorem revU_eq {w : Nat} {s : W64} {out : List W64} {n : Nat} (hn : n ≤ 64) (h : ∀ i, s.getLsbD i = true → i < n) : revU w s out n = revS w s out := by
  rw [revU, upTo_if, revS, pts_range hn h]
theorem union_eq {r s : List W64} (f : W64 → W64 → W64) : flm (fun w _ => f (r.getD w 0#64) (s.getD w 0#64)) (List.replicate r.length 0#64) r.length = flm (fun w x => f x (s.getD w 0#64)) r r.length := by
  refine list_ext (by simp [flm_length]) (fun u v => ?_)
  rcases Nat.lt_or_ge u r.length with h | h
  · rw [Rl.toBit, Rl.toBit, flm_get (by simpa using h), flm_get h, if_pos h, if_pos h]
  · constructor
    · intro x; have := x.dom; rw [flm_length, List.length_replicate] at this; omega
    · intro x; have := x.dom; rw [flm_length] at this; omega
theorem GoodS.least {g : List W64 → List W64} {F : List W64 → Prop} (h : GoodS g F) {r : List W64} (hv : Val r) (hF : F (g r)) : Least F r (g r) :=
  ⟨h.val hv, h.infl hv, hF, fun c hc hl hFc => by
    have := h.mono hv hc hl
    rwa [(h.fix hc).2 hFc] at this⟩
theorem Least.self {F : List W64 → Prop} {r c : List W64} (hv : Val r) (h : Least F r c) : c = r ↔ F r :=
  ⟨fun e => e ▸ h.has, fun hF => (h.least r hv (.refl r) hF).antisymm h.le⟩
theorem upTo_refl_length {r : List W64} {n : Nat} : (upTo reflS r n).length = r.length :=
  upTo_inv (n := n) (fun _ (l : List W64) => l.length = r.length) rfl (fun k a _ h => by rw [reflS, List.length_set]; exact h)
theorem refl_least {r : List W64} (hv : Val r) : Least reflR r (upTo reflS r r.length) := by
  refine refl_good.least hv ?_
  intro w hw
  simp only [upTo_refl_length] at hw
  have key : ∀ n, n ≤ r.length → ∀ w, w < n → Rl (upTo reflS r n) w w := by
    intro n
    induction n with
    | zero => intro _ w h; omega
    | succ n ih =>
      intro hn w hwn
      rw [upTo, reflS, set_bit]
      by_cases e : w = n
      · subst e
        exact .inr ⟨rfl, by rw [upTo_refl_length]; omega, (shift_one_bit (by have := hv.len; omega)).2 rfl⟩
      · exact .inl (ih (by omega) w (by omega))
  exact key _ (Nat.le_refl _) w hw
theorem symm_bit {r : List W64} (hv : Val r) (u v : Nat) : Rl (symmG r) u v ↔ Rl r u v ∨ Rl r v u := by
  rcases Nat.lt_or_ge u r.length with h | h
  · have e1 : Rl (symmG r) u v ↔ Rl r u v ∨ Rl (revR r) u v := by
      show ((flm _ r r.length).getD u 0#64).getLsbD v = true ↔ _
      rw [flm_get h, if_pos h, BitVec.getLsbD_or, Bool.or_eq_true]; rfl
    exact e1.trans (or_congr Iff.rfl (revR_bit hv h))
  · constructor
    · intro x
      have := x.dom
      rw [symmG, flm_length] at this
      omega
    · rintro (x | x)
      · have := x.dom; omega
      · have := hv.lt _ _ x; omega
theorem symm_least {r : List W64} (hv : Val r) : Least symmR r (symmG r) := by
  refine symm_good.least hv (fun u v h => ?_)
  exact (symm_bit hv v u).2 ((symm_bit hv u v).1 h).symm
/-- Box and Diamond, by their points -/
def diaU (r : List W64) (s : W64) (n : Nat) : W64 := upTo (fun w out => if (r.getD w 0#64 &&& s != 0#64) = true then out ||| 1#64 <<< w else out) 0#64 n
def boxU (r : List W64) (s : W64) (n : Nat) : W64 := upTo (fun w out => if (r.getD w 0#64 &&& ~~~s == 0#64) = true then out ||| 1#64 <<< w else out) 0#64 n
theorem upTo_ones {p : Nat → Bool} {n v : Nat} (hn : n ≤ 64) : (upTo (fun w (out : W64) => if p w = true then out ||| 1#64 <<< w else out) 0#64 n).getLsbD v = true ↔ v < n ∧ p v = true := by
  induction n with
  | zero => rw [upTo]; simp
  | succ n ih =>
    rw [upTo]
    by_cases h : p n = true
    · rw [if_pos h, BitVec.getLsbD_or, Bool.or_eq_true, ih (by omega), shift_one_bit (by omega)]
      constructor
      · rintro (⟨h1, h2⟩ | rfl)
        · exact ⟨by omega, h2⟩
        · exact ⟨by omega, h⟩
      · rintro ⟨h1, h2⟩
        by_cases e : v = n
        · exact .inr e
        · exact .inl ⟨by omega, h2⟩
    · rw [if_neg h, ih (by omega)]
      constructor
      · rintro ⟨h1, h2⟩; exact ⟨by omega, h2⟩
      · rintro ⟨h1, h2⟩
        refine ⟨?_, h2⟩
        rcases Nat.lt_succ_iff_lt_or_eq.1 h1 with h3 | rfl
        · exact h3
        · exact absurd h2 h
theorem boxU_bit {r : List W64} {s : W64} {v : Nat} (hv : Val r) : (boxU r s r.length).getLsbD v = true ↔ v < r.length ∧ ∀ u, Rl r v u → s.getLsbD u = true := by
  rw [boxU, upTo_ones hv.len, beq_iff_eq, andNot_zero]; rfl
theorem ne_zero_iff {s : W64} : s ≠ 0#64 ↔ ∃ i, s.getLsbD i = true := by
  constructor
  · intro h; exact ⟨tz s, (tz_spec h).2.1⟩
  · rintro ⟨i, hi⟩ rfl; simp at hi
theorem diaU_bit {r : List W64} {s : W64} {v : Nat} (hv : Val r) : (diaU r s r.length).getLsbD v = true ↔ ∃ u, Rl r v u ∧ s.getLsbD u = true := by
  rw [diaU, upTo_ones hv.len, bne_iff_ne, ne_zero_iff]
  simp only [BitVec.getLsbD_and, Bool.and_eq_true]
  constructor
  · rintro ⟨_, u, h1, h2⟩; exact ⟨u, h1, h2⟩
  · rintro ⟨u, h1, h2⟩; exact ⟨h1.dom, u, h1, h2⟩
theorem dia_eq {r : List W64} {s : W64} (hv : Val r) : allW r.length &&& ~~~ (boxU r (~~~s) r.length) = diaU r s r.length := by
  refine eq_of_bits (fun i hi => ?_)
  rw [Bool.eq_iff_iff, diaU_bit hv, BitVec.getLsbD_and, allW_bit hv.len hi, BitVec.getLsbD_not, Bool.and_eq_true, Bool.and_eq_true, decide_eq_true_eq, decide_eq_true_eq, Bool.not_eq_true', ← Bool.not_eq_true, boxU_bit hv]
  constructor
  · rintro ⟨h1, _, h2⟩
    apply Classical.byContradiction
    intro hn
    refine h2 ⟨h1, fun u hu => ?_⟩
    rw [BitVec.getLsbD_not, decide_eq_true (bit_lt hu), Bool.true_and, Bool.not_eq_true', ← Bool.not_eq_true]
    exact fun h3 => hn ⟨u, hu, h3⟩
  · rintro ⟨u, h1, h2⟩
    refine ⟨h1.dom, hi, fun h3 => ?_⟩
    have := h3.2 u h1
    rw [BitVec.getLsbD_not, h2] at this
    simp at this
/-- Reach by rounds -/
def reachU (r : List W64) (s : W64) (n : Nat) : W64 := upTo (fun _ o => o ||| mapR r o) (mapR r s) n
theorem reachU_least {r : List W64} {s : W64} (hv : Val r) :
    mapR r s &&& ~~~(reachU r s r.length) = 0#64 ∧ mapR r (reachU r s r.length) &&& ~~~(reachU r s r.length) = 0#64 ∧ ∀ c, mapR r s &&& ~~~c = 0#64 → mapR r c &&& ~~~c = 0#64 → reachU r s r.length &&& ~~~c = 0#64 := by
  have hb : ∀ n, mapR r s &&& ~~~(reachU r s n) = 0#64 := by
    intro n
    induction n with
    | zero => exact andNot_zero.2 (fun i h => h)
    | succ n ih => exact sub_or ih
  have hc : ∀ c, mapR r s &&& ~~~c = 0#64 → mapR r c &&& ~~~c = 0#64 → ∀ n, reachU r s n &&& ~~~c = 0#64 := by
    intro c h1 h2 n
    induction n with
    | zero => exact h1
    | succ n ih => exact or_sub ih (map_sub ih h2)
  have hd : ∀ n i, (reachU r s n).getLsbD i = true → i < r.length := by
    intro n
    induction n with
    | zero => intro i h; obtain ⟨w, _, h⟩ := mapR_bit.1 h; exact hv.lt w i h
    | succ n ih =>
      intro i h
      rw [reachU, upTo, BitVec.getLsbD_or, Bool.or_eq_true] at h
      rcases h with h | h
      · exact ih i h
      · obtain ⟨w, _, h⟩ := mapR_bit.1 h; exact hv.lt w i h
  refine ⟨hb _, ?_, fun c h1 h2 => hc c h1 h2 _⟩
  -- the rounds stand still at some round
  have key : ∀ n, (mapR r (reachU r s n) &&& ~~~(reachU r s n) = 0#64) ∨ n + 1 ≤ card (reachU r s n) := by
    intro n
    induction n with
    | zero =>
      by_cases h0 : mapR r s = 0#64
      · refine .inl ?_
        show mapR r (mapR r s) &&& ~~~(mapR r s) = 0#64
        rw [h0, andNot_zero]
        intro i hi
        obtain ⟨w, h1, _⟩ := mapR_bit.1 hi
        simp at h1
      · refine .inr ?_
        have := card_lt (s := 0#64) (t := mapR r s) (by simpa using h0)
        rw [BitVec.zero_or] at this
        show 1 ≤ card (mapR r s)
        omega
    | succ n ih =>
      by_cases e : reachU r s n ||| mapR r (reachU r s n) = reachU r s n
      · refine .inl ?_
        have e2 : reachU r s (n + 1) = reachU r s n := e
        rw [e2]; exact or_eq_left e
      · rcases ih with h | h
        · exact absurd (by
            refine eq_of_bits (fun i _ => ?_)
            rw [BitVec.getLsbD_or]
            cases hm : (mapR r (reachU r s n)).getLsbD i with
            | false => simp
            | true => rw [andNot_zero.1 h i hm]; rfl) e
        · refine .inr ?_
          have := card_lt e
          have e2 : reachU r s (n + 1) = reachU r s n ||| mapR r (reachU r s n) := rfl
          rw [e2]; omega
  rcases key r.length with h | h
  · exact h
  · have := card_le_n hv.len (hd r.length)
    omega
end Go.Proofs.Wit
namespace Go.Proofs.Wit
theorem mapR_all {r : List W64} {s : W64} (hv : Val r) : mapR r (s &&& allW r.length) = mapR r s := by
  refine eq_of_bits (fun i _ => ?_)
  rw [Bool.eq_iff_iff, mapR_bit, mapR_bit]
  constructor
  · rintro ⟨w, h1, h2⟩
    rw [BitVec.getLsbD_and, Bool.and_eq_true] at h1
    exact ⟨w, h1.1, h2⟩
  · rintro ⟨w, h1, h2⟩
    refine ⟨w, ?_, h2⟩
    rw [BitVec.getLsbD_and, h1, allW_bit hv.len (bit_lt h1)]
    simpa using h2.dom
/-- the reference's step at a pair -/
def pairAt (e : Bool) (w u : Nat) : Nat := if e = true then u else w
def pairSrc (e : Bool) (w u : Nat) : Nat := if e = true then w else u
def pairS (e : Bool) (w u : Nat) (l : List W64) : List W64 := l.set (pairAt e w u) (l.getD (pairAt e w u) 0#64 ||| l.getD (pairSrc e w u) 0#64)
def stG (e : Bool) (w u : Nat) (l : List W64) : List W64 := if (l.getD w 0#64).getLsbD u = true then pairS e w u l else l
def clG (e : Bool) (w u : Nat) (l : List W64) : Prop := Rl l w u → ∀ x, Rl l (pairSrc e w u) x → Rl l (pairAt e w u) x
def allG (e : Bool) (l : List W64) : Prop := if e = true then euclR l else tranR l
theorem allG_iff {e : Bool} {l : List W64} : allG e l ↔ ∀ w u, clG e w u l := by
  unfold allG clG pairAt pairSrc
  cases e
  · simp only [Bool.false_eq_true, if_false]
    exact ⟨fun h w u h1 x h2 => h w u x h1 h2, fun h w u x h1 h2 => h w u h1 x h2⟩
  · simp only [if_true]
    exact ⟨fun h w u h1 x h2 => h w u x h1 h2, fun h w u x h1 h2 => h w u h1 x h2⟩
theorem pair_good (e : Bool) (w u : Nat) : GoodS (stG e w u) (clG e w u) := by
  refine (GoodS.ofBits (fun l a b => Rl l w u ∧ a = pairAt e w u ∧ Rl l (pairSrc e w u) b) (fun l => ?_) (fun l hv a b => ?_) (fun l hv a b h => hv.lt _ _ h.2.2) (fun l m _ _ le a b h => ⟨le.sub _ _ h.1, h.2.1, le.sub _ _ h.2.2⟩)).iff (fun {l} _ => ?_)
  · unfold stG; split
    · rw [pairS, List.length_set]
    · rfl
  · unfold stG
    by_cases h : (l.getD w 0#64).getLsbD u = true
    · rw [if_pos h, pairS, set_bit]
      refine or_congr Iff.rfl ⟨fun ⟨h1, _, h2⟩ => ⟨h, h1, h2⟩, fun ⟨_, h1, h2⟩ => ⟨h1, ?_, h2⟩⟩
      unfold pairAt; split
      · exact hv.lt w u h
      · exact Rl.dom (v := u) h
    · rw [if_neg h]
      exact ⟨.inl, fun x => x.elim (fun x => x) (fun x => absurd x.1 h)⟩
  · exact ⟨fun h h1 x h2 => h _ x ⟨h1, rfl, h2⟩, fun h a b ⟨h1, h2, h3⟩ => h2 ▸ h h1 b h3⟩
/-- what is known of the list in a pass of the reference -/
structure Pass (e : Bool) (r o0 out : List W64) (again : Bool) (k j : Nat) : Prop where
  val : Val out
  le : Le r out
  min : ∀ c, Val c → Le r c → allG e c → Le out c
  up : Le o0 out
  yes : again = true → o0 ≠ out
  no : again = false → out = o0 ∧ ∀ w u, (w < k ∨ (w = k ∧ u < j)) → clG e w u out
theorem Pass.go {e : Bool} {r o0 out : List W64} {again : Bool} {k j : Nat} (h : Pass e r o0 out again k j) (again' : Bool) (hy : again' = true → again = true ∨ stG e k j out ≠ out) (hn : again' = false → again = false ∧ stG e k j out = out) :
    Pass e r o0 (stG e k j out) again' k (j + 1) where
  val := (pair_good e k j).val h.val
  le := h.le.trans ((pair_good e k j).infl h.val)
  min c h1 h2 h3 := by
    have := (pair_good e k j).mono h.val h1 (h.min c h1 h2 h3)
    rwa [((pair_good e k j).fix h1).2 (allG_iff.1 h3 k j)] at this
  up := h.up.trans ((pair_good e k j).infl h.val)
  yes ha := by
    intro e1
    have hle := (pair_good e k j).infl h.val
    have : Le out o0 := by rw [e1]; exact hle
    have e2 : o0 = out := h.up.antisymm this
    rcases hy ha with h3 | h3
    · exact h.yes h3 e2
    · exact h3 (e1.symm.trans e2)
  no ha := by
    obtain ⟨h1, h2⟩ := hn ha
    obtain ⟨h3, h4⟩ := h.no h1
    refine ⟨h2.trans h3, fun w u hwu => ?_⟩
    rw [h2]
    rcases hwu with h5 | ⟨rfl, h5⟩
    · exact h4 w u (.inl h5)
    · rcases Nat.lt_succ_iff_lt_or_eq.1 h5 with h6 | rfl
      · exact h4 w u (.inr ⟨rfl, h6⟩)
      · exact ((pair_good e w u).fix h.val).1 h2
theorem Pass.row {e : Bool} {r o0 out : List W64} {again : Bool} {k j : Nat} (h : Pass e r o0 out again k j) (hj : out.length ≤ j) : Pass e r o0 out again (k + 1) 0 :=
  { h with no := fun ha => ⟨(h.no ha).1, fun w u hwu => by
      rcases hwu with h5 | ⟨_, h5⟩
      · rcases Nat.lt_succ_iff_lt_or_eq.1 h5 with h6 | rfl
        · exact (h.no ha).2 w u (.inl h6)
        · by_cases hu : u < j
          · exact (h.no ha).2 w u (.inr ⟨rfl, hu⟩)
          · intro h7
            have := h.val.lt _ _ h7
            omega
      · omega⟩ }
theorem Pass.done {e : Bool} {r o0 out : List W64} {k : Nat} (h : Pass e r o0 out false k 0) (hk : out.length ≤ k) : allG e out :=
  allG_iff.2 (fun w u => by
    by_cases hw : w < k
    · exact (h.no rfl).2 w u (.inl hw)
    · intro h7
      have := h7.dom
      omega)
/-- the lists of near points -/
def nearL (r : List W64) (t : W64) (k : Nat) : List W64 := (List.range (k + 1)).map (near r t)
theorem nearL_length {r : List W64} {t : W64} {k : Nat} : (nearL r t k).length = k + 1 := by simp [nearL]
theorem nearL_get {r : List W64} {t : W64} {k j : Nat} (h : j ≤ k) : (nearL r t k).getD j 0#64 = near r t j := by simp [nearL, List.getD_eq_getElem?_getD, Nat.lt_succ_of_le h]
theorem nearL_succ {r : List W64} {t : W64} {k : Nat} : nearL r t k ++ [near r t (k + 1)] = nearL r t (k + 1) := by
  unfold nearL; rw [List.range_succ (n := k + 1), List.map_append]; rfl
theorem near_dia {r : List W64} {t : W64} {k : Nat} (hv : Val r) : diaU r (near r t k) r.length = near r t (k + 1) := by
  refine eq_of_bits (fun i _ => ?_)
  rw [Bool.eq_iff_iff, diaU_bit hv, near_bit hv]
/-- the rest of the reference's walk, with c rounds to go -/
def walkR (r : List W64) (t : W64) : Nat → W64 → List Nat
  | 0, _ => []
  | c + 1, s => tz (s &&& near r t c) :: tailP r t c (tz (s &&& near r t c))
theorem walkR_next {r : List W64} {t s : W64} {c : Nat} : walkR r t (c + 1) s = tz (s &&& near r t c) :: walkR r t c (r.getD (tz (s &&& near r t c)) 0#64) := by
  cases c <;> rfl
/-- a round of the reference's walk finds a point -/
def WalkOk (r : List W64) (t : W64) : Nat → W64 → Prop
  | 0, _ => True
  | c + 1, s => s &&& near r t c ≠ 0#64 ∧ AtL r t c (tz (s &&& near r t c))
theorem WalkOk.next {r : List W64} {t s : W64} {c : Nat} (hv : Val r) (h : WalkOk r t (c + 1) s) : WalkOk r t c (r.getD (tz (s &&& near r t c)) 0#64) := by
  cases c with
  | zero => trivial
  | succ c => exact ⟨(h.2.next hv).1, (h.2.next hv).2.1⟩
end Go.Proofs.Wit
namespace Go.Proofs.Wit
theorem exists_short {r : List W64} {f t : W64} : ∀ {k : Nat}, 1 ≤ k → f &&& near r t k ≠ 0#64 → ∃ j, Short r f t j := by
  intro k
  induction k using Nat.strongRecOn with
  | _ k ih =>
    intro h1 h2
    by_cases hx : ∃ j, 1 ≤ j ∧ j < k ∧ f &&& near r t j ≠ 0#64
    · obtain ⟨j, h3, h4, h5⟩ := hx
      exact ih j h4 h3 h5
    · exact ⟨k, h1, h2, fun j h3 h4 => Classical.byContradiction (fun h5 => hx ⟨j, h3, h4, h5⟩)⟩
theorem none_le {r : List W64} {f t : W64} (hv : Val r) (h : ∀ j, 1 ≤ j → j ≤ r.length → f &&& near r t j = 0#64) : ∀ k, 1 ≤ k → f &&& near r t k = 0#64 := by
  intro k hk
  apply Classical.byContradiction
  intro hn
  obtain ⟨j, hj⟩ := exists_short hk hn
  exact hj.ne (h j hj.one (hj.le hv))
theorem and_near {a b : W64} : (a &&& b) &&& a = b &&& a := by
  refine eq_of_bits (fun i _ => ?_)
  simp only [BitVec.getLsbD_and]
  cases a.getLsbD i <;> simp
theorem walk_path {r : List W64} {f t : W64} {k : Nat} : walkR r t (k + 1) (near r t k &&& f) = pathK r t f k := by
  rw [walkR, pathK, and_near]
theorem walk_ok {r : List W64} {f t : W64} {k : Nat} (h : Short r f t k) : WalkOk r t (k + 1) (near r t k &&& f) := by
  refine ⟨by rw [and_near]; exact h.ne, ?_⟩
  rw [and_near]; exact AtL.start h
end Go.Proofs.Wit
namespace Go.Proofs.Wit
open Go Go.RowKit
/-! the laws that are independent of the reference -/
theorem rev_val {r : List W64} (hv : Val r) : Val (revR r) := ⟨by rw [revR_length]; exact hv.len, fun u v x => by
  have hd := x.dom
  rw [revR_length] at *
  exact ((revR_bit hv hd).1 x).dom⟩
theorem and_all_lt {r : List W64} {s : W64} (hv : Val r) {i : Nat} (h : (s &&& allW r.length).getLsbD i = true) : i < r.length := by
  rw [BitVec.getLsbD_and, Bool.and_eq_true] at h
  rw [allW_bit hv.len (bit_lt h.1)] at h
  simpa using h.2
theorem dual_box {r : List W64} {s : W64} (hv : Val r) : boxU r s r.length = allW r.length &&& ~~~(diaU r (allW r.length &&& ~~~s) r.length) := by
  refine eq_of_bits (fun i hi => ?_)
  rw [Bool.eq_iff_iff, boxU_bit hv, BitVec.getLsbD_and, allW_bit hv.len hi, BitVec.getLsbD_not, Bool.and_eq_true, Bool.and_eq_true, decide_eq_true_eq, decide_eq_true_eq, Bool.not_eq_true', ← Bool.not_eq_true, diaU_bit hv]
  constructor
  · rintro ⟨h1, h2⟩
    refine ⟨h1, hi, ?_⟩
    rintro ⟨u, h3, h4⟩
    rw [BitVec.getLsbD_and, BitVec.getLsbD_not, h2 u h3] at h4
    simp at h4
  · rintro ⟨h1, _, h2⟩
    refine ⟨h1, fun u hu => ?_⟩
    apply Classical.byContradiction
    intro hn
    apply h2
    refine ⟨u, hu, ?_⟩
    have hul := bit_lt hu
    have hn2 : s.getLsbD u = false := by rw [← Bool.not_eq_true]; exact hn
    rw [BitVec.getLsbD_and, BitVec.getLsbD_not, allW_bit hv.len hul, hn2]
    simp [hv.lt _ _ hu, hul]
theorem dual_sub {r : List W64} {s t : W64} (hv : Val r) (hs : ∀ i, s.getLsbD i = true → i < r.length) :
    (s &&& ~~~(boxU r t r.length) = 0#64) ↔ (diaU (revR r) s (revR r).length &&& ~~~t = 0#64) := by
  rw [andNot_zero, andNot_zero]
  constructor
  · intro h i hi
    obtain ⟨u, h1, h2⟩ := (diaU_bit (rev_val hv)).1 hi
    have hd := h1.dom
    rw [revR_length] at hd
    exact ((boxU_bit hv).1 (h u h2)).2 i ((revR_bit hv hd).1 h1)
  · intro h i hi
    exact (boxU_bit hv).2 ⟨hs i hi, fun u hu => h u ((diaU_bit (rev_val hv)).2 ⟨i, (revR_bit hv (hv.lt _ _ hu)).2 hu, hi⟩)⟩
theorem beq_iff {a b : W64} (h : a = 0#64 ↔ b = 0#64) : ((a == 0#64) == (b == 0#64)) = true := by
  rw [beq_iff_eq, Bool.eq_iff_iff, beq_iff_eq, beq_iff_eq]; exact h
end Go.Proofs.Wit
namespace Go.Proofs.Wit
open Go Go.RowKit
def compW (r s : List W64) : List W64 := flm (fun w _ => mapR s (r.getD w 0#64)) (List.replicate r.length 0#64) r.length
theorem compW_length {r s : List W64} : (compW r s).length = r.length := by rw [compW, flm_length, List.length_replicate]
theorem compW_bit {r s : List W64} {u v : Nat} : Rl (compW r s) u v ↔ ∃ x, Rl r u x ∧ Rl s x v := by
  rcases Nat.lt_or_ge u r.length with h | h
  · have e1 : Rl (compW r s) u v ↔ (mapR s (r.getD u 0#64)).getLsbD v = true := by
      rw [Rl.toBit, compW, flm_get (by simpa using h), if_pos h]
    rw [e1, mapR_bit]; rfl
  · constructor
    · intro x; have := x.dom; rw [compW_length] at this; omega
    · rintro ⟨x, h1, _⟩; have := h1.dom; omega
theorem compW_val {r s : List W64} (hr : Val r) (hs : Val s) (hl : s.length = r.length) : Val (compW r s) := ⟨by rw [compW_length]; exact hr.len, fun u v h => by
  obtain ⟨x, _, h2⟩ := compW_bit.1 h
  rw [compW_length, ← hl]; exact hs.lt _ _ h2⟩
theorem compW_assoc {r s t : List W64} : compW (compW r s) t = compW r (compW s t) := by
  refine list_ext (by simp only [compW_length]) (fun u v => ?_)
  rw [compW_bit, compW_bit]
  constructor
  · rintro ⟨x, h1, h2⟩
    obtain ⟨y, h3, h4⟩ := compW_bit.1 h1
    exact ⟨y, h3, compW_bit.2 ⟨x, h4, h2⟩⟩
  · rintro ⟨y, h3, h5⟩
    obtain ⟨x, h4, h2⟩ := compW_bit.1 h5
    exact ⟨x, compW_bit.2 ⟨y, h3, h4⟩, h2⟩
theorem rev_bit' {r : List W64} (hv : Val r) {u v : Nat} : Rl (revR r) u v ↔ Rl r v u := by
  constructor
  · intro h
    have hd := h.dom
    rw [revR_length] at hd
    exact (revR_bit hv hd).1 h
  · intro h; exact (revR_bit hv (hv.lt _ _ h)).2 h
theorem compW_rev {r s : List W64} (hr : Val r) (hs : Val s) (hl : s.length = r.length) : revR (compW r s) = compW (revR s) (revR r) := by
  refine list_ext (by rw [revR_length, compW_length, compW_length, revR_length, hl]) (fun u v => ?_)
  rw [rev_bit' (compW_val hr hs hl), compW_bit, compW_bit]
  constructor
  · rintro ⟨x, h1, h2⟩; exact ⟨x, (rev_bit' hs).2 h2, (rev_bit' hr).2 h1⟩
  · rintro ⟨x, h1, h2⟩; exact ⟨x, (rev_bit' hr).1 h2, (rev_bit' hs).1 h1⟩
theorem compW_dia {r s : List W64} {z : W64} (hr : Val r) (hs : Val s) (hl : s.length = r.length) : diaU (compW r s) z (compW r s).length = diaU r (diaU s z s.length) r.length := by
  refine eq_of_bits (fun i _ => ?_)
  rw [Bool.eq_iff_iff, diaU_bit (compW_val hr hs hl), diaU_bit hr]
  constructor
  · rintro ⟨u, h1, h2⟩
    obtain ⟨x, h3, h4⟩ := compW_bit.1 h1
    exact ⟨x, h3, (diaU_bit hs).2 ⟨u, h4, h2⟩⟩
  · rintro ⟨x, h3, h5⟩
    obtain ⟨u, h4, h2⟩ := (diaU_bit hs).1 h5
    exact ⟨u, compW_bit.2 ⟨x, h3, h4⟩, h2⟩
theorem compW_box {r s : List W64} {z : W64} (hr : Val r) (hs : Val s) (hl : s.length = r.length) : boxU (compW r s) z (compW r s).length = boxU r (boxU s z s.length) r.length := by
  refine eq_of_bits (fun i _ => ?_)
  rw [Bool.eq_iff_iff, boxU_bit (compW_val hr hs hl), boxU_bit hr, compW_length]
  refine and_congr_right (fun _ => ?_)
  constructor
  · intro h x h1
    exact (boxU_bit hs).2 ⟨hl ▸ hr.lt _ _ h1, fun u h2 => h u (compW_bit.2 ⟨x, h1, h2⟩)⟩
  · intro h u h1
    obtain ⟨x, h2, h3⟩ := compW_bit.1 h1
    exact ((boxU_bit hs).1 (h x h2)).2 u h3
end Go.Proofs.Wit
namespace Go.Proofs.Wit
open Go Go.RowKit
/-! calls that turn one block of the caller's -/
/-- a callee that turns the block q at most -/
def CnT (P : Program) (gf : FuncId) (args : List Value) (w : World) (q : Option Nat) (Rc : Value → World → Prop) : Prop :=
  Calls P gf args.toArray w fun e w' => ∃ v, e = .returned v ∧ Ex q.toList w w' ∧ Rc v w'
section
variable {w0 w w' : World} {S : List Nat} {h : Hl} {Y : List (Nat × Obj)}
theorem St.noneSet (s : St w0 S w h Y) (j : Nat) (o : Obj) : St w0 S w (h.set j ((Option.none : Option Nat), o)) Y := by
  refine ⟨s.ext, fun p hp c hc => ?_, ?_, s.sys, s.ynd⟩
  · obtain ⟨i, hi⟩ := List.mem_iff_getElem?.1 hp
    rw [List.getElem?_set] at hi
    split at hi
    · simp at hi; obtain ⟨_, rfl⟩ := hi; cases hc
    · exact s.own p (List.mem_of_getElem? hi) c hc
  · rw [List.pairwise_iff_getElem]
    intro i i' hi hi' hlt c hc hc'
    rw [List.length_set] at hi hi'
    rw [List.getElem_set] at hc hc'
    split at hc
    · cases hc
    · split at hc'
      · cases hc'
      · exact List.pairwise_iff_getElem.1 s.apart i i' hi hi' hlt c hc hc'
theorem St.turned (s : St w0 S w h Y) {j : Nat} {q : Option Nat} {o o' : Obj} (hj : h[j]? = some (q, o)) (ho : isSys o' = false) (e : Ex q.toList w w') (hb : ∀ b, q = some b → w'.heap[b]? = some o') : St w0 S w' (h.set j (q, o')) Y := by
  cases q with
  | none => exact (s.later e).noneSet j o'
  | some b => exact s.turn hj ho e.os e.tape e.output e.size (hb b rfl) (fun i hi hn => e.block i hi (by simpa using hn))
theorem st_one {w : World} {q : Option Nat} {o : Obj} (ho : isSys o = false) (hb : ∀ b, q = some b → w.heap[b]? = some o) : St w q.toList w [(q, o)] [] := by
  refine ⟨Ex.refl _ _, fun p hp b hpb => ?_, List.pairwise_singleton _ _, by simp, by simp⟩
  obtain rfl := List.mem_singleton.1 hp
  simp only at hpb; subst hpb
  exact ⟨hb b rfl, ho, .inr (by simp)⟩
variable {P : Program} {f : FuncId} {R : Value → World → Prop} {r : Option Nat} {n : Nat} {k : List Item} {l : Fl} {fn : Func}
theorem CnT.of {c : Code} {args : List Value} {q : Option Nat} {o : Obj} {Rc : Value → World → Prop} (hf : P.funcs[f]? = some fn) (hb : fn.body = some c) (hn : Nat.ble args.length fn.ntmps = true)
    (ho : isSys o = false) (hq : ∀ b, q = some b → w0.heap[b]? = some o)
    (hgo : GoH P none f (fun v w' => Ex q.toList w0 w' ∧ Rc v w') w0 q.toList [] fn.ntmps [.code c] (parL 0 args) [(q, o)]) : CnT P f args w0 q Rc := by
  unfold CnT; exact calls_of hf hb hn _ (st_one ho hq) hgo
variable {ops : Array Oper} {i d : Nat} {rest : List Nat} {ty : TypeId} {pos : String} {aft : Array Edge} {g : Option (Nat × Bool)}
theorem GoH.callT {az : Array Operand} {ts : Array TypeId} {cal : Operand} {gf : FuncId} {vs : List Value} {q : Option Nat} {o : Obj} (o' : Obj) (j : Nat) (ho : ops[i]? = some ⟨some d, .call ⟨.value cal, az, ts⟩, ty, pos, aft, g⟩) (hw : wantL ops l g = true)
    (hc : opd l cal = some (.func (.func gf) #[] #[])) (hx : opds l az.toList = some vs) (hd : Nat.blt d n = true) (hj : h[j]? = some (q, o)) (hs : isSys o' = false) (hcf : ∀ args w, (callFunc gf args).run P w = .ok (.enter gf args) w)
    (hcall : ∀ w Y', St w0 S w h Y' → CnT P gf vs w q (fun _ w' => ∀ b, q = some b → w'.heap[b]? = some o'))
    (hk : ∀ v, GoH P r f R w0 S Y n (.inRegion ops rest :: k) ((d, v) :: l) (h.set j (q, o'))) : GoH P r f R w0 S Y n (.inRegion ops (i :: rest) :: k) l h :=
  .callG ho hw hc hx hd hcf (fun w Ds hS => ⟨fun u w' => Ex q.toList w w' ∧ ∀ b, q = some b → w'.heap[b]? = some o', by
    have := hcall w Ds hS
    unfold CnT at this
    simpa using this, fun u w' ⟨he, hu⟩ => ⟨_, hS.turned hj hs he hu, hk u⟩⟩)
end
end Go.Proofs.Wit
namespace Go.Proofs.Wit
open Go Go.RowKit
section
variable {P : Program} {r : Option Nat} {f : FuncId} {R : Value → World → Prop} {w0 : World} {S : List Nat} {Y : List (Nat × Obj)} {n : Nat} {k : List Item} {l : Fl} {h : Hl}
variable {ops : Array Oper} {i d : Nat} {rest : List Nat} {ty : TypeId} {pos : String} {aft : Array Edge} {g : Option (Nat × Bool)}
/-- append(out, xs...), xs read, and perhaps empty -/
theorem GoH.appZ {α : Type} (enc : α → Value) {t e : TypeId} {x y : Operand} {inf : TypeInfo} {z : Value} {b0 : Nat} {xs : List α} {sp : List Value} {cap : Nat} {an : Option Addr} {m c : Nat} (news : List α)
    (ho : ops[i]? = some ⟨some d, .call ⟨.builtin .append, #[x, y], #[t, t]⟩, ty, pos, aft, g⟩) (hw : wantL ops l g = true) (hx : opd l x = some (osv (some b0) xs.length cap)) (hy : opd l y = some (.slice an m c)) (hd : Nat.blt d n = true)
    (hu : P.underlying t = some (.slice e)) (hi : P.info? e = some inf) (hz : inf.zero = some z) (hsz : inf.size = 1) (hz1 : z.cells.size = 1)
    (j : Nat) (hj : h[j]? = some (some b0, ob enc e xs sp)) (hsl : ∀ w Y', St w0 S w h Y' → Sl w an (news.map enc))
    (hcap : (xs.map enc ++ sp).length = cap) (hl : m = news.length) (h1 : ∀ u, (enc u).oneCell' = true) (hmx : xs.length + m ≤ maxLen) (hbytes : (xs.length + m) * inf.bytes ≤ 140737488355328)
    (hk : ∀ b' sp' cap', ((xs ++ news).map enc ++ sp').length = cap' → GoH P r f R w0 S Y n (.inRegion ops rest :: k) ((d, osv (some b') (xs ++ news).length cap') :: l) (h.set j (some b', ob enc e (xs ++ news) sp'))) : GoH P r f R w0 S Y n (.inRegion ops (i :: rest) :: k) l h := by
  by_cases hm : m = 0
  · subst hm
    obtain rfl : news = [] := List.eq_nil_of_length_eq_zero hl.symm
    have hle : xs.length ≤ cap := by rw [← hcap]; simp
    have := hk b0 sp cap (by rw [List.append_nil]; exact hcap)
    rw [List.append_nil] at this
    have hset : h.set j (some b0, ob enc e xs sp) = h := by
      obtain ⟨h2, h3⟩ := List.getElem?_eq_some_iff.1 hj
      rw [← h3]; exact List.set_getElem_self ..
    rw [hset] at this
    exact GoH.v (Vop.blt (vs := [osv (some b0) xs.length cap, .slice an 0 c]) ho hw (by simp [opds, hx, hy]) (blt_app0 hu hi hle) hd) this
  · exact GoH.appS enc news ho hw hx hy hd hu hi hz hsz hz1 (fun e => by cases e) j hj hsl hcap hl (by omega) h1 hmx hbytes hk
end
end Go.Proofs.Wit
namespace Go.Proofs.Wit
open Go Go.RowKit
/-- a nil slice's entry -/
theorem GoH.addNone {P : Program} {r : Option Nat} {f : FuncId} {R : Value → World → Prop} {w0 : World} {S : List Nat} {Y : List (Nat × Obj)} {n : Nat} {k : List Item} {l : Fl} {h : Hl} (o : Obj)
    (hg : GoH P r f R w0 S Y n k l ((none, o) :: h)) : GoH P r f R w0 S Y n k l h := fun t w Ds hF hS => hg t w Ds hF (hS.none o)
end Go.Proofs.Wit
namespace Go.Proofs.Wit
open Go Go.RowKit
section
variable {P : Program} {r : Option Nat} {f : FuncId} {R : Value → World → Prop} {w0 : World} {S : List Nat} {Y : List (Nat × Obj)} {n : Nat} {k : List Item} {l : Fl} {h : Hl}
variable {ops : Array Oper} {i d : Nat} {rest : List Nat} {ty : TypeId} {pos : String} {aft : Array Edge} {g : Option (Nat × Bool)}
theorem GoH.bs3 {t e : TypeId} {x0 x1 x2 : Operand} {v0 v1 v2 : Value} {inf : TypeInfo} {z : Value} (ho : ops[i]? = some ⟨some d, .buildSlice t 3 #[(0, x0), (1, x1), (2, x2)], ty, pos, aft, g⟩) (hw : wantL ops l g = true) (hx0 : opd l x0 = some v0) (hx1 : opd l x1 = some v1) (hx2 : opd l x2 = some v2) (hd : Nat.blt d n = true)
    (hu : P.underlying t = some (.slice e)) (hi : P.info? e = some inf) (hz : inf.zero = some z) (hsz : inf.size = 1) (hz1 : z.cells = #[z]) (hv0 : v0.cells = #[v0]) (hv1 : v1.cells = #[v1]) (hv2 : v2.cells = #[v2])
    (hk : ∀ b, GoH P r f R w0 S Y n (.inRegion ops rest :: k) ((d, .slice (some ⟨b, 0, none⟩) 3 3) :: l) ((some b, .cells ([v0, v1, v2] ++ []).toArray e) :: h)) : GoH P r f R w0 S Y n (.inRegion ops (i :: rest) :: k) l h :=
  .mem ho hw rfl rfl hd (fun t' w Ds _ hF hS => ⟨.slice (some ⟨w.heap.size, 0, none⟩) 3 3, w.alloc (.cells ([v0, v1, v2] ++ []).toArray e), _, by
    simp [execOp, hF.opd hx0, hF.opd hx1, hF.opd hx2, Instr.buildSlice, run_underlying hu, sizeOf, zeroValue, typeInfo, hi, hsz, hz, Instr.fill, hv0, hv1, hv2, newRow, hz1]
    rw [show Array.range 3 = #[0, 1, 2] from by decide]; simp, hS.alloc rfl, hk _⟩)
end
section
variable {P : Program} {t : TypeId} {a b : Int} {x y : W64} {v : Bool}
theorem bEqV {k : IntKind} (e : (a == b) = v) : Bin P .eql t (.int k a) (.int k b) (.bool v) := e ▸ bEq
theorem bNeV {k : IntKind} (e : (a != b) = v) : Bin P .neq t (.int k a) (.int k b) (.bool v) := e ▸ bNe
theorem bLtV {k : IntKind} (e : decide (a < b) = v) : Bin P .lss t (.int k a) (.int k b) (.bool v) := e ▸ bLt
theorem bGtV {k : IntKind} (e : decide (a > b) = v) : Bin P .gtr t (.int k a) (.int k b) (.bool v) := e ▸ bGt
theorem bEqBV {b c : Bool} (hu : P.underlying t = some .bool) (e : (b == c) = v) : Bin P .eql t (.bool b) (.bool c) (.bool v) := e ▸ bEqB hu
theorem bEqUV (e : (x == y) = v) : Bin P .eql t (U x) (U y) (.bool v) := e ▸ bEqU
theorem bNeUV (e : (x != y) = v) : Bin P .neq t (U x) (U y) (.bool v) := e ▸ bNeU
end
end Go.Proofs.Wit
namespace Go.Proofs.Wit
open Go Go.RowKit
/-! the examples of the chapter -/
def r0 : List W64 := [2#64, 4#64, 0#64]
theorem r0_check : checkR r0.length r0 = 0 := by decide
theorem r0_val : Val r0 := check_zero.1 r0_check
/-- what a closure gives, as it stands in the templates -/
def GrownP (F : List W64 → Prop) (r : List W64) (p : List W64 × Int) : Prop :=
  if checkR r.length r ≠ 0 then p = ([], checkR r.length r) else p.2 = 0 ∧ Least F r p.1
theorem grown_r0 {F : List W64 → Prop} {g : List W64 → List W64} (hg : GoodS g F) {c : List W64} (h1 : g r0 = c) (h2 : g c = c) {p : List W64 × Int} (h : GrownP F r0 p) : p = (c, 0) := by
  rw [GrownP, if_neg (by simp [r0_check])] at h
  obtain ⟨a, b⟩ := h
  have hl := hg.least r0_val ((hg.fix (hg.val r0_val)).1 (by rw [h1, h2]))
  rw [h1] at hl
  obtain ⟨x, y⟩ := p
  simp only at a b
  rw [a, b.uniq hl]
theorem tran_r0 {p : List W64 × Int} (h : GrownP tranR r0 p) : p = ([6#64, 4#64, 0#64], 0) := grown_r0 tran_good (by decide) (by decide) h
theorem eucl_r0 {p : List W64 × Int} (h : GrownP euclR r0 p) : p = ([2#64, 6#64, 6#64], 0) := grown_r0 eucl_good (by decide) (by decide) h
theorem symm_r0 {p : List W64 × Int} (h : GrownP symmR r0 p) : p = ([2#64, 5#64, 2#64], 0) := grown_r0 symm_good (by decide) (by decide) h
theorem path_r0 {p : List Nat} (h : PathIs r0 1#64 4#64 p) : p = [0, 1, 2] := by
  refine h.uniq ?_
  rw [PathIs, if_neg (by simp [r0_check])]
  refine .inl ⟨2, ⟨by decide, by decide, fun j h1 h2 => ?_⟩, by decide⟩
  obtain rfl : j = 1 := by omega
  decide
theorem path_r0n {p : List Nat} (h : PathIs r0 4#64 7#64 p) : p = [] := by
  refine h.uniq ?_
  rw [PathIs, if_neg (by simp [r0_check])]
  refine .inr ⟨none_of (m := 1) r0_val (by decide) (fun d hd => ?_), rfl⟩
  obtain rfl : d = 0 := by omega
  decide
theorem hasB_r0 : hasB [6#64, 4#64, 0#64] 4 = true := by
  have hc : checkR ([6#64, 4#64, 0#64] : List W64).length [6#64, 4#64, 0#64] = 0 := by decide
  rw [hasB_true]
  refine ⟨hc, ?_⟩
  show tranR _
  exact (tran_good.fix (check_zero.1 hc)).1 (by decide)
theorem comp_r0 : twoR r0 r0 = 0 := by decide
end Go.Proofs.Wit
namespace Go.Proofs.Wit
open Go Go.RowKit
/-! values of many cells: structs, slices of structs -/
section
variable {P : Program} {r : Option Nat} {f : FuncId} {R : Value → World → Prop} {w0 : World} {S : List Nat} {Y : List (Nat × Obj)} {n : Nat} {k : List Item} {l : Fl} {h : Hl}
variable {ops : Array Oper} {i d : Nat} {rest : List Nat} {ty : TypeId} {pos : String} {aft : Array Edge} {g : Option (Nat × Bool)}
theorem addr_off (b o q : Nat) : (⟨b, o, none⟩ : Addr).add q = ⟨b, o + q, none⟩ := by
  unfold Addr.add; split
  · rename_i h0; subst h0; rfl
  · rfl
theorem adr_adr (a : Option Addr) (i q : Nat) : (adr a i).add q = adr a (i + q) := by
  unfold adr; rw [addr_off, Nat.add_assoc]
/-- the address of a field -/
theorem Vop.fldP {s : TypeId} {x : Operand} {b o q : Nat} {fs : Array Field} {fd : Field} {sz : Nat} (ho : ops[i]? = some ⟨some d, .fieldAddr s x q, ty, pos, aft, g⟩) (hw : wantL ops l g = true)
    (hx : opd l x = some (.pointer (some ⟨b, o, none⟩))) (hd : Nat.blt d n = true) (hu : P.underlying s = some (.struct fs)) (hq : fs[q]? = some fd) (he : ∀ w, (sizeOf fd.type).run P w = .ok (sz + 1) w) (o' : Nat) (hO : o + fd.offset = o') :
    Vop P w0 S n h ops i l d (.pointer (some ⟨b, o', none⟩)) := by
  subst hO
  exact .of ho hw rfl rfl hd (fun t w Ds _ hF hS => ⟨.value (.pointer (some ⟨b, o + fd.offset, none⟩)), by
    simp only [execOp, hF.opd hx, Instr.fieldAt, Sem.run_bind, run_underlying hu, Result.andThen_ok, hq, Instr.sureAddr, Sem.run_pure, fieldPlace, he]
    rw [if_neg (by omega)]
    simp [addr_off], rfl⟩)
/-- a field of a struct that is a value -/
theorem Vop.fld {s : TypeId} {x : Operand} {q : Nat} {cs : Array Value} {fs : Array Field} {fd : Field} {v : Value} (ho : ops[i]? = some ⟨some d, .field s x q, ty, pos, aft, g⟩) (hw : wantL ops l g = true)
    (hx : opd l x = some (.agg cs)) (hd : Nat.blt d n = true) (hu : P.underlying s = some (.struct fs)) (hq : fs[q]? = some fd) (ha : ∀ w, (isAgg fd.type).run P w = .ok false w) (hv : cs[fd.offset]? = some v) :
    Vop P w0 S n h ops i l d v :=
  .of ho hw rfl rfl hd (fun t w Ds _ hF hS => ⟨.value v, by
    simp only [execOp, hF.opd hx, Instr.field, Sem.run_bind, run_underlying hu, Result.andThen_ok, hq, asAgg, Sem.run_pure, part, ha, hv]
    rfl, rfl⟩)
theorem loadAgg_run {t : TypeId} {w : World} {a : Addr} {cs : List Value} (ha : ∀ w, (isAgg t).run P w = .ok true w) (hz : ∀ w, (sizeOf t).run P w = .ok cs.length w) (hc : ∀ j v, cs[j]? = some v → w.cell? (a.add j) = some v) :
    (Instr.loadAt t (.pointer (some a))).run P w = .ok (.agg cs.toArray) w := by
  simp only [Instr.loadAt, Instr.sureAddr, loadVar, Sem.run_bind, Sem.run_pure, Result.andThen_ok, ha, hz, if_true, run_loadCells_list w a cs hc]
/-- a struct in memory -/
theorem Vop.ldN {t : TypeId} {x : Operand} {p : Addr} {cs : List Value} (ho : ops[i]? = some ⟨some d, .load t x, ty, pos, aft, g⟩) (hw : wantL ops l g = true)
    (hx : opd l x = some (.pointer (some p))) (hd : Nat.blt d n = true) (ha : ∀ w, (isAgg t).run P w = .ok true w) (hz : ∀ w, (sizeOf t).run P w = .ok cs.length w) (hc : ∀ w Y', St w0 S w h Y' → ∀ j v, cs[j]? = some v → w.cell? (p.add j) = some v) : Vop P w0 S n h ops i l d (.agg cs.toArray) :=
  .of ho hw rfl rfl hd (fun t w Ds _ hF hS => ⟨.value (.agg cs.toArray), by
    simp only [execOp, hF.opd hx, Sem.run_bind, loadAgg_run ha hz (hc w _ hS)]; rfl, rfl⟩)
/-- a struct in a block of one's own -/
theorem Vop.ldB {t : TypeId} {x : Operand} {b : Nat} {cs : Array Value} {e : TypeId} {fr : Nat × Nat} {m : Nat} (ho : ops[i]? = some ⟨some d, .load t x, ty, pos, aft, g⟩) (hw : wantL ops l g = true)
    (hx : opd l x = some (.pointer (some ⟨b, 0, none⟩))) (hd : Nat.blt d n = true) (ha : ∀ w, (isAgg t).run P w = .ok true w) (j : Nat) (hj : h[j]? = some (some b, .cells cs e fr)) (hz : ∀ w, (sizeOf t).run P w = .ok m w) (hm : cs.size = m) : Vop P w0 S n h ops i l d (.agg cs) := by
  subst hm
  have := Vop.ldN (P := P) (w0 := w0) (S := S) (h := h) (cs := cs.toList) ho hw hx hd ha (fun w => by rw [hz]; simp) (fun w Y' hS q v hv => by
    rw [addr_off, Nat.zero_add]
    simp [World.cell?, hS.get hj] at hv ⊢
    exact hv)
  rw [Array.toArray_toList] at this
  exact this
/-- a whole struct is stored into a block of one's own -/
theorem GoH.stB {t : TypeId} {x y : Operand} {b : Nat} {cs : Array Value} {e : TypeId} {v : Value} {m : Nat} (ho : ops[i]? = some ⟨none, .store t x y, ty, pos, aft, g⟩) (hw : wantL ops l g = true)
    (hx : opd l x = some (.pointer (some ⟨b, 0, none⟩))) (hy : opd l y = some v) (hz : ∀ w, (sizeOf t).run P w = .ok m w) (j : Nat) (hj : h[j]? = some (some b, .cells cs e (0, 0))) (hm : cs.size = m) (hv : v.cells.size = m) (h1 : v.cells.toList.all Value.oneCell' = true)
    (hk : GoH P r f R w0 S Y n (.inRegion ops rest :: k) l (h.set j (some b, .cells v.cells e (0, 0)))) : GoH P r f R w0 S Y n (.inRegion ops (i :: rest) :: k) l h :=
  .eff ho hw rfl rfl (fun t' w Ds _ hF hS => by
    have hb := hS.get hj
    have hrun := run_storeCells_at (P := P) b 0 e v.cells.toList 0 cs w hb (by simp; omega) (fun u hu => List.all_eq_true.1 h1 u hu)
    have hrow : (cs.toList.take (0 + 0) ++ v.cells.toList ++ cs.toList.drop (0 + 0 + v.cells.toList.length)).toArray = v.cells := by
      rw [← Array.toList_inj]
      simp
      omega
    rw [hrow] at hrun
    refine ⟨w.setRow b v.cells, _, ?_, hS.turn hj (o' := .cells v.cells e (0, 0)) rfl rfl rfl rfl (by simp [World.setRow]) (setRow_heap w b _ _ e _ hb) (fun q _ hq => setRow_other w b q _ hq), hk⟩
    simp only [execOp, hF.opd hx, hF.opd hy, Sem.run_bind, Instr.storeAt, Instr.sureAddr, storeVar, Sem.run_pure, Result.andThen_ok, hz, hv]
    simp only [ne_eq, not_true_eq_false, if_false, hrun]; rfl)

/-! building -/
def setAt (cells : List Value) (off : Nat) (vs : List Value) : List Value := cells.take off ++ vs ++ cells.drop (off + vs.length)
def fillL (place : Nat → Option (Nat × Nat)) (cells : List Value) : List (Nat × Value) → Option (List Value)
  | [] => some cells
  | (i, v) :: rest => match place i with
    | none => none
    | some (off, size) => match Nat.beq v.cells.toList.length size && Nat.ble (off + size) cells.length with
      | true => fillL place (setAt cells off v.cells.toList) rest
      | false => none
theorem foldl_set : ∀ (vs : List Value) (cs : List Value) (off j : Nat), off + j + vs.length ≤ cs.length →
    (vs.zipIdx j).foldl (fun (cs : Array Value) (c : Value × Nat) => cs.setIfInBounds (off + c.2) c.1) cs.toArray = (setAt cs (off + j) vs).toArray
  | [], cs, off, j, _ => by simp [setAt]
  | v :: vs, cs, off, j, hl => by
    simp only [List.length_cons] at hl
    rw [List.zipIdx_cons, List.foldl_cons]
    have h1 : cs.toArray.setIfInBounds (off + j) v = (cs.set (off + j) v).toArray := by simp
    rw [h1, foldl_set vs (cs.set (off + j) v) off (j + 1) (by simp; omega)]
    congr 1
    have hlt : off + j < cs.length := by omega
    have hset : cs.set (off + j) v = cs.take (off + j) ++ v :: cs.drop (off + j + 1) := by
      rw [List.set_eq_take_append_cons_drop, if_pos hlt]
    have hlen : (cs.take (off + j)).length = off + j := by simp; omega
    have t1 : (cs.set (off + j) v).take (off + (j + 1)) = cs.take (off + j) ++ [v] := by
      rw [hset, List.take_append, List.take_of_length_le (by omega), hlen, show off + (j + 1) - (off + j) = 1 from by omega]; simp
    have t2 : (cs.set (off + j) v).drop (off + (j + 1) + vs.length) = cs.drop (off + j + (vs.length + 1)) := by
      rw [hset, List.drop_append, List.drop_eq_nil_of_le (by omega), hlen, show off + (j + 1) + vs.length - (off + j) = vs.length + 1 from by omega]
      simp [Nat.add_assoc, Nat.add_comm 1]
    unfold setAt
    rw [t1, t2]; simp
theorem setAt_length {cs vs : List Value} {off : Nat} (hl : off + vs.length ≤ cs.length) : (setAt cs off vs).length = cs.length := by
  simp [setAt]; omega
theorem fill_eq {place : Nat → Option (Nat × Nat)} : ∀ {ps : List (Nat × Value)} {cells c : List Value}, fillL place cells ps = some c → Instr.fill place cells.toArray ps = some c.toArray
  | [], cells, c, e => by cases e; rfl
  | (i, v) :: rest, cells, c, e => by
    unfold fillL at e
    unfold Instr.fill
    split at e
    · cases e
    · rename_i off size hp
      rw [hp]
      split at e
      · rename_i hb
        rw [Bool.and_eq_true, Nat.beq_eq, Nat.ble_eq] at hb
        obtain ⟨h1, h2⟩ := hb
        rw [Array.length_toList] at h1
        simp only
        rw [if_neg (by simp; omega)]
        have h3 := foldl_set v.cells.toList cells off 0 (by simp; omega)
        rw [Nat.add_zero] at h3
        have h4 : v.cells.zipIdx.foldl (fun cs (x : Value × Nat) => cs.setIfInBounds (off + x.2) x.1) cells.toArray = (setAt cells off v.cells.toList).toArray := by
          rw [← h3, ← Array.foldl_toList]; simp
        rw [h4]
        exact fill_eq e
      · cases e
def Szs (P : Program) : List Field → List Nat → Prop
  | [], [] => True
  | f :: fs, s :: ss => (∀ w, (sizeOf f.type).run P w = .ok s w) ∧ Szs P fs ss
  | _, _ => False
theorem Szs.nil : Szs P [] [] := trivial
theorem Szs.cons {f : Field} {fs : List Field} {s : Nat} {ss : List Nat} (h : ∀ w, (sizeOf f.type).run P w = .ok s w) (hs : Szs P fs ss) : Szs P (f :: fs) (s :: ss) := ⟨h, hs⟩
theorem szs_run : ∀ {fs : List Field} {ss : List Nat}, Szs P fs ss → ∀ w, (fs.mapM (m := Sem) fun f => do pure (f.offset, ← sizeOf f.type)).run P w = .ok ((fs.zip ss).map fun x => (x.1.offset, x.2)) w
  | [], [], _, w => rfl
  | f :: fs, s :: ss, hs, w => by
    rw [List.mapM_cons]
    simp only [Sem.run_bind, Sem.run_pure, Result.andThen_ok, hs.1, szs_run hs.2]; rfl
  | [], _ :: _, hs, _ => hs.elim
  | _ :: _, [], hs, _ => hs.elim
/-- what a struct's literal is -/
def Bld (P : Program) (t : TypeId) (ps : List (Nat × Value)) (v : Value) : Prop := ∀ w, (Instr.build t ps.toArray).run P w = .ok v w
theorem bld {t : TypeId} {fs : Array Field} {ss : List Nat} {z : Value} {ps : List (Nat × Value)} {c : List Value} (hu : P.underlying t = some (.struct fs)) (hs : Szs P fs.toList ss) (hz : ∀ w, (zeroValue t).run P w = .ok z w)
    (hf : fillL (fun i => ((fs.toList.zip ss)[i]?).map fun x => (x.1.offset, x.2)) z.cells.toList ps = some c) : Bld P t ps (.agg c.toArray) := by
  intro w
  have h1 := fill_eq hf
  rw [Array.toArray_toList] at h1
  simp only [Instr.build, Sem.run_bind, hz, Result.andThen_ok, run_underlying hu]
  rw [Array.mapM_eq_mapM_toList]
  simp only [Sem.run_map, szs_run hs]
  have h2 : (fun (i : Nat) => (List.map (fun x => (x.1.offset, x.2)) (fs.toList.zip ss)).toArray[i]?) = fun i => ((fs.toList.zip ss)[i]?).map fun x => (x.1.offset, x.2) := by
    funext i; simp
  show ((match Instr.fill (fun (i : Nat) => (List.map (fun x => (x.1.offset, x.2)) (fs.toList.zip ss)).toArray[i]?) z.cells ps with
    | some cells => pure (.agg cells)
    | _ => stuck "build: no such field, or a part of the wrong size" : Sem Value)).run P w = _
  rw [h2, h1]; rfl
def partsL (l : Fl) : List (Nat × Operand) → Option (List (Nat × Value))
  | [] => some []
  | (q, x) :: xs => match Wit.opd l x, partsL l xs with
    | some v, some vs => some ((q, v) :: vs)
    | _, _ => none
theorem Frm.parts {t : Array Value} (hF : Frm n t l) (ds : List Deferred) : ∀ {xs : List (Nat × Operand)} {vs : List (Nat × Value)}, partsL l xs = some vs → xs.map (fun x => (x.1, Act.eval ⟨t, ds⟩ x.2)) = vs
  | [], vs, e => by cases e; rfl
  | (q, x) :: xs, vs, e => by
    simp only [partsL] at e
    split at e
    · rename_i v us hx hxs
      cases e
      rw [List.map_cons, hF.opd hx, hF.parts ds hxs]
    · cases e
theorem Vop.bld {t : TypeId} {az : Array (Nat × Operand)} {ps : List (Nat × Value)} {v : Value} (ho : ops[i]? = some ⟨some d, .build t az, ty, pos, aft, g⟩) (hw : wantL ops l g = true) (hx : partsL l az.toList = some ps) (hd : Nat.blt d n = true) (hb : Bld P t ps v) :
    Vop P w0 S n h ops i l d v :=
  .of ho hw rfl rfl hd (fun t w Ds _ hF hS => ⟨.value v, by
    have e1 : az.map (fun (x : Nat × Operand) => (x.1, Act.eval ⟨t, Ds.map mark⟩ x.2)) = ps.toArray := by rw [← Array.toList_inj]; simp [hF.parts (Ds.map mark) hx]
    have := hb w
    rw [← e1] at this
    simp only [execOp, Sem.run_bind]
    refine (congrArg (fun x => Result.andThen x _) this).trans ?_
    rfl, rfl⟩)
theorem bsN_run {t e : TypeId} {len : Nat} {az : Array (Nat × Operand)} {ps : List (Nat × Value)} {z : Value} {size : Nat} {c : List Value} {t' : Array Value} (hF : Frm n t' l) (hx : partsL l az.toList = some ps)
    (hu : P.underlying t = some (.slice e)) (hs : ∀ w, (sizeOf e).run P w = .ok size w) (hz : ∀ w, (zeroValue e).run P w = .ok z w) (hm : Nat.ble (len * size) 16777216 = true)
    (hf : fillL (fun i => some (i * size, size)) ((List.range (len * size)).map fun i => z.cells.toList.getD (i % z.cells.toList.length) default) ps = some c) (Ds : List Nat) (w : World) :
    (execOp (Act.eval ⟨t', Ds.map mark⟩) ⟨some d, .buildSlice t len az, ty, pos, aft, g⟩).run P w = .ok (.value (.slice (some ⟨w.heap.size, 0, none⟩) len len)) (w.alloc (.cells (c ++ []).toArray e)) := by
  have e1 : az.map (fun (x : Nat × Operand) => (x.1, Act.eval ⟨t', Ds.map mark⟩ x.2)) = ps.toArray := by rw [← Array.toList_inj]; simp [hF.parts (Ds.map mark) hx]
  have h1 := fill_eq hf
  have h2 : (Array.range (len * size)).map (fun i => (if len * size = 0 then #[] else z.cells)[i % (if len * size = 0 then #[] else z.cells).size]!) = ((List.range (len * size)).map fun i => z.cells.toList.getD (i % z.cells.toList.length) default).toArray := by
    by_cases h0 : len * size = 0
    · rw [h0]; simp
    · rw [if_neg h0, ← Array.toList_inj]; simp
      intro a _
      rw [getElem!_def]
      cases z.cells[a % z.cells.size]? <;> rfl
  rw [← h2] at h1
  have hrun : (Instr.buildSlice t len ps.toArray).run P w = .ok (.slice (some ⟨w.heap.size, 0, none⟩) len len) (w.alloc (.cells (c ++ []).toArray e)) := by
    have hm' : ¬ len * size > 2 ^ 24 := by have := Nat.le_of_ble_eq_true hm; omega
    by_cases h0 : len * size = 0
    · simp only [if_pos h0] at h1
      simp only [Instr.buildSlice, Sem.run_bind, run_underlying hu, Result.andThen_ok, hs, if_neg hm', if_pos h0, Sem.run_pure]
      rw [h1]; simp [newRow]
    · simp only [if_neg h0] at h1
      simp only [Instr.buildSlice, Sem.run_bind, run_underlying hu, Result.andThen_ok, hs, if_neg hm', if_neg h0, Sem.run_pure, hz]
      rw [h1]; simp [newRow]
  rw [← e1] at hrun
  simp only [execOp, Sem.run_bind]
  refine (congrArg (fun x => Result.andThen x _) hrun).trans ?_
  rfl
/-- a slice's literal: a new block -/
theorem GoH.bsN {t e : TypeId} {len : Nat} {az : Array (Nat × Operand)} {ps : List (Nat × Value)} {z : Value} {size : Nat} {c : List Value} (ho : ops[i]? = some ⟨some d, .buildSlice t len az, ty, pos, aft, g⟩) (hw : wantL ops l g = true) (hx : partsL l az.toList = some ps) (hd : Nat.blt d n = true)
    (hu : P.underlying t = some (.slice e)) (hs : ∀ w, (sizeOf e).run P w = .ok size w) (hz : ∀ w, (zeroValue e).run P w = .ok z w) (hm : Nat.ble (len * size) 16777216 = true)
    (hf : fillL (fun i => some (i * size, size)) ((List.range (len * size)).map fun i => z.cells.toList.getD (i % z.cells.toList.length) default) ps = some c)
    (hk : ∀ b, GoH P r f R w0 S Y n (.inRegion ops rest :: k) ((d, .slice (some ⟨b, 0, none⟩) len len) :: l) ((some b, .cells (c ++ []).toArray e) :: h)) : GoH P r f R w0 S Y n (.inRegion ops (i :: rest) :: k) l h :=
  .mem ho hw rfl rfl hd (fun _ w Ds _ hF hS => ⟨.slice (some ⟨w.heap.size, 0, none⟩) len len, w.alloc (.cells (c ++ []).toArray e), _, bsN_run hF hx hu hs hz hm hf Ds w, hS.alloc rfl, hk _⟩)
/-- x[:hi] -/
theorem Vop.slHi {t e : TypeId} {x y : Operand} {a : Option Addr} {m cap hi : Nat} {kd : IntKind} {j : Int} {sz : Nat} (ho : ops[i]? = some ⟨some d, .slice t x none (some y) none, ty, pos, aft, g⟩) (hw : wantL ops l g = true)
    (hx : opd l x = some (.slice a m cap)) (hy : opd l y = some (.int kd j)) (hd : Nat.blt d n = true) (hu : P.underlying t = some (.slice e)) (he : ∀ w, (sizeOf e).run P w = .ok sz w) (hj : j = hi) (hc : hi ≤ cap) :
    Vop P w0 S n h ops i l d (.slice a hi cap) :=
  .of ho hw rfl rfl hd (fun t w Ds _ hF hS => ⟨.value (.slice a hi cap), by
    subst hj
    simp only [execOp, hF.opd hx, hF.opd hy, Option.map_some, Option.map_none, Instr.sliceAt, Sem.run_bind, run_underlying hu, Result.andThen_ok, Instr.slice, Instr.sliceBounds, Instr.sliceBound, asIntOf, Sem.run_pure]
    rw [if_pos ⟨by omega, by omega⟩]
    simp only [Sem.run_pure, Result.andThen_ok, he, Int.toNat_natCast]
    cases a <;> simp [Addr.add_zero'], rfl⟩)

/-! calls of function values -/
theorem GoH.callC {az : Array Operand} {ts : Array TypeId} {cal : Operand} {gf : FuncId} {fs cs vs : List Value} (Rc : World → Value → World → Prop) (ho : ops[i]? = some ⟨some d, .call ⟨.value cal, az, ts⟩, ty, pos, aft, g⟩) (hw : wantL ops l g = true)
    (hc : opd l cal = some (.func (.func gf) fs.toArray cs.toArray)) (hx : opds l az.toList = some vs) (hd : Nat.blt d n = true) (hcf : ∀ args w, (callFunc gf args).run P w = .ok (.enter gf args) w)
    (hcall : ∀ w Y', St w0 S w h Y' → Cn P gf (fs ++ vs ++ cs) w (Rc w))
    (hk : ∀ v w w' Y', St w0 S w h Y' → Ex [] w w' → Rc w v w' → ∃ h', St w0 S w' h' Y' ∧ GoH P r f R w0 S Y n (.inRegion ops rest :: k) ((d, v) :: l) h') : GoH P r f R w0 S Y n (.inRegion ops (i :: rest) :: k) l h :=
  .callG ho hw hc hx hd hcf (fun w Ds hS => ⟨fun u w' => Ex [] w w' ∧ Rc w u w', by
    have := hcall w Ds hS
    unfold Cn at this
    simpa using this, fun u w' ⟨he, hu⟩ => hk u w w' Ds hS he hu⟩)
theorem GoH.callCP {az : Array Operand} {ts : Array TypeId} {cal : Operand} {gf : FuncId} {fs cs vs : List Value} {v : Value} (ho : ops[i]? = some ⟨some d, .call ⟨.value cal, az, ts⟩, ty, pos, aft, g⟩) (hw : wantL ops l g = true)
    (hc : opd l cal = some (.func (.func gf) fs.toArray cs.toArray)) (hx : opds l az.toList = some vs) (hd : Nat.blt d n = true) (hcf : ∀ args w, (callFunc gf args).run P w = .ok (.enter gf args) w)
    (hcall : ∀ w Y', St w0 S w h Y' → Cn P gf (fs ++ vs ++ cs) w (fun u _ => u = v))
    (hk : GoH P r f R w0 S Y n (.inRegion ops rest :: k) ((d, v) :: l) h) : GoH P r f R w0 S Y n (.inRegion ops (i :: rest) :: k) l h :=
  .callC (fun _ u _ => u = v) ho hw hc hx hd hcf hcall (fun _ _ _ _ hS he e => ⟨h, hS.later he, e ▸ hk⟩)
end
/-! a function whose results lie in cells -/
def resH (P : Program) (l : Fl) (h : Hl) : List ResultVar → List Value → Prop
  | [], [] => True
  | .tmp t :: rs, v :: vs => look l t = some v ∧ resH P l h rs vs
  | .cell a ty :: rs, v :: vs => (∃ b, look l a = some (.pointer (some ⟨b, 0, none⟩)) ∧ ∃ (j : Nat) (cs : Array Value) (e : TypeId) (fr : Nat × Nat), h[j]? = some (some b, Obj.cells cs e fr) ∧
    ((∀ w, (isAgg ty).run P w = .ok true w) ∧ (∀ w, (sizeOf ty).run P w = .ok cs.size w) ∧ v = .agg cs ∨ (∀ w, (isAgg ty).run P w = .ok false w) ∧ cs[0]? = some v)) ∧ resH P l h rs vs
  | _, _ => False
section
variable {P : Program} {f : FuncId} {R : Value → World → Prop} {w0 : World} {S : List Nat} {Y : List (Nat × Obj)} {n : Nat} {k : List Item} {l : Fl} {h : Hl} {fn : Func}
theorem resH.nil : resH P l h [] [] := trivial
theorem resH.tmp {t : Tmp} {v : Value} {rs : List ResultVar} {vs : List Value} (hv : look l t = some v) (hr : resH P l h rs vs) : resH P l h (.tmp t :: rs) (v :: vs) := ⟨hv, hr⟩
theorem resH.cell {a : Tmp} {ty : TypeId} {b m j : Nat} {cs : Array Value} {e : TypeId} {fr : Nat × Nat} {rs : List ResultVar} {vs : List Value} (ha : look l a = some (.pointer (some ⟨b, 0, none⟩))) (h1 : ∀ w, (isAgg ty).run P w = .ok true w) (h2 : ∀ w, (sizeOf ty).run P w = .ok m w) (hj : h[j]? = some (some b, Obj.cells cs e fr)) (hm : cs.size = m) (hr : resH P l h rs vs) : resH P l h (.cell a ty :: rs) (.agg cs :: vs) :=
  ⟨⟨b, ha, j, cs, e, fr, hj, .inl ⟨h1, fun w => by rw [h2, hm], rfl⟩⟩, hr⟩
theorem resH.cell1 {a : Tmp} {ty : TypeId} {b j : Nat} {cs : Array Value} {e : TypeId} {fr : Nat × Nat} {v : Value} {rs : List ResultVar} {vs : List Value} (ha : look l a = some (.pointer (some ⟨b, 0, none⟩))) (h1 : ∀ w, (isAgg ty).run P w = .ok false w) (hj : h[j]? = some (some b, Obj.cells cs e fr)) (hv : cs[0]? = some v) (hr : resH P l h rs vs) : resH P l h (.cell a ty :: rs) (v :: vs) :=
  ⟨⟨b, ha, j, cs, e, fr, hj, .inr ⟨h1, hv⟩⟩, hr⟩
theorem mapM_resH {w : World} {t : Array Value} (hF : Frm n t l) (hS : St w0 S w h Y) : ∀ {rs : List ResultVar} {vs : List Value}, resH P l h rs vs →
    (rs.mapM (m := Sem) fun | .tmp t' => pure (t.getD t' undef) | .cell a ty => do loadVar ty (← asAddr (t.getD a undef))).run P w = .ok vs w
  | [], [], _ => rfl
  | .tmp q :: rs, v :: vs, ⟨hv, hr⟩ => by
    rw [List.mapM_cons]
    simp only [Sem.run_bind, Sem.run_pure, Result.andThen_ok, mapM_resH hF hS hr, hF.2 _ _ hv]
  | .cell a ty :: rs, v :: vs, ⟨⟨b, ha, j, cs, e, fr, hj, hv⟩, hr⟩ => by
    rw [List.mapM_cons]
    have hl2 : (loadVar ty ⟨b, 0, none⟩).run P w = .ok v w := by
      rcases hv with ⟨hag, hsz, rfl⟩ | ⟨hag, hv⟩
      · have hl := loadAgg_run (P := P) (w := w) (a := ⟨b, 0, none⟩) (cs := cs.toList) hag (fun w => by rw [hsz]; simp) (fun q v hv => by
          rw [addr_off, Nat.zero_add]
          simp [World.cell?, hS.get hj] at hv ⊢
          exact hv)
        rw [Array.toArray_toList] at hl
        simpa only [Instr.loadAt, Instr.sureAddr, Sem.run_bind, Sem.run_pure, Result.andThen_ok] using hl
      · have hc := cell_of_row w b 0 cs e fr (hS.get hj)
        rw [hv] at hc
        simp [loadVar, hag, hc]
    have hA : (asAddr (t.getD a undef)).run P w = .ok ⟨b, 0, none⟩ w := by rw [hF.2 _ _ ha]; rfl
    simp only [Sem.run_bind, Sem.run_pure, Result.andThen_ok, hA, hl2, mapM_resH hF hS hr]
  | [], _ :: _, hr => hr.elim
  | .tmp _ :: _, [], hr => hr.elim
  | .cell _ _ :: _, [], hr => hr.elim
theorem GoH.retH (fn : Func) (hf : P.funcs[f]? = some fn) (vs : List Value) (hres : resH P l h fn.results.toList vs) (hR : ∀ w, St w0 S w h Y → R (retV vs) w) : GoH P none f R w0 S Y n (.code .ret :: k) l h := fun t w Ds hF hS => by
  refine gos_leave hf hS (fun cs => by rw [mkF_at]; exact stepR_ret rfl) ?_ (hR _ hS.shut)
  unfold results
  rw [Array.mapM_eq_mapM_toList]
  have hm := mapM_resH (P := P) hF hS.shut hres
  simp only [Sem.run_bind, Sem.run_map, Sem.run_pure]
  refine (congrArg (fun x => (x.andThen fun a w' => Result.ok a.toArray w').andThen fun a w' => Result.ok (if h : a.size = 1 then a[0] else Value.tuple a) w') hm).trans ?_
  simp only [Result.andThen_ok]
  cases vs with
  | nil => rfl
  | cons v us => cases us with
    | nil => rfl
    | cons u us => simp [retV]
end
end Go.Proofs.Wit
namespace Go.Proofs.Wit
open Go Go.RowKit
/-! blocks of a callee's, many at once; lists of lists; models -/
/-- blocks that are new since w, as they lie in w' -/
structure NewH (w w' : World) (H : Hl) : Prop where
  own : ∀ p ∈ H, ∀ b, p.1 = some b → w'.heap[b]? = some p.2 ∧ isSys p.2 = false ∧ w.heap.size ≤ b
  apart : H.Pairwise apartH
theorem NewH.of {w w' : World} {h : Hl} {Y : List (Nat × Obj)} (s : St w [] w' h Y) : NewH w w' h :=
  ⟨fun p hp b hb => by
    obtain ⟨h1, h2, h3⟩ := s.own p hp b hb
    exact ⟨h1, h2, h3.resolve_right (by simp)⟩, s.apart⟩
theorem NewH.sub {w w' : World} {H H' : Hl} (g : NewH w w' H) (hs : H'.Sublist H) : NewH w w' H' := ⟨fun p hp => g.own p (hs.subset hp), g.apart.sublist hs⟩
theorem St.gainL {w0 w w' : World} {S : List Nat} {h : Hl} {Y : List (Nat × Obj)} (s : St w0 S w h Y) (e : Ex [] w w') {H : Hl} (g : NewH w w' H) : St w0 S w' (H ++ h) Y := by
  have s' := s.later e
  refine ⟨s'.ext, fun p hp b hb => ?_, List.pairwise_append.2 ⟨g.apart, s.apart, fun p hp q hq b hb hqb => ?_⟩, s'.sys, s'.ynd⟩
  · rcases List.mem_append.1 hp with hp | hp
    · obtain ⟨h1, h2, h3⟩ := g.own p hp b hb
      exact ⟨h1, h2, .inl (Nat.le_trans s.ext.size h3)⟩
    · exact s'.own p hp b hb
  · have h1 := (g.own p hp b hb).2.2
    have h2 := (Array.getElem?_eq_some_iff.1 (s.own q hq b hqb).1).1
    omega
/-- h' is a part of h, in whatever order -/
def SubP (h' h : Hl) : Prop := ∃ l : Hl, l.Perm h' ∧ l.Sublist h
theorem St.subP {w0 w : World} {S : List Nat} {h h' : Hl} {Y : List (Nat × Obj)} (s : St w0 S w h Y) (hs : SubP h' h) : St w0 S w h' Y := by
  obtain ⟨l, hp, hl⟩ := hs
  exact (s.subH hl).perm hp
theorem GoH.subP {P : Program} {r : Option Nat} {f : FuncId} {R : Value → World → Prop} {w0 : World} {S : List Nat} {Y : List (Nat × Obj)} {n : Nat} {k : List Item} {l : Fl} {h h' : Hl} (hs : SubP h' h)
    (hg : GoH P r f R w0 S Y n k l h') : GoH P r f R w0 S Y n k l h := fun t w Ds hF hS => hg t w Ds hF (hS.subP hs)
theorem St.pickT {w0 w : World} {S : List Nat} {pre pre' HR : Hl} {Y : List (Nat × Obj)} (s : St w0 S w (pre ++ HR) Y) (is : List Nat) (hn : is.Nodup) (e : is.map (fun i => pre[i]?) = pre'.map some) : St w0 S w (pre' ++ HR) Y := by
  have hlen : is.length = pre'.length := by have := congrArg List.length e; simpa using this
  have hat : ∀ j (hj : j < pre'.length), ∃ i, is[j]? = some i ∧ pre[i]? = some pre'[j] := fun j hj => by
    have h1 := congrArg (fun l => l[j]?) e
    have hj2 : j < is.length := by omega
    simp only [List.getElem?_map, List.getElem?_eq_getElem hj, List.getElem?_eq_getElem hj2, Option.map_some, Option.some.injEq] at h1
    exact ⟨is[j], List.getElem?_eq_getElem hj2, h1⟩
  have hmem : ∀ p ∈ pre', p ∈ pre := fun p hp => by
    obtain ⟨j, hj, rfl⟩ := List.mem_iff_getElem.1 hp
    obtain ⟨i, _, h2⟩ := hat j hj
    exact List.mem_of_getElem? h2
  have hap := List.pairwise_append.1 s.apart
  refine ⟨s.ext, fun p hp => ?_, List.pairwise_append.2 ⟨?_, hap.2.1, fun p hp q hq => hap.2.2 p (hmem p hp) q hq⟩, s.sys, s.ynd⟩
  · rcases List.mem_append.1 hp with hp | hp
    · exact s.own p (List.mem_append_left _ (hmem p hp))
    · exact s.own p (List.mem_append_right _ hp)
  · rw [List.pairwise_iff_getElem]
    intro j j' hj hj' hlt
    obtain ⟨i, h1, h2⟩ := hat j hj
    obtain ⟨i', h1', h2'⟩ := hat j' hj'
    have hne : i ≠ i' := by
      rintro rfl
      obtain ⟨a1, a2⟩ := List.getElem?_eq_some_iff.1 h1
      obtain ⟨b1, b2⟩ := List.getElem?_eq_some_iff.1 h1'
      have := (List.nodup_iff_pairwise_ne.1 hn)
      exact absurd (a2.trans b2.symm) (List.pairwise_iff_getElem.1 this j j' a1 b1 hlt)
    obtain ⟨a1, a2⟩ := List.getElem?_eq_some_iff.1 h2
    obtain ⟨b1, b2⟩ := List.getElem?_eq_some_iff.1 h2'
    rw [← a2, ← b2]
    rcases Nat.lt_or_gt_of_ne hne with hx | hx
    · exact List.pairwise_iff_getElem.1 hap.1 i i' a1 b1 hx
    · exact apartH_symm (List.pairwise_iff_getElem.1 hap.1 i' i b1 a1 hx)
theorem St.swap2 {w0 w : World} {S : List Nat} {x y : Option Nat × Obj} {h : Hl} {Y : List (Nat × Obj)} (s : St w0 S w (x :: y :: h) Y) : St w0 S w (y :: x :: h) Y := St.pickT (pre := [x, y]) (pre' := [y, x]) s [1, 0] (by decide) rfl
/-- other blocks of what is known, in another order -/
theorem GoH.pickT {P : Program} {r : Option Nat} {f : FuncId} {R : Value → World → Prop} {w0 : World} {S : List Nat} {Y : List (Nat × Obj)} {n : Nat} {k : List Item} {l : Fl} {pre pre' : Hl} (HR : Hl) (is : List Nat) (hn : is.Nodup) (e : is.map (fun i => pre[i]?) = pre'.map some)
    (hg : GoH P r f R w0 S Y n k l (pre' ++ HR)) : GoH P r f R w0 S Y n k l (pre ++ HR) := fun t w Ds hF hS => hg t w Ds hF (hS.pickT is hn e)
theorem GoH.pick {P : Program} {r : Option Nat} {f : FuncId} {R : Value → World → Prop} {w0 : World} {S : List Nat} {Y : List (Nat × Obj)} {n : Nat} {k : List Item} {l : Fl} {pre pre' : Hl} (is : List Nat) (hn : is.Nodup) (e : is.map (fun i => pre[i]?) = pre'.map some)
    (hg : GoH P r f R w0 S Y n k l pre') : GoH P r f R w0 S Y n k l pre := by
  have := GoH.pickT (pre := pre) (pre' := pre') [] is hn e (by rw [List.append_nil]; exact hg)
  rwa [List.append_nil] at this
/-- a list that lies in one of the blocks of H -/
def InS {α : Type} (enc : α → Value) (H : Hl) (a : Option Addr) (xs : List α) : Prop :=
  xs = [] ∨ ∃ b e sp, a = some ⟨b, 0, none⟩ ∧ (some b, ob enc e xs sp) ∈ H
theorem InS.mono {α : Type} {enc : α → Value} {H H' : Hl} {a : Option Addr} {xs : List α} (h : InS enc H a xs) (hs : H ⊆ H') : InS enc H' a xs := by
  rcases h with h | ⟨b, e, sp, h1, h2⟩
  · exact .inl h
  · exact .inr ⟨b, e, sp, h1, hs h2⟩
theorem InS.sl {α : Type} {enc : α → Value} {w0 w : World} {S : List Nat} {h : Hl} {Y : List (Nat × Obj)} {a : Option Addr} {xs : List α} (g : InS enc h a xs) (s : St w0 S w h Y) : Sl w a (xs.map enc) := by
  rcases g with rfl | ⟨b, e, sp, rfl, hm⟩
  · exact Sl.nil _ _
  · exact Sl.blk (s.own _ hm b rfl).1
theorem InS.at {α : Type} {enc : α → Value} {H : Hl} {q : Option Nat} {xs : List α} {e : TypeId} {sp : List Value} (hq : q = none → xs.length = 0) (hm : (q, ob enc e xs sp) ∈ H) : InS enc H (q.map (fun b => ⟨b, 0, none⟩)) xs := by
  cases q with
  | none => exact .inl (List.eq_nil_of_length_eq_zero (hq rfl))
  | some b => exact .inr ⟨b, e, sp, rfl, hm⟩
/-- a list of words as an element of a list: where it lies, its capacity, its words -/
structure Row where
  a : Option Addr
  cap : Nat
  xs : List W64
def Row.v (r : Row) : Value := .slice r.a r.xs.length r.cap
/-- a list of words in memory -/
structure Row.At (r : Row) (w : World) : Prop where
  at_ : SlU w r.a r.xs
  len : r.xs.length ≤ maxLen
  cap : r.xs.length ≤ r.cap
/-- a model: its three fields, and where its lists lie -/
structure MV where
  n : Int
  ra : Option Addr
  rc : Nat
  rows : List Row
  va : Option Addr
  vc : Nat
  val : List W64
abbrev MV.cs (m : MV) : Array Value := #[.int .i64 m.n, .slice m.va m.val.length m.vc, .slice m.ra m.rows.length m.rc]
def MV.v (m : MV) : Value := .agg #[.int .i64 m.n, .slice m.va m.val.length m.vc, .slice m.ra m.rows.length m.rc]
def MV.rel (m : MV) : List (List W64) := m.rows.map Row.xs
def SlR (w : World) (a : Option Addr) (rs : List Row) : Prop := Sl w a (rs.map Row.v)
structure MV.At (m : MV) (w : World) : Prop where
  rel : SlR w m.ra m.rows
  row : ∀ r ∈ m.rows, r.At w
  val : SlU w m.va m.val
  lr : m.rows.length ≤ maxLen
  lv : m.val.length ≤ maxLen
  cr : m.rows.length ≤ m.rc
  cv : m.val.length ≤ m.vc
theorem SlR.ex0 {w0 w : World} {a : Option Addr} {xs : List Row} (h : SlR w0 a xs) {S : List Nat} (e : Ex S w0 w) (hS : ∀ b o, a = some ⟨b, o, none⟩ → b ∉ S := by simp) : SlR w a xs := Sl.ex h e hS
theorem Sl.at {α : Type} {enc : α → Value} {w : World} {a : Option Addr} {xs : List α} (h : Sl w a (xs.map enc)) (k : Nat) (hk : k < xs.length) : w.cell? (adr a k) = some (enc xs[k]) := by
  rw [Sl.cell h k (by simpa using hk)]
  simp [List.getD_eq_getElem?_getD, hk]
theorem Ex.keep {w w' : World} (e : Ex [] w w') {b : Nat} {o : Obj} (h : w.heap[b]? = some o) : w'.heap[b]? = some o := by
  rw [e.block b (Array.getElem?_eq_some_iff.1 h).1 (by simp)]; exact h
theorem Ex.cell {w w' : World} (e : Ex [] w w') {b j : Nat} {cs : Array Value} {t : TypeId} {fr : Nat × Nat} {v : Value} (h : w.heap[b]? = some (.cells cs t fr)) (hv : cs[j]? = some v) : w'.cell? ⟨b, j, none⟩ = some v := by
  rw [cell_of_row w' b j cs t fr (e.keep h), hv]
/-- ints -/
abbrev I64 : Int → Value := Value.int .i64
def SlI (w : World) (a : Option Addr) (xs : List Int) : Prop := Sl w a (xs.map I64)
theorem SlI.ex0 {w0 w : World} {a : Option Addr} {xs : List Int} (h : SlI w0 a xs) {S : List Nat} (e : Ex S w0 w) (hS : ∀ b o, a = some ⟨b, o, none⟩ → b ∉ S := by simp) : SlI w a xs := Sl.ex h e hS
theorem SlI.at {w : World} {a : Option Addr} {xs : List Int} (h : SlI w a xs) (k : Nat) (hk : k < xs.length) : w.cell? (adr a k) = some (.int .i64 xs[k]) := Sl.at h k hk
/-- a list in a block of one's own, or nil -/
def OwnS {α : Type} (enc : α → Value) (e : TypeId) (w w' : World) (v : Value) (xs : List α) : Prop :=
  ∃ q cap sp, v = osv q xs.length cap ∧ (q = none → xs.length = 0 ∧ cap = 0) ∧ (xs.map enc ++ sp).length = cap ∧ ∀ b, q = some b → w.heap.size ≤ b ∧ w'.heap[b]? = some (ob enc e xs sp)
theorem gainS {α : Type} {enc : α → Value} {t : TypeId} {w0 w w' : World} {S : List Nat} {h : Hl} {Y : List (Nat × Obj)} (s : St w0 S w h Y) (e : Ex [] w w') {v : Value} {xs : List α} (ho : OwnS enc t w w' v xs) :
    ∃ q cap sp, v = osv q xs.length cap ∧ (q = none → xs.length = 0 ∧ cap = 0) ∧ (xs.map enc ++ sp).length = cap ∧ St w0 S w' ((q, ob enc t xs sp) :: h) Y := by
  obtain ⟨q, cap, sp, h1, h2, h3, h4⟩ := ho
  refine ⟨q, cap, sp, h1, h2, h3, ?_⟩
  cases q with
  | none => exact (s.later e).none _
  | some b => exact s.gain e (h4 b rfl).2 rfl (h4 b rfl).1
theorem OwnS.mk {α : Type} {enc : α → Value} {t : TypeId} {w0 w : World} {h : Hl} {Y : List (Nat × Obj)} (s : St w0 [] w h Y) (j : Nat) {q : Option Nat} {xs : List α} {sp : List Value} {cap m : Nat} (hj : h[j]? = some (q, ob enc t xs sp)) (hm : m = xs.length)
    (hq : q = none → xs.length = 0 ∧ cap = 0) (hcap : (xs.map enc ++ sp).length = cap) : OwnS enc t w0 w (osv q m cap) xs := by
  subst hm
  refine ⟨q, cap, sp, rfl, hq, hcap, fun b hb => ?_⟩
  subst hb
  exact ⟨s.fresh hj, s.get hj⟩
theorem sliAt {w0 w : World} {S : List Nat} {h : Hl} {Y : List (Nat × Obj)} (s : St w0 S w h Y) (j : Nat) {q : Option Nat} {xs : List Int} {e : TypeId} {sp : List Value} (hj : h[j]? = some (q, ob I64 e xs sp)) (hq : q = none → xs.length = 0) : SlI w (q.map (fun b => ⟨b, 0, none⟩)) xs := by
  cases q with
  | none => rw [List.eq_nil_of_length_eq_zero (hq rfl)]; exact Sl.nil _ _
  | some b => exact Sl.blk (s.get hj)
theorem SlR.at {w : World} {a : Option Addr} {xs : List Row} (h : SlR w a xs) (k : Nat) (hk : k < xs.length) : w.cell? (adr a k) = some xs[k].v := by
  rw [Sl.cell h k (by simpa using hk)]
  simp [List.getD_eq_getElem?_getD, hk]
theorem Row.At.ex0 {w0 w : World} {r : Row} (h : r.At w0) (e : Ex [] w0 w) : r.At w := ⟨h.at_.ex0 e, h.len, h.cap⟩
theorem MV.At.ex0 {w0 w : World} {m : MV} (h : m.At w0) (e : Ex [] w0 w) : m.At w := ⟨h.rel.ex0 e, fun r hr => (h.row r hr).ex0 e, h.val.ex0 e, h.lr, h.lv, h.cr, h.cv⟩
/-- a model that lies in the blocks of H -/
structure MV.In (m : MV) (H : Hl) : Prop where
  rel : InS Row.v H m.ra m.rows
  row : ∀ r ∈ m.rows, InS U H r.a r.xs ∧ r.xs.length ≤ maxLen ∧ r.xs.length ≤ r.cap
  val : InS U H m.va m.val
  lr : m.rows.length ≤ maxLen
  lv : m.val.length ≤ maxLen
  cr : m.rows.length ≤ m.rc
  cv : m.val.length ≤ m.vc
theorem MV.In.mono {m : MV} {H H' : Hl} (h : m.In H) (hs : H ⊆ H') : m.In H' :=
  ⟨h.rel.mono hs, fun r hr => ⟨(h.row r hr).1.mono hs, (h.row r hr).2⟩, h.val.mono hs, h.lr, h.lv, h.cr, h.cv⟩
theorem MV.In.at {m : MV} {w0 w : World} {S : List Nat} {h : Hl} {Y : List (Nat × Obj)} (g : m.In h) (s : St w0 S w h Y) : m.At w :=
  ⟨g.rel.sl s, fun r hr => ⟨(g.row r hr).1.sl s, (g.row r hr).2.1, (g.row r hr).2.2⟩, g.val.sl s, g.lr, g.lv, g.cr, g.cv⟩
end Go.Proofs.Wit
namespace Go.Proofs.Wit
open Go Go.RowKit
/-! regions that draw their order: operations that only read, and behind them a tail that may make new blocks -/
def reach (ops : Array Oper) : Nat → List Nat → List Nat
  | 0, acc => acc
  | j + 1, acc => reach ops j (cond (acc.any fun z => (dirs ops z).contains j) (j :: acc) acc)
/-- x, and what comes before it -/
def below (ops : Array Oper) (x : Nat) : List Nat := reach ops x [x]
def forced (ops : Array Oper) : List Nat → List Nat → Bool
  | listed, [] => (readyL ops listed).isEmpty
  | listed, x :: rest => (readyL ops listed == [x]) && forced ops (x :: listed) rest
def tailOk (ops : Array Oper) (_l : Fl) (m : Nat) : Bool :=
  Nat.ble m ops.size &&
  (List.range ops.size).all (fun i => (dirs ops i).all (fun j => Nat.blt j i)) &&
  (List.range m).all (fun i => match ops[i]? with
    | none => false
    | some o => notSel o.op && match o.dst with
      | none => false
      | some d => (List.range ops.size).all (fun j => Nat.beq j i || !(dstOf ops j == some d)) &&
        (eyes ops o).all (fun s => (List.range ops.size).all (fun j => !(dstOf ops j == some s) || (dirs ops i).contains j || (Nat.ble m j && (below ops j).contains i)))) &&
  (List.range' m (ops.size - m)).all (fun i => match ops[i]? with
    | none => false
    | some o => (eyes ops o).all (fun s => (List.range m).all (fun j => !(dstOf ops j == some s) || (dirs ops i).contains j)))
section
variable {P : Program} {r : Option Nat} {f : FuncId} {R : Value → World → Prop} {w0 : World} {S : List Nat} {Y : List (Nat × Obj)} {n : Nat} {k : List Item} {l : Fl} {h : Hl} {ops : Array Oper}
/-- an operation, what it yields and what is known of memory behind it -/
def Mop (P : Program) (w0 : World) (S : List Nat) (n : Nat) (h : Hl) (ops : Array Oper) (i : Nat) (l : Fl) (d : Nat) (K : Value → Hl → Prop) : Prop :=
  ∃ o, ops[i]? = some o ∧ o.dst = some d ∧ isDefer o.op = false ∧ notSel o.op = true ∧ Nat.blt d n = true ∧
    ((wantL ops l o.guard = true ∧ ∀ (t : Array Value) (w : World) (Ds : List Nat) (Y' : List (Nat × Obj)), Frm n t l → St w0 S w h Y' →
      (∃ v w' h', (execOp (Act.eval ⟨t, Ds.map mark⟩) o).run P w = .ok (.value v) w' ∧ St w0 S w' h' Y' ∧ K v h') ∨
      (∃ gf args, ∃ Rc : Value → World → Prop, (execOp (Act.eval ⟨t, Ds.map mark⟩) o).run P w = .ok (.enter gf args) w ∧ (Calls P gf args w fun e w' => ∃ v, e = .returned v ∧ Rc v w') ∧ ∀ v w', Rc v w' → ∃ h', St w0 S w' h' Y' ∧ K v h')) ∨
    (skipL ops l o.guard = true ∧ K undef h))
theorem Mop.v {i d : Nat} {v : Value} {K : Value → Hl → Prop} (hv : Vop P w0 S n h ops i l d v) (hsel : ∀ o, ops[i]? = some o → notSel o.op = true) (hk : K v h) : Mop P w0 S n h ops i l d K := by
  obtain ⟨o, ho, hw, hdst, hnd, hd, hr⟩ := hv
  exact ⟨o, ho, hdst, hnd, hsel o ho, hd, .inl ⟨hw, fun t w Ds Y' hF hS => .inl (by
    obtain ⟨nx, h1, rfl⟩ := hr t w Ds Y' hF hS; exact ⟨v, w, h, h1, hS, hk⟩)⟩⟩
theorem Mop.no {i d : Nat} {o : Oper} {K : Value → Hl → Prop} (ho : ops[i]? = some o) (hw : skipL ops l o.guard = true) (hdst : o.dst = some d) (hnd : isDefer o.op = false) (hsel : notSel o.op = true) (hd : Nat.blt d n = true) (hk : K undef h) : Mop P w0 S n h ops i l d K :=
  ⟨o, ho, hdst, hnd, hsel, hd, .inr ⟨hw, hk⟩⟩
section
variable {i d : Nat} {ty : TypeId} {pos : String} {aft : Array Edge} {g : Option (Nat × Bool)} {K : Value → Hl → Prop}
theorem Mop.alc {e : TypeId} {z : Value} (ho : ops[i]? = some ⟨some d, .alloc e, ty, pos, aft, g⟩) (hw : wantL ops l g = true) (hd : Nat.blt d n = true) (hz : ∀ w, (zeroValue e).run P w = .ok z w)
    (hk : ∀ b, K (.pointer (some ⟨b, 0, none⟩)) ((some b, .cells z.cells e) :: h)) : Mop P w0 S n h ops i l d K :=
  ⟨_, ho, rfl, rfl, rfl, hd, .inl ⟨hw, fun t w Ds Y' hF hS => .inl ⟨.pointer (some ⟨w.heap.size, 0, none⟩), w.alloc (.cells z.cells e), _, by
    simp [execOp, Instr.alloc, hz, newVar, newRow], hS.alloc rfl, hk _⟩⟩⟩
theorem Mop.bx {e : TypeId} {x : Operand} {v : Value} (ho : ops[i]? = some ⟨some d, .box e x, ty, pos, aft, g⟩) (hw : wantL ops l g = true) (hx : opd l x = some v) (hd : Nat.blt d n = true)
    (hk : ∀ b, K (.pointer (some ⟨b, 0, none⟩)) ((some b, .cells v.cells e) :: h)) : Mop P w0 S n h ops i l d K :=
  ⟨_, ho, rfl, rfl, rfl, hd, .inl ⟨hw, fun t w Ds Y' hF hS => .inl ⟨.pointer (some ⟨w.heap.size, 0, none⟩), w.alloc (.cells v.cells e), _, by
    simp [execOp, Instr.box, hF.opd hx, newVar, newRow], hS.alloc rfl, hk _⟩⟩⟩
theorem Mop.bsN {t e : TypeId} {len : Nat} {az : Array (Nat × Operand)} {ps : List (Nat × Value)} {z : Value} {size : Nat} {c : List Value} (ho : ops[i]? = some ⟨some d, .buildSlice t len az, ty, pos, aft, g⟩) (hw : wantL ops l g = true) (hx : partsL l az.toList = some ps) (hd : Nat.blt d n = true)
    (hu : P.underlying t = some (.slice e)) (hs : ∀ w, (sizeOf e).run P w = .ok size w) (hz : ∀ w, (zeroValue e).run P w = .ok z w) (hm : Nat.ble (len * size) 16777216 = true)
    (hf : fillL (fun i => some (i * size, size)) ((List.range (len * size)).map fun i => z.cells.toList.getD (i % z.cells.toList.length) default) ps = some c)
    (hk : ∀ b, K (.slice (some ⟨b, 0, none⟩) len len) ((some b, .cells (c ++ []).toArray e) :: h)) : Mop P w0 S n h ops i l d K :=
  ⟨_, ho, rfl, rfl, rfl, hd, .inl ⟨hw, fun _ w Ds _ hF hS => .inl ⟨.slice (some ⟨w.heap.size, 0, none⟩) len len, w.alloc (.cells (c ++ []).toArray e), _,
    bsN_run hF hx hu hs hz hm hf Ds w, hS.alloc rfl, hk _⟩⟩⟩
theorem Mop.callM {az : Array Operand} {ts : Array TypeId} {cal : Operand} {gf : FuncId} {fs cs vs : List Value} (Rc : World → Value → World → Prop) (ho : ops[i]? = some ⟨some d, .call ⟨.value cal, az, ts⟩, ty, pos, aft, g⟩) (hw : wantL ops l g = true)
    (hc : opd l cal = some (.func (.func gf) fs.toArray cs.toArray)) (hx : opds l az.toList = some vs) (hd : Nat.blt d n = true) (hcf : ∀ args w, (callFunc gf args).run P w = .ok (.enter gf args) w)
    (hcall : ∀ w Y', St w0 S w h Y' → Cn P gf (fs ++ vs ++ cs) w (Rc w))
    (hk : ∀ v w w' Y', St w0 S w h Y' → Ex [] w w' → Rc w v w' → ∃ h', St w0 S w' h' Y' ∧ K v h') : Mop P w0 S n h ops i l d K :=
  ⟨_, ho, rfl, rfl, rfl, hd, .inl ⟨hw, fun t w Ds Y' hF hS => .inr ⟨gf, (fs ++ vs ++ cs).toArray, fun u w' => Ex [] w w' ∧ Rc w u w', by
    have e1 := resolve_run (P := P) (ty := ty) (ts := ts) (Ds := Ds) (w := w) hF hc hx
    simp only [execOp, Sem.run_bind, e1, Result.andThen_ok, invoke, hcf]
    simp, hcall w Y' hS, fun u w' ⟨he, hu⟩ => hk u w w' Y' hS he hu⟩⟩⟩
end
theorem Mop.call {i d : Nat} {ty : TypeId} {pos : String} {aft : Array Edge} {g : Option (Nat × Bool)} {K : Value → Hl → Prop} {az : Array Operand} {ts : Array TypeId} {cal : Operand} {gf : FuncId} {vs : List Value} (Rc : World → Value → World → Prop) (ho : ops[i]? = some ⟨some d, .call ⟨.value cal, az, ts⟩, ty, pos, aft, g⟩) (hw : wantL ops l g = true)
    (hc : opd l cal = some (.func (.func gf) #[] #[])) (hx : opds l az.toList = some vs) (hd : Nat.blt d n = true) (hcf : ∀ args w, (callFunc gf args).run P w = .ok (.enter gf args) w)
    (hcall : ∀ w Y', St w0 S w h Y' → Cn P gf vs w (Rc w))
    (hk : ∀ v w w' Y', St w0 S w h Y' → Ex [] w w' → Rc w v w' → ∃ h', St w0 S w' h' Y' ∧ K v h') : Mop P w0 S n h ops i l d K :=
  .callM (fs := []) (cs := []) Rc ho hw hc hx hd hcf (fun w Y' hS => by rw [List.nil_append, List.append_nil]; exact hcall w Y' hS) hk
/-- what comes first of rest comes behind all reads -/
def afterAll (ops : Array Oper) (m : Nat) : List Nat → Bool
  | [] => true
  | x :: _ => (List.range m).all (fun i => (below ops x).contains i && !(Nat.beq i x))
/-- the tail of a region: TL of it is done, and all that only read -/
def Tl (P : Program) (r : Option Nat) (f : FuncId) (R : Value → World → Prop) (w0 : World) (S : List Nat) (Y : List (Nat × Obj)) (n : Nat) (k : List Item) (ops : Array Oper) (m : Nat) (hb : Hl) : Nat → List Nat → Fl → Hl → Prop
  | 0, _, _, _ => False
  | q + 1, TL, l, h =>
    (∃ rest, forced ops (TL ++ List.range m) rest = true ∧ afterAll ops m rest = true ∧ GoH P r f R w0 S Y n (.inRegion ops rest :: k) l h) ∨
    (readyL ops (TL ++ List.range m) ≠ [] ∧ ∀ i ∈ readyL ops (TL ++ List.range m), ∃ d, Mop P w0 S n h ops i l d (fun v h' => hb.Sublist h' ∧ Tl P r f R w0 S Y n k ops m hb q (i :: TL) ((d, v) :: l) h'))
/-- the reads, in the order of the text -/
def RdT (P : Program) (w0 : World) (S : List Nat) (n : Nat) (ops : Array Oper) (h : Hl) (F : Fl → Prop) (i m : Nat) (l : Fl) : Prop :=
  ∀ t, Frm n t l → RdS P w0 S n h ops (fun t' => ∃ l', Frm n t' l' ∧ F l') i m t
theorem RdT.nil {F : Fl → Prop} {i : Nat} (hg : F l) : RdT P w0 S n ops h F i 0 l := fun _ hF => ⟨l, hF, hg⟩
theorem RdT.v {F : Fl → Prop} {i m d : Nat} {v : Value} (hv : Vop P w0 S n h ops i l d v) (hg : RdT P w0 S n ops h F (i + 1) m ((d, v) :: l)) : RdT P w0 S n ops h F i (m + 1) l := by
  intro t hF
  obtain ⟨o, ho, hw, hdst, hnd, hd, hr⟩ := hv
  exact ⟨d, v, ⟨o, ho, hdst, by simpa [Nat.blt_eq] using hd, hnd, .inl ⟨want_of hF hw, fun w Ds Y' hS => by
    obtain ⟨nx, h1, rfl⟩ := hr t w Ds Y' hF hS; exact .inl h1⟩⟩, hg _ (hF.put v hd)⟩
theorem RdT.callP {F : Fl → Prop} {i m d : Nat} {v : Value} {ty : TypeId} {pos : String} {aft : Array Edge} {g : Option (Nat × Bool)} {az : Array Operand} {ts : Array TypeId} {cal : Operand} {gf : FuncId} {vs : List Value} (ho : ops[i]? = some ⟨some d, .call ⟨.value cal, az, ts⟩, ty, pos, aft, g⟩) (hw : wantL ops l g = true)
    (hc : opd l cal = some (.func (.func gf) #[] #[])) (hx : opds l az.toList = some vs) (hd : Nat.blt d n = true) (hcf : ∀ args w, (callFunc gf args).run P w = .ok (.enter gf args) w)
    (hcall : ∀ w Y', St w0 S w h Y' → Cn P gf vs w (fun u _ => u = v)) (hg : RdT P w0 S n ops h F (i + 1) m ((d, v) :: l)) : RdT P w0 S n ops h F i (m + 1) l := by
  intro t hF
  refine ⟨d, v, ⟨_, ho, rfl, by simpa [Nat.blt_eq] using hd, rfl, .inl ⟨want_of hF hw, fun w Ds Y' hS => .inr ⟨gf, vs.toArray, ?_, hcall w Y' hS⟩⟩⟩, hg _ (hF.put v hd)⟩
  have e1 := resolve_run (P := P) (ty := ty) (ts := ts) (Ds := Ds) (w := w) hF hc hx
  simp only [execOp, Sem.run_bind, e1, Result.andThen_ok, invoke, hcf]
  simp
theorem RdT.no {F : Fl → Prop} {i m d : Nat} {o : Oper} (ho : ops[i]? = some o) (hw : skipL ops l o.guard = true) (hdst : o.dst = some d) (hnd : isDefer o.op = false) (hd : Nat.blt d n = true) (hg : RdT P w0 S n ops h F (i + 1) m ((d, undef) :: l)) : RdT P w0 S n ops h F i (m + 1) l :=
  fun t hF => ⟨d, undef, ⟨o, ho, hdst, by simpa [Nat.blt_eq] using hd, hnd, .inr ⟨skip_of hF hw, rfl⟩⟩, hg _ (hF.put undef hd)⟩
theorem RdT.cases {F : Fl → Prop} {i m d : Nat} {b : Bool} (hv : look l d = some (.bool b)) (ht : b = true → RdT P w0 S n ops h F i m ((d, .bool true) :: l)) (hf : b = false → RdT P w0 S n ops h F i m ((d, .bool false) :: l)) : RdT P w0 S n ops h F i m l := by
  intro t hF
  cases hb : b with
  | true => exact ht hb t (frm_case hF hv hb)
  | false => exact hf hb t (frm_case hF hv hb)
theorem mem_reach {x : Nat} {listed : List Nat} (hc : ∀ j ∈ listed, ∀ e ∈ dirs ops j, e ∈ listed) (hx : ∀ e ∈ dirs ops x, e ∈ listed) : ∀ {j : Nat} {acc : List Nat}, (∀ z ∈ acc, z = x ∨ z ∈ listed) → ∀ y ∈ reach ops j acc, y = x ∨ y ∈ listed
  | 0, _, ha, y, hy => ha y hy
  | j + 1, acc, ha, y, hy => by
    rw [reach] at hy
    refine mem_reach hc hx (acc := cond (acc.any fun z => (dirs ops z).contains j) (j :: acc) acc) (fun z hz => ?_) y hy
    cases hb : acc.any fun z => (dirs ops z).contains j with
    | false => rw [hb] at hz; exact ha z hz
    | true =>
      rw [hb] at hz
      rcases List.mem_cons.1 hz with rfl | hz
      · obtain ⟨u, hu, hd⟩ := List.any_eq_true.1 hb
        have hd := List.contains_iff_mem.1 hd
        rcases ha u hu with rfl | h
        · exact .inr (hx _ hd)
        · exact .inr (hc u h _ hd)
      · exact ha z hz
theorem mem_below {x : Nat} {listed : List Nat} (hc : ∀ j ∈ listed, ∀ e ∈ dirs ops j, e ∈ listed) (hx : ∀ e ∈ dirs ops x, e ∈ listed) : ∀ y ∈ below ops x, y = x ∨ y ∈ listed :=
  mem_reach hc hx (fun _ hz => .inl (List.mem_singleton.1 hz))
theorem mem_readyL {listed : List Nat} {i : Nat} : i ∈ readyL ops listed ↔ i < ops.size ∧ i ∉ listed ∧ ∀ e ∈ dirs ops i, e ∈ listed := by
  simp [readyL, List.mem_filter]
structure TailFacts (ops : Array Oper) (m : Nat) : Prop where
  size : m ≤ ops.size
  lt : ∀ i, i < ops.size → ∀ j ∈ dirs ops i, j < i
  sel : ∀ i, i < m → ∀ o, ops[i]? = some o → notSel o.op = true
  inj : ∀ i j d, i < m → j < ops.size → dstOf ops i = some d → dstOf ops j = some d → i = j
  eye : ∀ i, i < m → ∀ o, ops[i]? = some o → ∀ s ∈ eyes ops o, ∀ j, j < ops.size → dstOf ops j = some s → j ∈ dirs ops i ∨ (m ≤ j ∧ i ∈ below ops j)
  eyeT : ∀ i, m ≤ i → ∀ o, ops[i]? = some o → ∀ s ∈ eyes ops o, ∀ j, j < m → dstOf ops j = some s → j ∈ dirs ops i
theorem tailFacts_of {m : Nat} (hc : tailOk ops l m = true) : TailFacts ops m := by
  simp only [tailOk, Bool.and_eq_true, List.all_eq_true, List.mem_range, List.mem_range'_1, Nat.blt_eq, Nat.ble_eq] at hc
  obtain ⟨⟨⟨hsz, hlt⟩, hr⟩, ht⟩ := hc
  have hat : ∀ i, i < m → ∃ o d, ops[i]? = some o ∧ o.dst = some d ∧ notSel o.op = true ∧ (∀ j, j < ops.size → j = i ∨ dstOf ops j ≠ some d) ∧ (∀ s ∈ eyes ops o, ∀ j, j < ops.size → (dstOf ops j ≠ some s ∨ j ∈ dirs ops i) ∨ (m ≤ j ∧ i ∈ below ops j)) := by
    intro i hi
    have := hr i hi
    cases ho : ops[i]? with
    | none => simp [ho] at this
    | some o =>
      cases hd : o.dst with
      | none => simp [ho, hd] at this
      | some d =>
        simp only [ho, hd, Bool.and_eq_true, List.all_eq_true, List.mem_range, Bool.or_eq_true, Nat.beq_eq, Bool.not_eq_true', beq_eq_false_iff_ne, List.contains_iff_mem, Nat.ble_eq] at this
        exact ⟨o, d, rfl, hd, this.1, this.2.1, this.2.2⟩
  refine ⟨hsz, hlt, fun i hi o ho => ?_, fun i j d hi hj h1 h2 => ?_, fun i hi o ho s hs j hj hd => ?_, fun i hi o ho s hs j hj hd => ?_⟩
  · obtain ⟨o', d, h1, _, h3, _⟩ := hat i hi
    rw [ho] at h1; cases h1; exact h3
  · obtain ⟨o, d', e1, e2, _, e5, _⟩ := hat i hi
    have : d' = d := by simp [dstOf, e1, e2] at h1; exact h1
    subst this
    rcases e5 j hj with e | e
    · exact e.symm
    · exact absurd h2 e
  · obtain ⟨o', d, e1, _, _, _, e6⟩ := hat i hi
    rw [ho] at e1; cases e1
    rcases e6 s hs j hj with (e | e) | e
    · exact absurd hd e
    · exact .inl e
    · exact .inr e
  · have hiN := (Array.getElem?_eq_some_iff.1 ho).1
    have := ht i ⟨hi, by omega⟩
    simp only [ho, List.all_eq_true, Bool.or_eq_true, Bool.not_eq_true', beq_eq_false_iff_ne, List.contains_iff_mem, List.mem_range] at this
    rcases this s hs j hj with e | e
    · exact absurd hd e
    · exact e
theorem readyL_congr {a b : List Nat} (h : ∀ j, j ∈ a ↔ j ∈ b) : readyL ops a = readyL ops b := by
  have : ∀ j, a.contains j = b.contains j := fun j => by rw [Bool.eq_iff_iff]; simp [h j]
  unfold readyL
  simp only [this]
theorem forced_go : ∀ {rest listed : List Nat} {fuel τ : Nat} {arr : Array Bool}, forced ops listed rest = true → arr.size = ops.size → (∀ j, arr.getD j false = listed.contains j) → rest.length ≤ fuel →
    Region.linearise.go .any ops fuel τ arr [] = rest
  | [], listed, fuel, τ, arr, hf, hs, h, _ => by
    have h0 : readyL ops listed = [] := by simpa [forced] using hf
    cases fuel with
    | zero => rfl
    | succ fuel =>
      simp only [Region.linearise.go]
      change (match (Region.ready .any ops arr)[_ % (Region.ready .any ops arr).length]? with
        | some i => _
        | none => [].reverse) = []
      rw [ready_eq hs h, h0]; rfl
  | x :: rest, listed, 0, τ, arr, hf, hs, h, hl => by simp at hl
  | x :: rest, listed, fuel + 1, τ, arr, hf, hs, h, hl => by
    simp only [forced, Bool.and_eq_true, beq_iff_eq] at hf
    simp only [Region.linearise.go]
    change (match (Region.ready .any ops arr)[_ % (Region.ready .any ops arr).length]? with
      | some i => Region.linearise.go .any ops fuel (τ / (Region.ready .any ops arr).length) (arr.setIfInBounds i true) [i]
      | none => [].reverse) = _
    rw [ready_eq hs h, hf.1]
    simp only [List.length_singleton, Nat.mod_one, List.getElem?_cons_zero]
    rw [linearise_go_acc, List.reverse_singleton, List.singleton_append]
    have hx : x ∈ readyL ops listed := by rw [hf.1]; simp
    have hxl := (mem_readyL.1 hx).1
    rw [forced_go (listed := x :: listed) hf.2 (by simpa using hs) (fun j => ?_) (by simpa using hl)]
    rw [getD_listed (by omega), h j, List.contains_cons]
    split
    · rename_i e; subst e; simp
    · rename_i e; rw [beq_false_of_ne (Ne.symm e)]; rfl
theorem forced_len : ∀ {rest listed : List Nat}, forced ops listed rest = true → rest.length ≤ (List.range ops.size).countP (fun j => !listed.contains j)
  | [], _, _ => Nat.zero_le _
  | x :: rest, listed, hf => by
    simp only [forced, Bool.and_eq_true, beq_iff_eq] at hf
    have hx : x ∈ readyL ops listed := by rw [hf.1]; simp
    obtain ⟨h1, h2, _⟩ := mem_readyL.1 hx
    have ih := forced_len hf.2
    have := countP_lt (l := List.range ops.size) (p := fun j => !(x :: listed).contains j) (q := fun j => !listed.contains j) (fun y _ hy => by simp at hy ⊢; exact hy.2) ⟨x, by simpa using h1, by simpa using h2, by simp⟩
    simp only [List.length_cons]; omega
theorem Outc.goS {i d : Nat} {v : Value} {t : Array Value} {rest : List Nat} {w : World} {Ds : List Nat} {hb : Hl} (ho : Outc P w0 S n hb ops i t d v) (hs : hb.Sublist h) (hS : St w0 S w h (mkY Ds ++ Y))
    (hk : ∀ w', St w0 S w' h (mkY Ds ++ Y) → Gos P r f R (.inRegion ops rest :: k) (t.setIfInBounds d v) (Ds.map mark) w') : Gos P r f R (.inRegion ops (i :: rest) :: k) t (Ds.map mark) w := by
  obtain ⟨o, h1, h2, h3, h4, h5⟩ := ho
  rcases h5 with ⟨a, b⟩ | ⟨a, rfl⟩
  · rcases b w Ds _ (hS.subH hs) with hb | ⟨gf, args, hb, hcall⟩
    · refine Gos.op h1 a (not_defer h4) hb (.inl rfl) ?_
      rw [h2]; exact hk w hS
    · refine Gos.call h1 a (not_defer h4) hb hcall (fun u w2 hu => ?_)
      obtain ⟨he, rfl⟩ := hu
      rw [h2]; exact hk w2 (hS.later he)
  · refine Gos.opSkip h1 a ?_
    rw [h2]; exact hk w hS
theorem wanted_congr {o : Oper} {t t' : Array Value} (hs : t'.size = t.size) (he : ∀ s ∈ eyes ops o, t'.getD s undef = t.getD s undef) : Region.wanted o (yielded ops t') = Region.wanted o (yielded ops t) := by
  unfold Region.wanted
  cases hg : o.guard with
  | none => rfl
  | some p =>
    obtain ⟨j, want⟩ := p
    have : yielded ops t' j = yielded ops t j := by
      unfold yielded
      cases hd : (ops[j]?).bind (·.dst) with
      | none => rfl
      | some dj =>
        simp only [Option.bind_some]
        rw [opt_of_getD hs (he dj (by simp [eyes, hg, dstOf, hd]))]
    simp only [this]
theorem Mop.go {i d : Nat} {K : Value → Hl → Prop} {T t : Array Value} {rest : List Nat} {w : World} {Ds : List Nat} (hm : Mop P w0 S n h ops i l d K) (hF : Frm n T l) (hs : t.size = T.size)
    (he : ∀ o, ops[i]? = some o → ∀ s ∈ eyes ops o, t.getD s undef = T.getD s undef) (hS : St w0 S w h (mkY Ds ++ Y))
    (hk : ∀ v w' h', K v h' → St w0 S w' h' (mkY Ds ++ Y) → Gos P r f R (.inRegion ops rest :: k) (t.setIfInBounds d v) (Ds.map mark) w') : Gos P r f R (.inRegion ops (i :: rest) :: k) t (Ds.map mark) w := by
  obtain ⟨o, ho, hdst, hnd, hsel, hd, hr⟩ := hm
  have hw := wanted_congr (ops := ops) (o := o) hs (he o ho)
  rcases hr with ⟨hwant, hr⟩ | ⟨hskip, hK⟩
  · have hexec : execOp (Act.eval ⟨t, Ds.map mark⟩) o = execOp (Act.eval ⟨T, Ds.map mark⟩) o := execOp_congr (ρ' := Act.eval ⟨T, Ds.map mark⟩) o (fun cs bb e => by rw [e] at hsel; cases hsel) (fun x hx => by
      cases x with
      | tmp s => exact he o ho s (by
          simp only [eyes, List.mem_append]
          exact .inr (List.mem_filterMap.2 ⟨.tmp s, by simpa using hx, rfl⟩))
      | const v => rfl
      | global g => rfl
      | func g => rfl)
    rcases hr T w Ds _ hF hS with ⟨v, w', h', h1, h2, h3⟩ | ⟨gf, args, Rc, h1, h2, h3⟩
    · refine Gos.op ho (hw.trans (want_of hF hwant)) (not_defer hnd) (by rw [hexec]; exact h1) (.inl rfl) ?_
      rw [hdst]; exact hk v w' h' h3 h2
    · refine Gos.call ho (hw.trans (want_of hF hwant)) (not_defer hnd) (by rw [hexec]; exact h1) h2 (fun u w2 hu => ?_)
      obtain ⟨h', h4, h5⟩ := h3 u w2 hu
      rw [hdst]; exact hk u w2 h' h5 h4
  · refine Gos.opSkip ho (hw.trans (skip_of hF hskip)) ?_
    rw [hdst]; exact hk undef w h hK hS
theorem tail_core {m : Nat} (hf : TailFacts ops m) {D : Nat → Nat} {V : Nat → Value} {t0 : Array Value} {hB : Hl} (ht0 : t0.size = n)
    (hout : ∀ j, j < m → Outc P w0 S n hB ops j (tsq D V t0 j) (D j) (V j)) :
    ∀ (fuel τ : Nat) (arr : Array Bool) (TL : List Nat) (q : Nat) (l : Fl) (h : Hl) (t T : Array Value), arr.size = ops.size → (∀ j, arr.getD j false = true → ∀ e ∈ dirs ops j, arr.getD e false = true) →
      (∀ j, m ≤ j → (arr.getD j false = true ↔ j ∈ TL)) → (∀ j ∈ TL, m ≤ j) → Frm n T l → Tl P r f R w0 S Y n k ops m hB q TL l h → hB.Sublist h → t.size = n →
      (∀ j, j < m → T.getD (D j) undef = V j) → (∀ s, (∀ j, j < m → arr.getD j false = false → D j ≠ s) → t.getD s undef = T.getD s undef) → (∀ s, (∀ j, j < m → D j ≠ s) → (∀ j, m ≤ j → j < ops.size → dstOf ops j = some s → arr.getD j false = false) → T.getD s undef = t0.getD s undef) →
      (List.range ops.size).countP (fun j => !arr.getD j false) ≤ fuel → ∀ w Ds, St w0 S w h (mkY Ds ++ Y) → Gos P r f R (.inRegion ops (Region.linearise.go .any ops fuel τ arr []) :: k) t (Ds.map mark) w := by
  have hDst : ∀ j, j < m → dstOf ops j = some (D j) := fun j hj => by
    obtain ⟨o, h1, h2, _⟩ := hout j hj
    simp [dstOf, h1, h2]
  have hDlt : ∀ j, j < m → D j < t0.size := fun j hj => by
    obtain ⟨o, _, _, h3, _⟩ := hout j hj; omega
  have hmN := hf.size
  have hDinj : ∀ i j, i < m → j < m → D i = D j → i = j := fun i j hi hj e => hf.inj i j (D i) hi (by omega) (hDst i hi) (by rw [hDst j hj, e])
  -- all reads are done, and what is left has one order
  have hsw : ∀ {fuel τ : Nat} {arr : Array Bool} {TL rest : List Nat} {l : Fl} {h : Hl} {t T : Array Value}, arr.size = ops.size → (∀ j, m ≤ j → (arr.getD j false = true ↔ j ∈ TL)) → (∀ j ∈ TL, m ≤ j) → Frm n T l → t.size = n →
      (∀ s, (∀ j, j < m → arr.getD j false = false → D j ≠ s) → t.getD s undef = T.getD s undef) → (∀ j, j < m → arr.getD j false = true) → forced ops (TL ++ List.range m) rest = true →
      GoH P r f R w0 S Y n (.inRegion ops rest :: k) l h → (List.range ops.size).countP (fun j => !arr.getD j false) ≤ fuel → ∀ w Ds, St w0 S w h (mkY Ds ++ Y) → Gos P r f R (.inRegion ops (Region.linearise.go .any ops fuel τ arr []) :: k) t (Ds.map mark) w := by
    intro fuel τ arr TL rest l h t T hls hTL hTm hF hts hb hall hfo hg hc w Ds hS
    have hcont : ∀ j, arr.getD j false = (TL ++ List.range m).contains j := fun j => by
      rw [Bool.eq_iff_iff, List.contains_iff_mem, List.mem_append, List.mem_range]
      rcases Nat.lt_or_ge j m with hj | hj
      · exact ⟨fun _ => .inr hj, fun _ => hall j hj⟩
      · exact ⟨fun x => .inl ((hTL j hj).1 x), fun x => (hTL j hj).2 (by rcases x with x | x; exact x; omega)⟩
    have hlen := forced_len hfo
    have e1 : (fun j => !(TL ++ List.range m).contains j) = fun j => !arr.getD j false := by funext j; rw [hcont]
    rw [e1] at hlen
    rw [forced_go hfo hls hcont (by omega)]
    have ht : t = T := Array.ext_getElem? (fun s => opt_of_getD (by rw [hts, hF.1]) (hb s (fun j hj hu => by rw [hall j hj] at hu; cases hu)))
    rw [ht]; exact hg T w Ds hF hS
  intro fuel
  induction fuel with
  | zero =>
    intro τ arr TL q l h t T hls hcl hTL hTm hF htl hsub hts ha hb hcb hc w Ds hS
    have hl : ∀ j, j < ops.size → arr.getD j false = true := fun j hj => by
      have := List.countP_eq_zero.1 (Nat.le_zero.1 hc) j (by simpa using hj)
      simpa using this
    cases q with
    | zero => exact htl.elim
    | succ q =>
      rcases htl with ⟨rest, h1, _, h3⟩ | ⟨hne, _⟩
      · exact hsw hls hTL hTm hF hts hb (fun j hj => hl j (by omega)) h1 h3 hc w Ds hS
      · exfalso
        apply hne
        rw [List.eq_nil_iff_forall_not_mem]
        intro j hj
        obtain ⟨a1, a2, _⟩ := mem_readyL.1 hj
        apply a2
        rw [List.mem_append, List.mem_range]
        rcases Nat.lt_or_ge j m with hj | hj
        · exact .inr hj
        · exact .inl ((hTL j hj).1 (hl j a1))
  | succ fuel ih =>
    intro τ arr TL q l h t T hls hcl hTL hTm hF htl hsub hts ha hb hcb hc w Ds hS
    have hready : (∃ j, j < ops.size ∧ arr.getD j false = false) → Region.ready .any ops arr ≠ [] := by
      rintro ⟨j, hj, hu⟩
      have key : ∀ q, q < ops.size → arr.getD q false = false → Region.ready .any ops arr ≠ [] := by
        intro q
        induction q using Nat.strongRecOn with
        | _ q ihq =>
          intro hq hqu
          by_cases hb : ∃ e ∈ dirs ops q, arr.getD e false = false
          · obtain ⟨e, he, heu⟩ := hb
            have hlt := hf.lt q hq e he
            exact ihq e hlt (by omega) heu
          · obtain ⟨o, ho⟩ : ∃ o, ops[q]? = some o := ⟨ops[q], Array.getElem?_eq_getElem hq⟩
            have : q ∈ Region.ready .any ops arr := by
              rw [mem_ready]
              refine ⟨by rw [getD_tf (by omega)]; exact hqu, o, ho, fun e he hbd => ?_⟩
              cases hx : arr.getD e.on false with
              | true => rfl
              | false => exact absurd ⟨e.on, (mem_dirs ho).2 ⟨e, he, hbd, rfl⟩, hx⟩ hb
            exact List.ne_nil_of_mem this
      exact key j hj hu
    -- what is ready behind the reads is ready when all reads are done
    have hrT : ∀ i, m ≤ i → i < ops.size → arr.getD i false = false → (∀ e ∈ dirs ops i, arr.getD e false = true) → i ∈ readyL ops (TL ++ List.range m) := fun i him hiN hu hd => by
      rw [mem_readyL]
      refine ⟨hiN, fun hx => ?_, fun e he => ?_⟩
      · rw [List.mem_append, List.mem_range] at hx
        rcases hx with hx | hx
        · rw [(hTL i him).2 hx] at hu; cases hu
        · omega
      · rw [List.mem_append, List.mem_range]
        rcases Nat.lt_or_ge e m with hj | hj
        · exact .inr hj
        · exact .inl ((hTL e hj).1 (hd e he))
    by_cases hdone : ∃ rest, forced ops (TL ++ List.range m) rest = true ∧ GoH P r f R w0 S Y n (.inRegion ops rest :: k) l h ∧ ∀ j, j < m → arr.getD j false = true
    · obtain ⟨rest, h1, h2, h3⟩ := hdone
      exact hsw hls hTL hTm hF hts hb h3 h1 h2 hc w Ds hS
    simp only [Region.linearise.go]
    change Gos P r f R (.inRegion ops (match (Region.ready .any ops arr)[τ % (Region.ready .any ops arr).length]? with
      | some i => Region.linearise.go .any ops fuel (τ / (Region.ready .any ops arr).length) (arr.setIfInBounds i true) [i]
      | none => [].reverse) :: k) t (Ds.map mark) w
    cases hi : (Region.ready .any ops arr)[τ % (Region.ready .any ops arr).length]? with
    | none =>
      exfalso
      have hnil : Region.ready .any ops arr = [] := by
        cases hr : Region.ready .any ops arr with
        | nil => rfl
        | cons x xs =>
          rw [hr] at hi
          have hlt : τ % (x :: xs).length < (x :: xs).length := Nat.mod_lt _ (by simp)
          rw [List.getElem?_eq_getElem hlt] at hi; cases hi
      have hl : ∀ j, j < ops.size → arr.getD j false = true := fun j hj => by
        cases hx : arr.getD j false with
        | true => rfl
        | false => exact absurd hnil (hready ⟨j, hj, hx⟩)
      cases q with
      | zero => exact htl.elim
      | succ q =>
        rcases htl with ⟨rest, h1, _, h3⟩ | ⟨hne, _⟩
        · exact hdone ⟨rest, h1, h3, fun j hj => hl j (by omega)⟩
        · apply hne
          rw [List.eq_nil_iff_forall_not_mem]
          intro j hj
          obtain ⟨a1, a2, _⟩ := mem_readyL.1 hj
          apply a2
          rw [List.mem_append, List.mem_range]
          rcases Nat.lt_or_ge j m with hj | hj
          · exact .inr hj
          · exact .inl ((hTL j hj).1 (hl j a1))
    | some i =>
      have hmem := List.mem_of_getElem? hi
      rw [mem_ready] at hmem
      obtain ⟨hu, o, ho, hdep⟩ := hmem
      have hiN : i < ops.size := (Array.getElem?_eq_some_iff.1 ho).1
      rw [getD_tf (by omega)] at hu
      simp only []
      rw [linearise_go_acc, List.reverse_singleton, List.singleton_append]
      have hdl : ∀ e ∈ dirs ops i, arr.getD e false = true := fun e he => by
        obtain ⟨e', he', hb, rfl⟩ := (mem_dirs ho).1 he
        exact hdep e' he' hb
      have hcl' : ∀ j, (arr.setIfInBounds i true).getD j false = true → ∀ e ∈ dirs ops j, (arr.setIfInBounds i true).getD e false = true := by
        intro j hj e he
        rw [getD_listed (by omega)] at hj ⊢
        split
        · rfl
        · split at hj
          · rename_i hij; subst hij; exact hdl e he
          · exact hcl j hj e he
      have hcnt := count_set (listed := arr) hls hiN hu
      by_cases him : i < m
      · -- a read
        have hgo := hout i him
        have hDi : D i < t.size := by rw [hts, ← ht0]; exact hDlt i him
        have heq : Outc P w0 S n hB ops i t (D i) (V i) := by
          refine hgo.congr (hf.sel i him) (by rw [hts, tsq_size, ht0]) (fun o' ho' s hs => ?_)
          obtain ⟨g1, g2⟩ := tsq_get hDlt hDinj i (by omega)
          by_cases hx : ∃ j, j < m ∧ D j = s
          · obtain ⟨j, hj, rfl⟩ := hx
            have hjd := (hf.eye i him o' ho' (D j) hs j (by omega) (hDst j hj)).resolve_right (fun x => by omega)
            rw [g1 j (hf.lt i hiN j hjd), hb (D j) (fun j' hj' hu' e => by
              have := hDinj j' j hj' hj e
              subst this
              rw [hdl j' hjd] at hu'; cases hu'), ha j hj]
          · rw [hb s (fun j hj _ e => hx ⟨j, hj, e⟩), g2 s (fun j hj e => hx ⟨j, by omega, e⟩)]
            refine hcb s (fun j hj e => hx ⟨j, hj, e⟩) (fun j hmj hj hd => ?_)
            rcases hf.eye i him o' ho' s hs j hj hd with hjd | ⟨_, hjb⟩
            · have hjl := hf.lt i hiN j hjd
              omega
            · cases hja : arr.getD j false with
              | false => rfl
              | true =>
                exfalso
                have := mem_below (ops := ops) (listed := (List.range ops.size).filter (fun j => arr.getD j false)) (x := j) (fun j hj e he => by
                  rw [List.mem_filter, List.mem_range] at hj ⊢
                  have hlt := hf.lt j hj.1 e he
                  exact ⟨by omega, hcl j hj.2 e he⟩) (fun e he => by
                  rw [List.mem_filter, List.mem_range]
                  have hlt := hf.lt j hj e he
                  exact ⟨by omega, hcl j hja e he⟩) i hjb
                rcases this with h | h
                · omega
                · rw [(List.mem_filter.1 h).2] at hu; cases hu
        refine heq.goS hsub hS (fun w hS => ?_)
        refine ih _ _ TL q l h _ T (by simpa using hls) hcl' (fun j hj => ?_) hTm hF htl hsub (by simpa using hts) ha (fun s hs => ?_) (fun s hs1 hs2 => hcb s hs1 (fun j hj hjN hd => by
          have := hs2 j hj hjN hd
          rwa [getD_listed (by omega), if_neg (by omega)] at this)) (by omega) w Ds hS
        · rw [getD_listed (by omega), if_neg (by omega)]; exact hTL j hj
        · rw [getD_set hDi]
          split
          · rename_i e; subst e; exact (ha i him).symm
          · rename_i e
            refine hb s (fun j hj hu' => ?_)
            by_cases e2 : i = j
            · subst e2; exact e
            · exact hs j hj (by rw [getD_listed (by omega), if_neg e2]; exact hu')
      · -- of the tail
        have him' : m ≤ i := by omega
        have hir := hrT i him' hiN hu hdl
        cases q with
        | zero => exact htl.elim
        | succ q =>
          rcases htl with ⟨rest, h1, hbel, h3⟩ | ⟨_, hop⟩
          · exfalso
            cases rest with
            | nil =>
              have h0 : readyL ops (TL ++ List.range m) = [] := by simpa [forced] using h1
              rw [h0] at hir; cases hir
            | cons x rest =>
              have hx : readyL ops (TL ++ List.range m) = [x] := by
                simp only [forced, Bool.and_eq_true, beq_iff_eq] at h1; exact h1.1
              rw [hx] at hir
              obtain rfl := List.mem_singleton.1 hir
              refine hdone ⟨i :: rest, h1, h3, fun j hj => ?_⟩
              have hmem : j ∈ below ops i ∧ j ≠ i := by
                have := List.all_eq_true.1 hbel j (by simpa using hj)
                rw [Bool.and_eq_true, List.contains_iff_mem, Bool.not_eq_true'] at this
                exact ⟨this.1, fun e => by rw [e, Nat.beq_refl] at this; cases this.2⟩
              have := mem_below (ops := ops) (listed := (List.range ops.size).filter (fun j => arr.getD j false)) (x := i) (fun j hj e he => by
                rw [List.mem_filter, List.mem_range] at hj ⊢
                have hlt := hf.lt j hj.1 e he
                exact ⟨by omega, hcl j hj.2 e he⟩) (fun e he => by
                rw [List.mem_filter, List.mem_range]
                have hlt := hf.lt i hiN e he
                exact ⟨by omega, hdl e he⟩) j hmem.1
              exact (List.mem_filter.1 (this.resolve_left hmem.2)).2
          · obtain ⟨d, hmop⟩ := hop i hir
            have hdi : dstOf ops i = some d := by
              obtain ⟨o', e1, e2, _⟩ := hmop
              simp [dstOf, e1, e2]
            have hdn : d < n := by
              obtain ⟨o', _, _, _, _, hd, _⟩ := hmop
              simpa [Nat.blt_eq] using hd
            refine hmop.go hF (by rw [hts, hF.1]) (fun o' ho' s hs => ?_) hS (fun v w' h' hK hS' => ?_)
            · refine hb s (fun j hj hu' e => ?_)
              subst e
              have hjd := hf.eyeT i him' o' ho' (D j) hs j hj (hDst j hj)
              rw [hdl j hjd] at hu'; cases hu'
            · obtain ⟨hsub', htl'⟩ := hK
              refine ih _ _ (i :: TL) q ((d, v) :: l) h' _ (T.setIfInBounds d v) (by simpa using hls) hcl' (fun j hj => ?_) (fun j hj => ?_) (hF.put v (by simpa [Nat.blt_eq] using hdn)) htl' hsub' (by simpa using hts) (fun j hj => ?_) (fun s hs => ?_) (fun s hs1 hs2 => ?_) (by omega) w' Ds hS'
              · rw [getD_listed (by omega), List.mem_cons]
                split
                · rename_i e; subst e; simp
                · rename_i e
                  rw [hTL j hj]
                  exact ⟨.inr, fun x => x.resolve_left (Ne.symm e)⟩
              · rcases List.mem_cons.1 hj with rfl | hj
                · exact him'
                · exact hTm j hj
              · rw [getD_set (by rw [hF.1]; exact hdn)]
                split
                · rename_i e
                  have := hf.inj j i d hj hiN (by rw [hDst j hj, e]) hdi
                  omega
                · exact ha j hj
              · rw [getD_set (by rw [hts]; exact hdn), getD_set (by rw [hF.1]; exact hdn)]
                split
                · rfl
                · refine hb s (fun j hj hu' => hs j hj ?_)
                  rw [getD_listed (by omega), if_neg (by omega)]; exact hu'
              · rw [getD_set (by rw [hF.1]; exact hdn)]
                split
                · rename_i e
                  have := hs2 i him' hiN (by rw [hdi, e])
                  rw [getD_listed (by omega), if_pos rfl] at this; cases this
                · refine hcb s hs1 (fun j hj hjN hd => ?_)
                  have := hs2 j hj hjN hd
                  rw [getD_listed (by omega)] at this
                  split at this
                  · cases this
                  · exact this
/-- **a region that draws its order: its first m operations only read; those behind them may make new blocks; then what is left has one order** -/
theorem GoH.drawT {id : Nat} (m q : Nat) (hmix : P.follows .mixedOrders = true) (hc : tailOk ops l m = true) (hg : RdT P w0 S n ops h (fun l' => Tl P r f R w0 S Y n k ops m h q [] l' h) 0 m l) : GoH P r f R w0 S Y n (.code (.region id ops true) :: k) l h := by
  intro t w Ds hF hS
  have hf := tailFacts_of hc
  refine .regionDraw (fun τ => ?_)
  obtain ⟨D, V, hout, l', hF', htl⟩ := (hg t hF).seq
  simp only [Nat.zero_add] at hout
  simp only [Region.schedule, hmix, Bool.true_or, if_true, Region.linearise]
  have hDst : ∀ j, j < m → dstOf ops j = some (D j) := fun j hj => by
    obtain ⟨o, h1, h2, _⟩ := hout j hj
    simp [dstOf, h1, h2]
  have hDlt : ∀ j, j < m → D j < t.size := fun j hj => by
    obtain ⟨o, _, _, h3, _⟩ := hout j hj
    rw [hF.1]; exact h3
  have hmN := hf.size
  have hDinj : ∀ i j, i < m → j < m → D i = D j → i = j := fun i j hi hj e => hf.inj i j (D i) hi (by omega) (hDst i hi) (by rw [hDst j hj, e])
  obtain ⟨g1, g2⟩ := tsq_get hDlt hDinj m (Nat.le_refl _)
  have harr : ∀ j, (Array.replicate ops.size false).getD j false = false := fun j => by
    simp [Array.getD_eq_getD_getElem?, Array.getElem?_replicate]; split <;> simp
  refine tail_core hf hF.1 hout ops.size τ _ [] q l' h t _ (by simp) (fun j hj => ?_) (fun j _ => ?_) (by simp) hF' htl (List.Sublist.refl _) hF.1 g1 (fun s hs => ?_) (fun s hs _ => ?_) ?_ _ Ds hS.drew
  · rw [harr] at hj; cases hj
  · rw [harr]; simp
  · rw [g2 s (fun j hj => hs j hj (harr j))]
  · exact g2 s (fun j hj e => hs j hj e)
  · exact Nat.le_trans (List.countP_le_length) (by simp)
theorem Tl.sw {m q : Nat} {hb : Hl} {TL : List Nat} (rest : List Nat) (h1 : forced ops (TL ++ List.range m) rest = true) (h2 : afterAll ops m rest = true)
    (hg : GoH P r f R w0 S Y n (.inRegion ops rest :: k) l h) : Tl P r f R w0 S Y n k ops m hb (q + 1) TL l h := .inl ⟨rest, h1, h2, hg⟩
/-- one operation is next -/
theorem Tl.one {m q i d : Nat} {hb : Hl} {TL : List Nat} (h1 : readyL ops (TL ++ List.range m) = [i]) (hm : Mop P w0 S n h ops i l d (fun v h' => hb.Sublist h' ∧ Tl P r f R w0 S Y n k ops m hb q (i :: TL) ((d, v) :: l) h')) : Tl P r f R w0 S Y n k ops m hb (q + 1) TL l h :=
  .inr ⟨by rw [h1]; simp, fun j hj => by rw [h1] at hj; obtain rfl := List.mem_singleton.1 hj; exact ⟨d, hm⟩⟩
/-- one of two operations is next -/
theorem Tl.two {m q i d i2 d2 : Nat} {hb : Hl} {TL : List Nat} (h1 : readyL ops (TL ++ List.range m) = [i, i2]) (hm : Mop P w0 S n h ops i l d (fun v h' => hb.Sublist h' ∧ Tl P r f R w0 S Y n k ops m hb q (i :: TL) ((d, v) :: l) h'))
    (hm2 : Mop P w0 S n h ops i2 l d2 (fun v h' => hb.Sublist h' ∧ Tl P r f R w0 S Y n k ops m hb q (i2 :: TL) ((d2, v) :: l) h')) : Tl P r f R w0 S Y n k ops m hb (q + 1) TL l h :=
  .inr ⟨by rw [h1]; simp, fun j hj => by
    rw [h1] at hj
    rcases List.mem_cons.1 hj with rfl | hj
    · exact ⟨d, hm⟩
    · obtain rfl := List.mem_singleton.1 hj; exact ⟨d2, hm2⟩⟩
end
end Go.Proofs.Wit
namespace Go.Proofs.Wit
open Go Go.RowKit
theorem GoH.sub' {P : Program} {r : Option Nat} {f : FuncId} {R : Value → World → Prop} {w0 : World} {S : List Nat} {Y : List (Nat × Obj)} {n : Nat} {k : List Item} {l l' : Fl} {h h' : Hl} (hg : GoH P r f R w0 S Y n k l' h') (hl : SubF l' l) (hh : ∀ w Y', St w0 S w h Y' → St w0 S w h' Y') : GoH P r f R w0 S Y n k l h :=
  fun t w Ds hF hS => hg t w Ds (hF.sub hl) (hh w _ hS)
/-- what comes behind a region is walked once -/
theorem GoH.regionK {P : Program} {r : Option Nat} {f : FuncId} {R : Value → World → Prop} {w0 : World} {S : List Nat} {Y : List (Nat × Obj)} {n : Nat} {k : List Item} {l : Fl} {h : Hl} {ops : Array Oper} {id : Nat} {dr : Bool} {α : Type} (restc : List Nat) (lf : α → Fl) (hf : α → Hl)
    (hK : ∀ a, GoH P r f R w0 S Y n (.inRegion ops restc :: k) (lf a) (hf a))
    (hg : (∀ a l h, SubF (lf a) l → (∀ w Y', St w0 S w h Y' → St w0 S w (hf a) Y') → GoH P r f R w0 S Y n (.inRegion ops restc :: k) l h) → GoH P r f R w0 S Y n (.code (.region id ops dr) :: k) l h) : GoH P r f R w0 S Y n (.code (.region id ops dr) :: k) l h :=
  hg (fun a _ _ hl hh => (hK a).sub' hl hh)
end Go.Proofs.Wit
namespace Go.Proofs.Wit
open Go Go.RowKit
section
variable {P : Program} {r : Option Nat} {f : FuncId} {R : Value → World → Prop} {w0 : World} {S : List Nat} {Y : List (Nat × Obj)} {n : Nat} {k : List Item} {l : Fl} {h : Hl} {ops : Array Oper}
theorem RdGo.sub {i m : Nat} {l' : Fl} (hg : RdGo P r f R w0 S Y n k ops i m l' h) (hl : SubF l' l) : RdGo P r f R w0 S Y n k ops i m l h := fun t hF => hg t (hF.sub hl)
/-- what comes behind an operation is walked once -/
theorem RdGo.cut {i m : Nat} (i' m' : Nat) (lf : Fl) (hg : RdGo P r f R w0 S Y n k ops i' m' lf h → RdGo P r f R w0 S Y n k ops i m l h) (hK : RdGo P r f R w0 S Y n k ops i' m' lf h) : RdGo P r f R w0 S Y n k ops i m l h := hg hK
theorem GoH.cut {rest : List Nat} (rest' : List Nat) (lf : Fl) (hg : GoH P r f R w0 S Y n (.inRegion ops rest' :: k) lf h → GoH P r f R w0 S Y n (.inRegion ops rest :: k) l h) (hK : GoH P r f R w0 S Y n (.inRegion ops rest' :: k) lf h) : GoH P r f R w0 S Y n (.inRegion ops rest :: k) l h := hg hK
theorem RdGo.callCP {i m d : Nat} {v : Value} {ty : TypeId} {pos : String} {aft : Array Edge} {g : Option (Nat × Bool)} {az : Array Operand} {ts : Array TypeId} {cal : Operand} {gf : FuncId} {fs cs vs : List Value} (ho : ops[i]? = some ⟨some d, .call ⟨.value cal, az, ts⟩, ty, pos, aft, g⟩) (hw : wantL ops l g = true)
    (hc : opd l cal = some (.func (.func gf) fs.toArray cs.toArray)) (hx : opds l az.toList = some vs) (hd : Nat.blt d n = true) (hcf : ∀ args w, (callFunc gf args).run P w = .ok (.enter gf args) w)
    (hcall : ∀ w Y', St w0 S w h Y' → Cn P gf (fs ++ vs ++ cs) w (fun u _ => u = v)) (hg : RdGo P r f R w0 S Y n k ops (i + 1) m ((d, v) :: l) h) : RdGo P r f R w0 S Y n k ops i (m + 1) l h := by
  intro t hF
  refine ⟨d, v, ⟨_, ho, rfl, by simpa [Nat.blt_eq] using hd, rfl, .inl ⟨want_of hF hw, fun w Ds Y' hS => .inr ⟨gf, (fs ++ vs ++ cs).toArray, ?_, hcall w Y' hS⟩⟩⟩, ?_⟩
  · have e1 := resolve_run (P := P) (ty := ty) (ts := ts) (Ds := Ds) (w := w) hF hc hx
    simp only [execOp, Sem.run_bind, e1, Result.andThen_ok, invoke, hcf]
    simp
  · have := hg _ (hF.put v hd)
    rw [show i + (m + 1) = i + 1 + m from by omega]; exact this
end
theorem Ex.cells {w w' : World} (_e : Ex [] w w') {b : Nat} {cs : Array Value} {t : TypeId} {fr : Nat × Nat} (_h : w.heap[b]? = some (.cells cs t fr)) (hk : w'.heap[b]? = some (.cells cs t fr)) : ∀ q v, cs.toList[q]? = some v → w'.cell? ((⟨b, 0, none⟩ : Addr).add q) = some v := fun q v hv => by
  rw [addr_off, Nat.zero_add, cell_of_row w' b q cs t fr hk]; simpa using hv
end Go.Proofs.Wit
