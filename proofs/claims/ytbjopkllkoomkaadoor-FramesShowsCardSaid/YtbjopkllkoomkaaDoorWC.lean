/- Laws of a calculus of walks, proved for any program: no condition beyond those that each theorem states. -/
import Derived.Test.YtbjopkllkoomkaaDoorWB
import Derived.ChangeSame
import Derived.ChangeVars
import Derived.JoinedOf
import Derived.RowKit
import Derived.ProofKit
import Derived.OpenShut
import Derived.LaidMore
import Derived.Lay
import Derived.Carry
import Derived.SevenTiedAt
import Derived.Stop.Joined
import Derived.Deep.Matrix
import Derived.Lib.SmallJoins
namespace Go.Proofs.Wit
open Go Go.RowKit Go.ChangeShapes Go.WideShapes Go.ChangeAt
/-! from a law's contract to its row -/
section
variable {H : Type} {enc : TypeId × Value → H} {P : Program}
/-- what was read stays -/
theorem trodAll_stays (hl : laidOutB P = true) {W W' : World} (hb : Below W.heap.size W W') : ∀ {ts : List TypeId} {vs : List Value} {ds : List (DataW H)} {ps : List MemPlace}, ts.all (fun t => P.readableRec t && decide (t < P.types.size)) = true →
    DataW.TrodAll enc P W 0 (fun _ => true) true ts vs ds ps → (∀ x ∈ ps, x.block < W.heap.size) → DataW.TrodAll enc P W' 0 (fun b => decide (b < W.heap.size)) true ts vs ds ps
  | [], _, _, _, _, h, _ => by
    obtain ⟨rfl, rfl, rfl⟩ := trodAll_nil h
    exact rfl
  | t :: ts, _, _, _, hr, h, hlt => by
    obtain ⟨v, vs1, d, ds1, a, b, rfl, rfl, rfl, h1, h2⟩ := trodAll_cons h
    rw [List.all_cons, Bool.and_eq_true, Bool.and_eq_true, decide_eq_true_eq] at hr
    exact trodAll_cons_mk (Below.trod hl hr.1.1 hr.1.2 h1 hb (fun x hx => hlt x (by simp [hx]))) (trodAll_stays hl hb hr.2 h2 (fun x hx => hlt x (by simp [hx])))
theorem wf_u64 {n : Int} (h : (Lit.int .u64 n).wf = true) : (Value.int .u64 n) = U (BitVec.ofInt 64 n) := by
  have := bounds_u64 h
  unfold U
  congr 1
  rw [BitVec.toNat_ofInt]
  omega
theorem adr_add (a : Addr) (i : Nat) (h : a.spot = none) : a.add i = adr (some a) i := by
  obtain ⟨b, o, s⟩ := a
  simp only at h; subst h
  unfold Addr.add adr; split
  · rename_i h0; rw [h0]; rfl
  · rfl
/-- an argument of type []uint64 -/
theorem open_words {W : World} {t e : TypeId} (ht : P.underlying t = some (.slice e)) (he : P.underlying e = some (.int .u64)) (hc : P.cellsOf e = 1) {v : Value} {d : DataW H} {ps : List MemPlace}
    (h : DataW.Trod enc P W 0 (fun _ => true) true t v d ps) (hlt : ∀ x ∈ ps, x.block < W.heap.size) {r : Reach} {b0 : Nat} (hok : Value.okWide P W r b0 t v) :
    ∃ (a : Option Addr) (xs : List W64) (cap : Nat), v = .slice a xs.length cap ∧ SlU W a xs ∧ xs.length ≤ maxLen ∧ xs.length ≤ cap := by
  obtain ⟨fuel, hf⟩ := h
  have hcv : ∀ a n c, v.cells.toList = [Value.slice a n c] → v = .slice a n c := by
    intro a n c e1
    obtain ⟨a', n', c', rfl⟩ := okWide_slice ht hok
    simpa [Value.cells] using e1
  rcases open_ints ht he hc hf with ⟨hcs, hx⟩ | ⟨a, len, cap, zs, hcs, hb, hlc, hcm, hzl, hx, hcell, hw⟩
  · exact ⟨none, [], 0, hcv _ _ _ hcs, .nil _ _, Nat.zero_le _, Nat.le_refl _⟩
  · rw [if_pos rfl] at hzl
    have hxl : ((zs.take len).map (BitVec.ofInt 64)).length = len := by simp; omega
    refine ⟨some a, (zs.take len).map (BitVec.ofInt 64), cap, by rw [hxl]; exact hcv _ _ _ hcs, ⟨fun h0 => ?_, fun i hi => ?_⟩, by rw [hxl]; omega, by rw [hxl]; exact hlc⟩
    · have h0' : 0 < zs.length := by simp at h0; omega
      have hsp : a.spot = none := by
        have := hcell 0 h0'
        unfold World.cell? at this
        split at this
        · split at this
          · cases this
          · rename_i hs
            have e0 : a.add 0 = a := by unfold Addr.add; simp
            rw [e0] at hs
            simpa using hs
        · cases this
      obtain ⟨b, o, s⟩ := a
      simp only at hsp; subst hsp
      refine ⟨b, o, rfl, ?_⟩
      obtain ⟨rfl, rfl⟩ := Prod.mk.inj hx
      have := hlt (.cell b o) (by
        rw [show zs.length = (zs.length - 1) + 1 from by omega]
        simp [MemPlace.row, List.range_succ_eq_map])
      exact this
    · have hil : i < zs.length := by simp at hi; omega
      have hsp : a.spot = none := by
        have := hcell 0 (by omega)
        unfold World.cell? at this
        split at this
        · split at this
          · cases this
          · rename_i hs
            have e0 : a.add 0 = a := by unfold Addr.add; simp
            rw [e0] at hs
            simpa using hs
        · cases this
      rw [← adr_add a i hsp, hcell i hil]
      have hi2 : i < len := by simp at hi; omega
      rw [wf_u64 (hw _ (by rw [List.getD_eq_getElem?_getD, List.getElem?_eq_getElem hil]; exact List.getElem_mem hil))]
      simp [List.getD_eq_getElem?_getD, hi2, hil]
end
end Go.Proofs.Wit
namespace Go.Proofs.Wit
open Go Go.RowKit
/-! models and logics, plainly -/
def outB (n : Nat) (l : List W64) : Bool := l.any (fun s => s &&& ~~~ allW n != 0#64)
def checkM (n : Int) (val : List W64) (rel : List (List W64)) : Int :=
  if n < 1 ∨ 64 < n then 2 else if 4 < rel.length ∨ 8 < val.length then 8 else if rel.any (fun r => (r.length : Int) != n) then 3 else if outB n.toNat val || rel.any (outB n.toNat) then 2 else 0
theorem outB_false {n : Nat} {l : List W64} : outB n l = false ↔ ∀ s ∈ l, s &&& ~~~ allW n = 0#64 := by
  simp [outB]
/-- a model that Check lets pass -/
structure ValM (n : Int) (val : List W64) (rel : List (List W64)) : Prop where
  n1 : 1 ≤ n
  n64 : n ≤ 64
  agents : rel.length ≤ 4
  facts : val.length ≤ 8
  len : ∀ r ∈ rel, (r.length : Int) = n
  rels : ∀ r ∈ rel, Val r
  out : outB n.toNat val = false
theorem checkM_zero {n : Int} {val : List W64} {rel : List (List W64)} : checkM n val rel = 0 ↔ ValM n val rel := by
  unfold checkM
  constructor
  · intro h
    split at h
    · cases h
    split at h
    · cases h
    split at h
    · cases h
    split at h
    · cases h
    rename_i h1 h2 h3 h4
    simp only [Bool.not_eq_true, List.any_eq_false, bne_iff_ne, ne_eq, Decidable.not_not, Bool.or_eq_false_iff] at h3 h4
    have hlen : ∀ r ∈ rel, (r.length : Int) = n := fun r hr => h3 r hr
    refine ⟨by omega, by omega, by omega, by omega, hlen, fun r hr => ?_, h4.1⟩
    have e := hlen r hr
    have h5 := h4.2 r hr
    have h5 : outB n.toNat r = false := by simpa using h5
    rw [outB_false] at h5
    refine ⟨by omega, fun u v hv => ?_⟩
    have hd := hv.dom
    have h6 := andNot_zero.1 (h5 (r.getD u 0#64) (by simp [List.getD_eq_getElem?_getD, hd])) v hv
    rw [allW_bit (by omega) (bit_lt h6)] at h6
    have := of_decide_eq_true h6
    omega
  · intro h
    rw [if_neg (by have := h.n1; have := h.n64; omega), if_neg (by have := h.agents; have := h.facts; omega), if_neg ?_, if_neg ?_]
    · rw [Bool.or_eq_true, not_or]
      refine ⟨by rw [h.out]; simp, ?_⟩
      rw [Bool.not_eq_true, List.any_eq_false]
      intro r hr
      rw [Bool.not_eq_true, outB_false]
      intro s hs
      obtain ⟨i, hi, rfl⟩ := List.mem_iff_getElem.1 hs
      have e := h.len r hr
      have hv := h.rels r hr
      refine andNot_zero.2 (fun j hj => ?_)
      have h1 : Rl r i j := by unfold Rl; simpa [List.getD_eq_getElem?_getD, hi] using hj
      rw [allW_bit (by have := h.n64; omega) (bit_lt hj)]
      have := hv.lt _ _ h1
      exact decide_eq_true (by omega)
    · rw [Bool.not_eq_true, List.any_eq_false]
      intro r hr
      have := h.len r hr
      simpa using this
/-- the properties of a logic -/
def propsL (l : Int) : List Int := if l = 1 then [1] else if l = 2 then [2] else if l = 3 then [4] else if l = 4 then [2, 4] else if l = 5 then [1, 4, 5] else if l = 6 then [2, 4, 5] else []
def propsE (l : Int) : Int := if 0 ≤ l ∧ l ≤ 6 then 0 else 1
theorem propsL_len (l : Int) : (propsL l).length ≤ 3 := by
  unfold propsL
  repeat' split
  all_goals simp
end Go.Proofs.Wit
namespace Go.Proofs.Wit
open Go Go.RowKit
noncomputable def hasL (r : List W64) (l : Int) : Bool := (propsE l == 0) && (checkR r.length r == 0) && (propsL l).all (hasB r)
noncomputable def inM (n : Int) (val : List W64) (rel : List (List W64)) (l : Int) : Bool := (propsE l == 0) && (checkM n val rel == 0) && rel.all (fun r => hasL r l)
def errE (n : Int) (val : List W64) (rel : List (List W64)) (l : Int) : Int := if checkM n val rel ≠ 0 then checkM n val rel else propsE l
def errP (n : Int) (val : List W64) (rel : List (List W64)) (l : Int) : List Int := if checkM n val rel ≠ 0 then [] else propsL l
def sameM (n n' : Int) (val val' : List W64) (rel rel' : List (List W64)) : Bool := (n == n') && (val == val') && (rel == rel')
theorem all_of_any {α : Type} {xs : List α} {p : α → Bool} : (!xs.any (fun x => !p x)) = xs.all p := by rw [List.not_any_eq_all_not]; simp
theorem rows_ext {xs ys : List Row} (hl : xs.length = ys.length) (h : ∀ (i : Nat) (x y : Row), xs[i]? = some x → ys[i]? = some y → x.xs = y.xs) : (xs.map Row.xs == ys.map Row.xs) = true := by
  rw [beq_iff_eq]
  apply List.ext_getElem (by simpa using hl)
  intro i h1 h2
  simp only [List.length_map] at h1 h2
  simpa using h i xs[i] ys[i] (List.getElem?_eq_getElem h1) (List.getElem?_eq_getElem h2)
end Go.Proofs.Wit
namespace Go.Proofs.Wit
open Go Go.RowKit
/-- what closing gives before the dead ends are looped -/
def closP (ps : List Int) (l : List W64) : Prop := (2 ∈ ps → reflR l) ∧ (4 ∈ ps → tranR l) ∧ (5 ∈ ps → euclR l)
def propC (p : Int) (l : List W64) : Prop := (p = 2 → reflR l) ∧ (p = 4 → tranR l) ∧ (p = 5 → euclR l)
theorem propC2 {l : List W64} (h : reflR l) : propC 2 l := ⟨fun _ => h, fun e => absurd e (by decide), fun e => absurd e (by decide)⟩
theorem propC4 {l : List W64} (h : tranR l) : propC 4 l := ⟨fun e => absurd e (by decide), fun _ => h, fun e => absurd e (by decide)⟩
theorem propC5 {l : List W64} (h : euclR l) : propC 5 l := ⟨fun e => absurd e (by decide), fun e => absurd e (by decide), fun _ => h⟩
theorem propCx {p : Int} {l : List W64} (h2 : p ≠ 2) (h4 : p ≠ 4) (h5 : p ≠ 5) : propC p l := ⟨fun e => absurd e h2, fun e => absurd e h4, fun e => absurd e h5⟩
theorem closP_iff {ps : List Int} {l : List W64} : closP ps l ↔ ∀ p ∈ ps, propC p l := by
  constructor
  · rintro ⟨h1, h2, h3⟩ p hp
    exact ⟨fun e => h1 (e ▸ hp), fun e => h2 (e ▸ hp), fun e => h3 (e ▸ hp)⟩
  · intro h
    exact ⟨fun x => (h 2 x).1 rfl, fun x => (h 4 x).2.1 rfl, fun x => (h 5 x).2.2 rfl⟩
def serS (ps : List Int) (w : Nat) (l : List W64) : List W64 := if 1 ∈ ps ∧ l.getD w 0#64 = 0#64 then l.set w (1#64 <<< w) else l
def serU (ps : List Int) (l : List W64) : List W64 := upTo (serS ps) l l.length
theorem serS_length {ps : List Int} {w : Nat} {l : List W64} : (serS ps w l).length = l.length := by unfold serS; split <;> simp
theorem upSer_length {ps : List Int} {l : List W64} : ∀ n, (upTo (serS ps) l n).length = l.length
  | 0 => rfl
  | n + 1 => by rw [upTo, serS_length, upSer_length n]
theorem serU_length {ps : List Int} {l : List W64} : (serU ps l).length = l.length := upSer_length _
theorem upSer_get {ps : List Int} {l : List W64} : ∀ n w, n ≤ l.length → (upTo (serS ps) l n).getD w 0#64 = if w < n ∧ 1 ∈ ps ∧ l.getD w 0#64 = 0#64 then 1#64 <<< w else l.getD w 0#64
  | 0, w, _ => by rw [upTo, if_neg (by omega)]
  | n + 1, w, hn => by
    have ih := fun w => upSer_get (ps := ps) (l := l) n w (by omega)
    rw [upTo, serS, ih n, if_neg (show ¬ (n < n ∧ 1 ∈ ps ∧ l.getD n 0#64 = 0#64) from fun h => by omega)]
    by_cases h : 1 ∈ ps ∧ l.getD n 0#64 = 0#64
    · rw [if_pos h]
      by_cases e : w = n
      · subst e
        rw [if_pos ⟨by omega, h⟩]
        simp [List.getD_eq_getElem?_getD, upSer_length, show w < l.length by omega]
      · have : ((upTo (serS ps) l n).set n (1#64 <<< n)).getD w 0#64 = (upTo (serS ps) l n).getD w 0#64 := by simp [List.getD_eq_getElem?_getD, Ne.symm e]
        rw [this, ih w]
        by_cases h2 : w < n ∧ 1 ∈ ps ∧ l.getD w 0#64 = 0#64
        · rw [if_pos h2, if_pos ⟨by omega, h2.2⟩]
        · rw [if_neg h2, if_neg (fun h3 => h2 ⟨by omega, h3.2⟩)]
    · rw [if_neg h, ih w]
      by_cases h2 : w < n ∧ 1 ∈ ps ∧ l.getD w 0#64 = 0#64
      · rw [if_pos h2, if_pos ⟨by omega, h2.2⟩]
      · rw [if_neg h2, if_neg (fun h3 => by
          by_cases e : w = n
          · subst e; exact h h3.2
          · exact h2 ⟨by omega, h3.2⟩)]
theorem serU_get {ps : List Int} {l : List W64} {w : Nat} (hw : w < l.length) : (serU ps l).getD w 0#64 = if 1 ∈ ps ∧ l.getD w 0#64 = 0#64 then 1#64 <<< w else l.getD w 0#64 := by
  rw [serU, upSer_get _ _ (Nat.le_refl _)]
  by_cases h : 1 ∈ ps ∧ l.getD w 0#64 = 0#64
  · rw [if_pos h, if_pos ⟨hw, h⟩]
  · rw [if_neg h, if_neg (fun x => h x.2)]
theorem serU_bit {ps : List Int} {l : List W64} (hl : l.length ≤ 64) {w v : Nat} : Rl (serU ps l) w v ↔ Rl l w v ∨ (1 ∈ ps ∧ w < l.length ∧ v = w ∧ l.getD w 0#64 = 0#64) := by
  constructor
  · intro h
    have hd := h.dom
    rw [serU_length] at hd
    rw [Rl.toBit, serU_get hd] at h
    split at h
    · rename_i h1
      rw [shift_one_bit (by omega)] at h
      exact .inr ⟨h1.1, hd, h, h1.2⟩
    · exact .inl h
  · intro h
    rcases h with h | ⟨h1, hd, rfl, h2⟩
    · have hd := h.dom
      rw [Rl.toBit, serU_get hd]
      split
      · rename_i h1
        rw [Rl.toBit, h1.2] at h; simp at h
      · exact h
    · rw [Rl.toBit, serU_get hd, if_pos ⟨h1, h2⟩, shift_one_bit (by omega)]
theorem serU_val {ps : List Int} {l : List W64} (hv : Val l) : Val (serU ps l) := ⟨by rw [serU_length]; exact hv.len, fun u v h => by
  rw [serU_length]
  rcases (serU_bit hv.len).1 h with h | ⟨_, h1, rfl, _⟩
  · exact hv.lt u v h
  · exact h1⟩
theorem serU_le {ps : List Int} {l : List W64} (hv : Val l) : Le l (serU ps l) := ⟨serU_length.symm, fun _ _ h => (serU_bit hv.len).2 (.inl h)⟩
end Go.Proofs.Wit
namespace Go.Proofs.Wit
open Go Go.RowKit
/-- what Close gives -/
def ClosedM (n : Int) (val : List W64) (rel : List (List W64)) (l : Int) (n' : Int) (val' : List W64) (rel' : List (List W64)) : Prop :=
  if errE n val rel l ≠ 0 then n' = 0 ∧ val' = [] ∧ rel' = [] else n' = n ∧ val' = val ∧ rel'.length = rel.length ∧ ∀ (i : Nat) (r : List W64), rel[i]? = some r → ∃ c, Least (closP (propsL l)) r c ∧ rel'[i]? = some (serU (propsL l) c)
theorem errE_zero {n : Int} {val : List W64} {rel : List (List W64)} {l : Int} (h : errE n val rel l = 0) : ValM n val rel ∧ propsE l = 0 ∧ errP n val rel l = propsL l := by
  unfold errE at h
  split at h
  · rename_i h1; exact absurd h h1
  · rename_i h1
    exact ⟨checkM_zero.1 (by simpa using h1), h, by rw [errP, if_neg h1]⟩
end Go.Proofs.Wit
namespace Go.Proofs.Wit
open Go Go.RowKit
/-! witnesses against a property, plainly -/
def firstTo {α : Type} (f : Nat → Option α) : Nat → Option α
  | 0 => none
  | k + 1 => match firstTo f k with
    | some x => some x
    | none => f k
theorem firstTo_step {α : Type} {f : Nat → Option α} {k : Nat} (h : firstTo f k = none) (h2 : f k = none) : firstTo f (k + 1) = none := by rw [firstTo, h]; exact h2
theorem firstTo_hit {α : Type} {f : Nat → Option α} {k : Nat} {x : α} (h : firstTo f k = none) (h2 : f k = some x) : ∀ n, k < n → firstTo f n = some x
  | n + 1, hn => by
    rcases Nat.lt_succ_iff_lt_or_eq.1 hn with h3 | rfl
    · rw [firstTo, firstTo_hit h h2 n h3]
    · rw [firstTo, h]; exact h2
theorem firstTo_none {α : Type} {f : Nat → Option α} : ∀ {n : Nat}, firstTo f n = none ↔ ∀ k, k < n → f k = none
  | 0 => by simp [firstTo]
  | n + 1 => by
    constructor
    · intro h
      cases hn : firstTo f n with
      | some x => rw [firstTo, hn] at h; cases h
      | none =>
        rw [firstTo, hn] at h
        intro k hk
        rcases Nat.lt_succ_iff_lt_or_eq.1 hk with h3 | rfl
        · exact firstTo_none.1 hn k h3
        · exact h
    · intro h
      rw [firstTo, firstTo_none.2 (fun k hk => h k (by omega))]
      exact h n (by omega)
theorem firstTo_some {α : Type} {f : Nat → Option α} {x : α} : ∀ {n : Nat}, firstTo f n = some x → ∃ k, k < n ∧ f k = some x ∧ ∀ j, j < k → f j = none
  | n + 1, h => by
    cases hn : firstTo f n with
    | some y =>
      rw [firstTo, hn] at h
      simp only [Option.some.injEq] at h; subst h
      obtain ⟨k, h1, h2⟩ := firstTo_some hn
      exact ⟨k, by omega, h2⟩
    | none =>
      rw [firstTo, hn] at h
      exact ⟨n, by omega, h, firstTo_none.1 hn⟩
def bitR (r : List W64) (a b : Nat) : Bool := (r.getD a 0#64).getLsbD b
theorem shr_bit {x : W64} {i : Nat} : ((x >>> i &&& 1#64) == 1#64) = x.getLsbD i := by
  have h : (x >>> i &&& 1#64) = if x.getLsbD i = true then 1#64 else 0#64 := by
    refine eq_of_bits (fun j hj => ?_)
    rw [BitVec.getLsbD_and, BitVec.getLsbD_ushiftRight]
    cases j with
    | zero => rw [Nat.add_zero]; cases hb : x.getLsbD i <;> simp
    | succ j => cases hb : x.getLsbD i <;> simp
  rw [h]
  cases x.getLsbD i <;> rfl
def showsB (p : Int) (r : List W64) (w u v : Nat) : Bool :=
  if p = 1 then r.getD w 0#64 == 0#64 else if p = 2 then !bitR r w w else if p = 3 then bitR r w u && !bitR r u w else if p = 4 then bitR r w u && bitR r u v && !bitR r w v
  else if p = 5 then bitR r w u && bitR r w v && !bitR r u v else false
def cnt (p : Int) : Nat := if p = 1 ∨ p = 2 then 1 else if p = 3 then 2 else if p = 4 ∨ p = 5 then 3 else 0
def witV (p : Int) (r : List W64) (w u v : Nat) : Option (Nat × Nat × Nat) := if showsB p r w u v = true then some (w, u, v) else none
def witU (p : Int) (r : List W64) (w u : Nat) : Option (Nat × Nat × Nat) := firstTo (witV p r w u) (if cnt p < 3 then 1 else r.length)
def witW (p : Int) (r : List W64) (w : Nat) : Option (Nat × Nat × Nat) := firstTo (witU p r w) (if cnt p < 2 then 1 else r.length)
def witO (r : List W64) (p : Int) : Option (Nat × Nat × Nat) := if cnt p = 0 then none else firstTo (witW p r) r.length
def witL (r : List W64) (p : Int) : List Int := match witO r p with
  | none => []
  | some (w, u, v) => [(w : Int), u, v].take (cnt p)
theorem cnt_pos {p : Int} : cnt p ≠ 0 ↔ 1 ≤ p ∧ p ≤ 5 := by
  unfold cnt
  constructor
  · intro h
    split at h
    · omega
    split at h
    · omega
    split at h
    · omega
    · omega
  · intro h
    split
    · simp
    split
    · simp
    split
    · simp
    · omega
theorem cnt_le (p : Int) : cnt p ≤ 3 := by
  unfold cnt
  repeat' split
  all_goals simp
/-! slices of structs -/
theorem flat_get {α : Type} {enc : α → List Value} {sz : Nat} (hsz : ∀ x, (enc x).length = sz) : ∀ {xs : List α} {j i : Nat} (hj : j < xs.length), i < sz → (xs.flatMap enc)[j * sz + i]? = (enc xs[j])[i]?
  | [], j, i, hj, _ => by simp at hj
  | x :: xs, 0, i, _, hi => by
    rw [List.flatMap_cons, Nat.zero_mul, Nat.zero_add, List.getElem?_append_left (by rw [hsz]; exact hi)]; rfl
  | x :: xs, j + 1, i, hj, hi => by
    rw [List.flatMap_cons, List.getElem?_append_right (by rw [hsz, Nat.add_mul]; omega), hsz]
    rw [show (j + 1) * sz + i - sz = j * sz + i from by rw [Nat.add_mul]; omega]
    exact flat_get hsz (by simpa using hj) hi
theorem flat_len {α : Type} {enc : α → List Value} {sz : Nat} (hsz : ∀ x, (enc x).length = sz) : ∀ {xs : List α}, (xs.flatMap enc).length = xs.length * sz
  | [] => by simp
  | x :: xs => by rw [List.flatMap_cons, List.length_append, hsz, flat_len hsz, List.length_cons, Nat.add_mul]; omega
section
variable {P : Program} {r : Option Nat} {f : FuncId} {R : Value → World → Prop} {w0 : World} {S : List Nat} {Y : List (Nat × Obj)} {n : Nat} {k : List Item} {l : Fl} {h : Hl}
variable {ops : Array Oper} {i d : Nat} {rest : List Nat} {ty : TypeId} {pos : String} {aft : Array Edge} {g : Option (Nat × Bool)}
/-- the address of an element of many cells of a slice that is read -/
theorem Vop.idxN {t e : TypeId} {x y : Operand} {a : Option Addr} {m cap sz : Nat} {kd : IntKind} {j : Int} {xs : List Value} (ho : ops[i]? = some ⟨some d, .indexAddr t x y, ty, pos, aft, g⟩) (hw : wantL ops l g = true)
    (hx : opd l x = some (.slice a m cap)) (hy : opd l y = some (.int kd j)) (hd : Nat.blt d n = true) (hu : P.underlying t = some (.slice e)) (he : ∀ w, (sizeOf e).run P w = .ok sz w)
    (hs : ∃ w, Sl w a xs) (hm : xs.length = m * sz) (hsz : 0 < sz) (j' : Nat) (hj : j = j' ∧ j' < m) : Vop P w0 S n h ops i l d (.pointer (some (adr a (j' * sz)))) := by
  obtain ⟨w1, hs⟩ := hs
  obtain ⟨rfl, hj⟩ := hj
  have h0 : 0 < xs.length := by rw [hm]; exact Nat.mul_pos (by omega) hsz
  obtain ⟨b, o, rfl, _⟩ := hs.isSome h0
  exact .of ho hw rfl rfl hd (fun t' w Ds _ hF hS => ⟨.value (.pointer (some ⟨b, o + j' * sz, none⟩)), by
    simp only [execOp, hF.opd hx, hF.opd hy, Sem.run_bind, idxS_run hu he b o m cap kd j' hj w]; rfl, rfl⟩)
theorem Sl.many {α : Type} {enc : α → List Value} {sz : Nat} {w : World} {a : Option Addr} {xs : List α} (hs : Sl w a (xs.flatMap enc)) (hsz : ∀ x, (enc x).length = sz) {j : Nat} (hj : j < xs.length) : ∀ q v, (enc xs[j])[q]? = some v → w.cell? ((adr a (j * sz)).add q) = some v := by
  intro q v hv
  have hq : q < sz := by have := (List.getElem?_eq_some_iff.1 hv).1; rwa [hsz] at this
  have h1 := flat_get hsz hj hq
  rw [hv] at h1
  obtain ⟨h2, h3⟩ := List.getElem?_eq_some_iff.1 h1
  rw [adr_adr, hs.cell _ h2, List.getD_eq_getElem?_getD, h1]; rfl
theorem Sl.fld {α : Type} {enc : α → List Value} {sz : Nat} {w : World} {a : Option Addr} {xs : List α} (hs : Sl w a (xs.flatMap enc)) (hsz : ∀ x, (enc x).length = sz) {j : Nat} (hj : j < xs.length) {q : Nat} {v : Value} (hv : (enc xs[j])[q]? = some v) : w.cell? (adr a (j * sz + q)) = some v := by
  have := Sl.many hs hsz hj q v hv
  rwa [adr_adr] at this
/-- the address of a field of an element -/
theorem Vop.fldA {s : TypeId} {x : Operand} {a : Option Addr} {o q : Nat} {fs : Array Field} {fd : Field} {sz : Nat} (ho : ops[i]? = some ⟨some d, .fieldAddr s x q, ty, pos, aft, g⟩) (hw : wantL ops l g = true)
    (hx : opd l x = some (.pointer (some (adr a o)))) (hd : Nat.blt d n = true) (hu : P.underlying s = some (.struct fs)) (hq : fs[q]? = some fd) (he : ∀ w, (sizeOf fd.type).run P w = .ok (sz + 1) w) (o' : Nat) (hO : o + fd.offset = o') :
    Vop P w0 S n h ops i l d (.pointer (some (adr a o'))) := by
  subst hO
  exact .of ho hw rfl rfl hd (fun t w Ds _ hF hS => ⟨.value (.pointer (some (adr a (o + fd.offset)))), by
    simp only [execOp, hF.opd hx, Instr.fieldAt, Sem.run_bind, run_underlying hu, Result.andThen_ok, hq, Instr.sureAddr, Sem.run_pure, fieldPlace, he]
    rw [if_neg (by omega)]
    simp [adr_adr], rfl⟩)
end
end Go.Proofs.Wit
namespace Go.Proofs.Wit
open Go Go.RowKit
theorem witO_some {r : List W64} {p : Int} {x u v : Nat} (h : witO r p = some (x, u, v)) : x < r.length ∧ u < r.length ∧ v < r.length ∧ showsB p r x u v = true ∧ cnt p ≠ 0 := by
  unfold witO at h
  split at h
  · cases h
  rename_i hc
  obtain ⟨k, h1, h2, _⟩ := firstTo_some h
  obtain ⟨k2, h3, h4, _⟩ := firstTo_some (show firstTo _ _ = some _ from h2)
  obtain ⟨k3, h5, h6, _⟩ := firstTo_some (show firstTo _ _ = some _ from h4)
  unfold witV at h6
  split at h6
  · rename_i hs
    simp only [Option.some.injEq, Prod.mk.injEq] at h6
    obtain ⟨rfl, rfl, rfl⟩ := h6
    refine ⟨h1, ?_, ?_, hs, hc⟩
    · split at h3 <;> omega
    · split at h5 <;> omega
  · cases h6
theorem witO_none {r : List W64} {p : Int} (h : witO r p = none) (hc : cnt p ≠ 0) : ∀ x u v, x < r.length → u < r.length → v < r.length → (cnt p < 2 → u = 0) → (cnt p < 3 → v = 0) → showsB p r x u v = false := by
  intro x u v hx hu hv h2 h3
  rw [witO, if_neg hc, firstTo_none] at h
  have h4 := h x hx
  rw [witW, firstTo_none] at h4
  have h5 := h4 u (by split; · rw [h2 (by assumption)]; exact Nat.one_pos
                      · exact hu)
  rw [witU, firstTo_none] at h5
  have h6 := h5 v (by split; · rw [h3 (by assumption)]; exact Nat.one_pos
                      · exact hv)
  unfold witV at h6
  split at h6
  · cases h6
  · rename_i h7; simpa using h7
theorem witL_nil {r : List W64} {p : Int} : witL r p = [] ↔ witO r p = none := by
  unfold witL
  cases h : witO r p with
  | none => simp
  | some y =>
    obtain ⟨x, u, v⟩ := y
    have := (witO_some h).2.2.2.2
    constructor
    · intro e
      have := congrArg List.length e
      simp at this
      omega
    · intro e; cases e
theorem witL_0 {r : List W64} {p : Int} {x u v : Nat} (h : witO r p = some (x, u, v)) : (witL r p).getD 0 0 = (x : Int) := by
  have hc := (witO_some h).2.2.2.2
  rw [witL, h]
  obtain ⟨c, hc⟩ : ∃ c, cnt p = c + 1 := ⟨cnt p - 1, by omega⟩
  rw [hc]; rfl
theorem witL_2 {r : List W64} {p : Int} {x u v : Nat} (h : witO r p = some (x, u, v)) (h3 : cnt p = 3) : (witL r p).getD 2 0 = (v : Int) := by
  rw [witL, h, h3]; rfl
theorem witL_len {r : List W64} {p : Int} {x u v : Nat} (h : witO r p = some (x, u, v)) : (witL r p).length = cnt p := by
  rw [witL, h]; have := cnt_le p; simp; omega
/-- what Counter gives -/
def counterR (r : List W64) (p : Int) : Int × W64 × Int :=
  if checkR r.length r ≠ 0 then (0, 0#64, checkR r.length r) else if p < 1 ∨ 5 < p then (0, 0#64, 1) else match witO r p with
    | none => (0, 0#64, 6)
    | some (x, _, v) => if p = 1 then (x, 0#64, 0) else if p = 3 then (x, 1#64 <<< x, 0) else if p = 5 then (x, 1#64 <<< v, 0) else (x, r.getD x 0#64, 0)
/-- a defect: agent, property, where its worlds lie, and these -/
structure DV where
  agent : Int
  prop : Int
  a : Option Addr
  cap : Nat
  ws : List Int
def DV.cells (d : DV) : List Value := [.int .i64 d.agent, .int .i64 d.prop, .slice d.a d.ws.length d.cap]
def DV.plain (d : DV) : Int × Int × List Int := (d.agent, d.prop, d.ws)
structure DV.At (d : DV) (w : World) : Prop where
  at_ : SlI w d.a d.ws
  len : d.ws.length ≤ maxLen
theorem DV.At.ex0 {w0 w : World} {d : DV} (h : d.At w0) (e : Ex [] w0 w) : d.At w := ⟨h.at_.ex0 e, h.len⟩
structure DefsAt (w : World) (a : Option Addr) (ds : List DV) : Prop where
  at_ : Sl w a (ds.flatMap DV.cells)
  len : ds.length ≤ maxLen
  each : ∀ d ∈ ds, d.At w
theorem DefsAt.ex0 {w0 w : World} {a : Option Addr} {ds : List DV} (h : DefsAt w0 a ds) (e : Ex [] w0 w) : DefsAt w a ds := ⟨h.at_.ex0 e, h.len, fun d hd => (h.each d hd).ex0 e⟩
def defA (_l : Int) (a : Nat) (r : List W64) (ps : List Int) : List (Int × Int × List Int) := ps.filterMap (fun p => if witL r p = [] then none else some ((a : Int), p, witL r p))
def defTo (l : Int) (rel : List (List W64)) : Nat → List (Int × Int × List Int)
  | 0 => []
  | a + 1 => defTo l rel a ++ defA l a (rel.getD a []) (propsL l)
def defL (l : Int) (rel : List (List W64)) : List (Int × Int × List Int) := defTo l rel rel.length
end Go.Proofs.Wit
namespace Go.Proofs.Wit
open Go Go.RowKit
/-- a list of defects that lies in the blocks of H -/
structure DefsIn (H : Hl) (a : Option Addr) (ds : List DV) : Prop where
  at_ : ds = [] ∨ ∃ b e sp, a = some ⟨b, 0, none⟩ ∧ (some b, Obj.cells (ds.flatMap DV.cells ++ sp).toArray e (0, 0)) ∈ H
  len : ds.length ≤ maxLen
  each : ∀ d ∈ ds, InS I64 H d.a d.ws ∧ d.ws.length ≤ maxLen
theorem DefsIn.mono {H H' : Hl} {a : Option Addr} {ds : List DV} (h : DefsIn H a ds) (hs : H ⊆ H') : DefsIn H' a ds :=
  ⟨h.at_.imp id (fun ⟨b, e, sp, h1, h2⟩ => ⟨b, e, sp, h1, hs h2⟩), h.len, fun d hd => ⟨(h.each d hd).1.mono hs, (h.each d hd).2⟩⟩
theorem DefsIn.at {a : Option Addr} {ds : List DV} {w0 w : World} {S : List Nat} {h : Hl} {Y : List (Nat × Obj)} (g : DefsIn h a ds) (s : St w0 S w h Y) : DefsAt w a ds := by
  refine ⟨?_, g.len, fun d hd => ⟨(g.each d hd).1.sl s, (g.each d hd).2⟩⟩
  rcases g.at_ with rfl | ⟨b, e, sp, rfl, hm⟩
  · exact Sl.nil _ _
  · exact Sl.blk (s.own _ hm b rfl).1
theorem defA_step {l : Int} {a : Nat} {r : List W64} {ps : List Int} {j : Nat} (hj : j < ps.length) : defA l a r (ps.take (j + 1)) = defA l a r (ps.take j) ++ (if witL r ps[j] = [] then [] else [((a : Int), ps[j], witL r ps[j])]) := by
  rw [defA, List.take_succ_eq_append_getElem hj, List.filterMap_append, defA]
  congr 1
  simp only [List.filterMap_cons, List.filterMap_nil]
  split
  · rename_i h; split at h
    · rename_i h2; rw [if_pos h2]
    · cases h
  · rename_i h; split at h
    · cases h
    · rename_i h2; cases h; rw [if_neg h2]
end Go.Proofs.Wit
namespace Go.Proofs.Wit
open Go Go.RowKit
/-! the examples of the chapter on frames -/
theorem Least.congr {F G : List W64 → Prop} {r c : List W64} (h : Least F r c) (e : ∀ l, F l ↔ G l) : Least G r c := ⟨h.val, h.le, (e c).1 h.has, fun c' h1 h2 h3 => h.least c' h1 h2 ((e c').2 h3)⟩
theorem least_by {F G : List W64 → Prop} {g : List W64 → List W64} (hg : GoodS g F) (e : ∀ l, F l ↔ G l) {r c d : List W64} (hr : Val r) (h1 : g r = d) (h2 : g d = d) (h : Least G r c) : c = d := by
  have hl := hg.least hr ((hg.fix (hg.val hr)).1 (by rw [h1, h2]))
  rw [h1] at hl
  exact h.uniq (hl.congr e)
theorem cl4 {c : List W64} (h : Least (closP (propsL 4)) r0 c) : serU (propsL 4) c = [7#64, 6#64, 4#64] := by
  rw [least_by (refl_good.comp tran_good) (fun l => by simp [closP, propsL]) r0_val (d := [7#64, 6#64, 4#64]) (by decide) (by decide) h]; decide
theorem cl6 {c : List W64} (h : Least (closP (propsL 6)) r0 c) : serU (propsL 6) c = [7#64, 7#64, 7#64] := by
  rw [least_by ((refl_good.comp tran_good).comp eucl_good) (fun l => by simp [closP, propsL, and_assoc]) r0_val (d := [7#64, 7#64, 7#64]) (by decide) (by decide) h]; decide
theorem cl1 {c : List W64} (h : Least (closP (propsL 1)) r0 c) : serU (propsL 1) c = [2#64, 4#64, 4#64] := by
  rw [least_by GoodS.id (fun l => by simp [closP, propsL]) r0_val (d := r0) rfl rfl h]; decide
theorem cl5 {c : List W64} (h : Least (closP (propsL 5)) r0 c) : serU (propsL 5) c = [6#64, 6#64, 6#64] := by
  rw [least_by (tran_good.comp eucl_good) (fun l => by simp [closP, propsL]) r0_val (d := [6#64, 6#64, 6#64]) (by decide) (by decide) h]; decide
theorem ctr2 : counterR r0 2 = (0, 2#64, 0) := by decide
theorem ctr4 : counterR r0 4 = (0, 2#64, 0) := by decide
theorem ctr5 : counterR r0 5 = (0, 2#64, 0) := by decide
theorem ctr1 : counterR r0 1 = (2, 0#64, 0) := by decide
theorem ctr3 : counterR r0 3 = (0, 1#64, 0) := by decide
theorem def5 : defL 5 [r0] = [(0, 1, [2]), (0, 4, [0, 1, 2]), (0, 5, [0, 1, 1])] := by decide
theorem err_r0 (l : Int) : errE 3 [] [r0] l = propsE l := by
  have : checkM 3 [] [r0] = 0 := by decide
  rw [errE, if_neg (by rw [this]; simp)]
end Go.Proofs.Wit
namespace Go.Proofs.Wit
open Go Go.RowKit
/-! the laws of chapter 15, plainly -/
theorem hasL_true {r : List W64} {l : Int} : hasL r l = true ↔ propsE l = 0 ∧ checkR r.length r = 0 ∧ ∀ p ∈ propsL l, PropR p r := by
  rw [hasL, Bool.and_eq_true, Bool.and_eq_true, beq_iff_eq, beq_iff_eq, List.all_eq_true]
  constructor
  · rintro ⟨⟨h1, h2⟩, h3⟩
    exact ⟨h1, h2, fun p hp => (hasB_true.1 (h3 p hp)).2⟩
  · rintro ⟨h1, h2, h3⟩
    exact ⟨⟨h1, h2⟩, fun p hp => hasB_true.2 ⟨h2, h3 p hp⟩⟩
theorem inM_true {n : Int} {val : List W64} {rel : List (List W64)} {l : Int} : inM n val rel l = true ↔ propsE l = 0 ∧ checkM n val rel = 0 ∧ ∀ r ∈ rel, hasL r l = true := by
  rw [inM, Bool.and_eq_true, Bool.and_eq_true, beq_iff_eq, beq_iff_eq, List.all_eq_true]; exact and_assoc
theorem refl_ser {r : List W64} (h : PropR 2 r) : PropR 1 r := by
  have h : reflR r := h
  show serR r
  intro hm
  obtain ⟨i, hi, e⟩ := List.mem_iff_getElem.1 hm
  have := h i hi
  rw [Rl.toBit, List.getD_eq_getElem?_getD, List.getElem?_eq_getElem hi, Option.getD_some, e] at this
  simp at this
theorem inM_imp {n : Int} {val : List W64} {rel : List (List W64)} {l l' : Int} (hE : propsE l' = 0) (h : ∀ r, (∀ p ∈ propsL l, PropR p r) → ∀ p ∈ propsL l', PropR p r) (hi : inM n val rel l = true) : inM n val rel l' = true := by
  obtain ⟨_, h2, h3⟩ := inM_true.1 hi
  exact inM_true.2 ⟨hE, h2, fun r hr => by
    obtain ⟨_, h4, h5⟩ := hasL_true.1 (h3 r hr)
    exact hasL_true.2 ⟨hE, h4, h r h5⟩⟩
section
variable {n : Int} {val : List W64} {rel : List (List W64)}
theorem in_0 : inM n val rel 0 = (checkM n val rel == 0) := by
  rw [Bool.eq_iff_iff, inM_true, beq_iff_eq]
  constructor
  · exact fun h => h.2.1
  · intro h
    have hV := checkM_zero.1 h
    exact ⟨rfl, h, fun r hr => hasL_true.2 ⟨rfl, check_zero.2 (hV.rels r hr), fun p hp => by cases hp⟩⟩
theorem in_64 (h : inM n val rel 6 = true) : inM n val rel 4 = true := inM_imp rfl (fun r h => by simp [propsL] at h ⊢; exact ⟨h.1, h.2.1⟩) h
theorem in_65 (h : inM n val rel 6 = true) : inM n val rel 5 = true := inM_imp rfl (fun r h => by simp [propsL] at h ⊢; exact ⟨refl_ser h.1, h.2⟩) h
theorem in_42 (h : inM n val rel 4 = true) : inM n val rel 2 = true := inM_imp rfl (fun r h => by simp [propsL] at h ⊢; exact h.1) h
theorem in_43 (h : inM n val rel 4 = true) : inM n val rel 3 = true := inM_imp rfl (fun r h => by simp [propsL] at h ⊢; exact h.2) h
theorem in_51 (h : inM n val rel 5 = true) : inM n val rel 1 = true := inM_imp rfl (fun r h => by simp [propsL] at h ⊢; exact h.1) h
theorem in_53 (h : inM n val rel 5 = true) : inM n val rel 3 = true := inM_imp rfl (fun r h => by simp [propsL] at h ⊢; exact h.2.1) h
theorem in_21 (h : inM n val rel 2 = true) : inM n val rel 1 = true := inM_imp rfl (fun r h => by simp [propsL] at h ⊢; exact refl_ser h) h
theorem in_10 (h : inM n val rel 1 = true) : inM n val rel 0 = true := inM_imp rfl (fun r h => by simp [propsL]) h
theorem in_256 (h2 : inM n val rel 2 = true) (h5 : inM n val rel 5 = true) : inM n val rel 6 = true := by
  obtain ⟨_, a, b⟩ := inM_true.1 h2
  obtain ⟨_, _, d⟩ := inM_true.1 h5
  exact inM_true.2 ⟨rfl, a, fun r hr => by
    obtain ⟨_, e1, e2⟩ := hasL_true.1 (b r hr)
    obtain ⟨_, _, e3⟩ := hasL_true.1 (d r hr)
    refine hasL_true.2 ⟨rfl, e1, ?_⟩
    simp [propsL] at e2 e3 ⊢
    exact ⟨e2, e3.2⟩⟩
end
end Go.Proofs.Wit
namespace Go.Proofs.Wit
open Go Go.RowKit Go.ChangeShapes Go.WideShapes Go.ChangeAt Go.Deep Go.Joins
/-! arguments of more kinds, opened -/
theorem cell_lt {w : World} {a : Addr} {v : Value} (h : w.cell? a = some v) : a.block < w.heap.size := by
  unfold World.cell? at h
  split at h
  · rename_i hb; exact (Array.getElem?_eq_some_iff.1 hb).1
  · cases h
theorem spot_of {w : World} {a : Addr} {v : Value} (h : w.cell? (a.add 0) = some v) : a.spot = none := by
  unfold World.cell? at h
  split at h
  · split at h
    · cases h
    · rename_i hs
      have e0 : a.add 0 = a := by unfold Addr.add; simp
      rw [e0] at hs
      simpa using hs
  · cases h
/-- a list whose cells are known, at an address -/
theorem sl_of {w : World} {a : Addr} {xs : List Value} (h : ∀ i, i < xs.length → w.cell? (a.add i) = some (xs.getD i undef)) : Sl w (some a) xs := by
  refine ⟨fun h0 => ?_, fun i hi => ?_⟩
  · have hs := spot_of (h 0 h0)
    have hb := cell_lt (h 0 h0)
    obtain ⟨b, o, s⟩ := a
    simp only at hs; subst hs
    refine ⟨b, o, rfl, ?_⟩
    rw [addr_off] at hb; exact hb
  · have hs := spot_of (h 0 (by omega))
    rw [← adr_add a i hs]; exact h i hi
section
variable {H : Type} {enc : TypeId × Value → H} {P : Program}
/-- []uint64 at whatever depth -/
theorem open_words' {W : World} {t e : TypeId} (ht : P.underlying t = some (.slice e)) (he : P.underlying e = some (.int .u64)) (hc : P.cellsOf e = 1) {v : Value} {n : Nat} {y : DataW H × List MemPlace}
    (h : DataW.trod enc P W 0 (fun _ => true) true n t [v] = some y) : ∃ (a : Option Addr) (xs : List W64) (cap : Nat), v = .slice a xs.length cap ∧ SlU W a xs ∧ xs.length ≤ maxLen ∧ xs.length ≤ cap := by
  rcases open_ints ht he hc h with ⟨hcs, _⟩ | ⟨a, len, cap, zs, hcs, hb, hlc, hcm, hzl, _, hcell, hw⟩
  · exact ⟨none, [], 0, by simpa using hcs, .nil _ _, Nat.zero_le _, Nat.le_refl _⟩
  · rw [if_pos rfl] at hzl
    have hxl : ((zs.take len).map (BitVec.ofInt 64)).length = len := by simp; omega
    refine ⟨some a, (zs.take len).map (BitVec.ofInt 64), cap, by rw [hxl]; simpa using hcs, sl_of (fun i hi => ?_), by rw [hxl]; omega, by rw [hxl]; exact hlc⟩
    have hi2 : i < len := by simp at hi; omega
    have hil : i < zs.length := by omega
    rw [hcell i hil, wf_u64 (hw _ (by rw [List.getD_eq_getElem?_getD, List.getElem?_eq_getElem hil]; exact List.getElem_mem hil))]
    simp [List.getD_eq_getElem?_getD, hi2, hil]
/-- [][]uint64 -/
theorem open_rows' {W : World} {t e q : TypeId} (ht : P.underlying t = some (.slice e)) (he : P.underlying e = some (.slice q)) (hq : P.underlying q = some (.int .u64)) (ce : P.cellsOf e = 1) (cq : P.cellsOf q = 1) {v : Value} {n : Nat} {y : DataW H × List MemPlace}
    (h : DataW.trod enc P W 0 (fun _ => true) true n t [v] = some y) : ∃ (a : Option Addr) (rows : List Row) (cap : Nat), v = .slice a rows.length cap ∧ SlR W a rows ∧ (∀ r ∈ rows, r.At W) ∧ rows.length ≤ maxLen ∧ rows.length ≤ cap := by
  rcases open_int_rows ht he hq ce cq h with ⟨hcs, _⟩ | ⟨a, len, cap, A, L, C, Z, hcs, hb, hlc, hcm, _, hx⟩
  · exact ⟨none, [], 0, by simpa using hcs, Sl.nil _ _, by simp, Nat.zero_le _, Nat.le_refl _⟩
  · have hrow : ∀ r, r < cap → ((((Z r).take (L r)).map (BitVec.ofInt 64)).length = L r) := fun r hr => by
      obtain ⟨_, h1, _, h3, _⟩ := hx r hr
      simp; omega
    let rows : List Row := (List.range len).map fun r => ⟨A r, C r, ((Z r).take (L r)).map (BitVec.ofInt 64)⟩
    have hrl : rows.length = len := by simp [rows]
    refine ⟨some a, rows, cap, by rw [hrl]; simpa using hcs, sl_of (fun i hi => ?_), fun r hr => ?_, by omega, by omega⟩
    · have hi2 : i < len := by simpa [rows] using hi
      rw [(hx i (by omega)).1]
      simp [List.getD_eq_getElem?_getD, rows, hi2, Row.v]
      have := (hrow i (by omega))
      simp at this
      omega
    · obtain ⟨i, hi, rfl⟩ := List.mem_map.1 hr
      have hi2 : i < len := by simpa using hi
      obtain ⟨_, h1, h2, h3, h4, h5, h6⟩ := hx i (by omega)
      have hl := hrow i (by omega)
      refine ⟨?_, by show (List.map _ _).length ≤ _; rw [hl]; omega, by show (List.map _ _).length ≤ _; rw [hl]; exact h1⟩
      show SlU W (A i) _
      cases hA : A i with
      | none =>
        have := h5 hA
        have e : ((Z i).take (L i)).map (BitVec.ofInt 64) = [] := List.eq_nil_of_length_eq_zero (by rw [hl]; omega)
        rw [e]; exact .nil _ _
      | some a' =>
        obtain ⟨_, hcell⟩ := h6 a' hA
        refine sl_of (fun c hc => ?_)
        have hcL : c < L i := by rw [List.length_map, hl] at hc; exact hc
        have hcZ : c < (Z i).length := by omega
        rw [hcell c (by omega), wf_u64 (h4 _ (by rw [List.getD_eq_getElem?_getD, List.getElem?_eq_getElem hcZ]; exact List.getElem_mem hcZ))]
        simp [List.getD_eq_getElem?_getD, hcL, hcZ]
/-- a model -/
theorem open_model {W : World} {r : Reach} {b0 : Nat} {t : TypeId} {f0 f1 f2 : Field} {e q : TypeId} {v : Value} {d : DataW H} {p : List MemPlace} (hs : P.underlying t = some (.struct #[f0, f1, f2])) (hone : oneCellFields P #[f0, f1, f2] = true) (hC : P.cellsOf t = 3)
    (hi : P.underlying f0.type = some (.int .i64)) (hv : P.underlying f1.type = some (.slice q)) (hr : P.underlying f2.type = some (.slice e)) (he : P.underlying e = some (.slice q)) (hq : P.underlying q = some (.int .u64)) (ce : P.cellsOf e = 1) (cq : P.cellsOf q = 1)
    (hok : Value.okWide P W r b0 t v) (h : DataW.Trod enc P W 0 (fun _ => true) true t v d p) : ∃ m : MV, v = m.v ∧ m.At W := by
  obtain ⟨v0, v1, v2, y0, y1, y2, n, rfl, _, _, h0, h1, h2⟩ := open_agg3 hs hone hC hok h
  obtain ⟨z, hz, _⟩ := DataW.trod_int hi h0
  obtain ⟨va, val, vc, rfl, hva, hvl, hvc⟩ := open_words' hv hq cq h1
  obtain ⟨ra, rows, rc, rfl, hra, hrow, hrl, hrc⟩ := open_rows' hr he hq ce cq h2
  simp only [List.cons.injEq, and_true] at hz
  subst hz
  exact ⟨⟨z, ra, rc, rows, va, vc, val⟩, rfl, hra, hrow, hva, hrl, hvl, hrc, hvc⟩
/-- a struct of two whole numbers -/
theorem open_two {W : World} {r : Reach} {b0 : Nat} {t : TypeId} {f0 f1 : Field} {v : Value} {d : DataW H} {p : List MemPlace} (hs : P.underlying t = some (.struct #[f0, f1])) (hone : oneCellFields P #[f0, f1] = true) (hC : P.cellsOf t = 2)
    (h0 : P.underlying f0.type = some (.int .i64)) (h1 : P.underlying f1.type = some (.int .i64)) (hok : Value.okWide P W r b0 t v) (h : DataW.Trod enc P W 0 (fun _ => true) true t v d p) : ∃ y z : Int, v = .agg #[.int .i64 y, .int .i64 z] := by
  obtain ⟨v0, v1, y0, y1, n, rfl, _, _, k0, k1⟩ := open_agg2 hs hone hC hok h
  obtain ⟨z0, hz0, _⟩ := DataW.trod_int h0 k0
  obtain ⟨z1, hz1, _⟩ := DataW.trod_int h1 k1
  simp only [List.cons.injEq, and_true] at hz0 hz1
  subst hz0; subst hz1
  exact ⟨z0, z1, rfl⟩
end
end Go.Proofs.Wit
