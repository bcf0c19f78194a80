/- Laws of a calculus of walks, proved for any program: no condition beyond those that each theorem states. -/
import Derived.Test.YtbjopkllkoomkaaDoorWE
import Derived.Test.YtbjopkllkoomkaaDoorWJ
import Derived.Test.YtbjopkllkoomkaaDoorWD
namespace Go.Proofs.Wit
open Go Go.RowKit
/-! closing, plainly -/
theorem propsL_4 {l p : Int} (h : p ∈ propsL l) : p = 1 ∨ p = 2 ∨ p = 4 ∨ p = 5 := by
  unfold propsL at h
  repeat' (split at h)
  all_goals simp at h
  all_goals omega
theorem dead {l : List W64} {w : Nat} (h : l.getD w 0#64 = 0#64) (v : Nat) : ¬ Rl l w v := fun x => by rw [Rl.toBit, h] at x; simp at x
theorem ser_has {ps : List Int} (h4 : ∀ p ∈ ps, p = 1 ∨ p = 2 ∨ p = 4 ∨ p = 5) {c : List W64} (hv : Val c) (hc : closP ps c) : ∀ p ∈ ps, PropR p (serU ps c) := by
  intro p hp
  have hb := fun {w v : Nat} => serU_bit (ps := ps) (l := c) hv.len (w := w) (v := v)
  rcases h4 p hp with rfl | rfl | rfl | rfl
  · show serR _
    intro hm
    obtain ⟨i, hi, e⟩ := List.mem_iff_getElem.1 hm
    have hi2 : i < c.length := by rwa [serU_length] at hi
    have e2 : (serU ps c).getD i 0#64 = 0#64 := by rw [List.getD_eq_getElem?_getD, List.getElem?_eq_getElem hi]; exact e
    rw [serU_get hi2] at e2
    split at e2
    · have h64 := hv.len
      have := (shift_one_bit (w := i) (v := i) (by omega)).2 rfl
      rw [e2] at this; simp at this
    · rename_i h; exact h ⟨hp, e2⟩
  · show reflR _
    intro w hw
    rw [serU_length] at hw
    exact hb.2 (.inl (hc.1 hp w hw))
  · show tranR _
    have ht := hc.2.1 hp
    intro u v x h1 h2
    rcases hb.1 h1 with h1 | ⟨_, _, rfl, hd⟩
    · rcases hb.1 h2 with h2 | ⟨_, _, rfl, hd⟩
      · exact hb.2 (.inl (ht u v x h1 h2))
      · exact hb.2 (.inl h1)
    · exact h2
  · show euclR _
    have he := hc.2.2 hp
    intro u v x h1 h2
    rcases hb.1 h1 with h1 | ⟨a1, a2, rfl, hd⟩
    · rcases hb.1 h2 with h2 | ⟨_, _, rfl, hd⟩
      · exact hb.2 (.inl (he u v x h1 h2))
      · exact absurd h1 (dead hd v)
    · exact h2
theorem clos_of {ps : List Int} {r : List W64} (h : ∀ p ∈ ps, PropR p r) : closP ps r := ⟨fun x => h 2 x, fun x => h 4 x, fun x => h 5 x⟩
theorem least_self {ps : List Int} {r c : List W64} (hv : Val r) (h : closP ps r) (hL : Least (closP ps) r c) : c = r := (hL.least r hv (.refl _) h).antisymm hL.le
theorem ser_self {ps : List Int} {r : List W64} (h : 1 ∈ ps → serR r) : serU ps r = r := by
  refine List.ext_getElem serU_length (fun i h1 h2 => ?_)
  have e := serU_get (ps := ps) h2
  rw [List.getD_eq_getElem?_getD, List.getElem?_eq_getElem h1, Option.getD_some] at e
  rw [e]
  have e2 : r.getD i 0#64 = r[i] := by rw [List.getD_eq_getElem?_getD, List.getElem?_eq_getElem h2]; rfl
  split
  · rename_i hh
    exfalso
    refine h hh.1 ?_
    rw [← hh.2, e2]; exact List.getElem_mem h2
  · exact e2
/-- what is left of a relation of the logic when it is closed -/
theorem close_self {l : Int} {r c : List W64} (h : hasL r l = true) (hL : Least (closP (propsL l)) r c) : serU (propsL l) c = r := by
  obtain ⟨_, h1, h2⟩ := hasL_true.1 h
  have hv := check_zero.1 h1
  rw [least_self hv (clos_of h2) hL]
  exact ser_self (fun x => h2 1 x)
theorem close_has {l : Int} (hE : propsE l = 0) {r c : List W64} (hL : Least (closP (propsL l)) r c) : hasL (serU (propsL l) c) l = true := by
  refine hasL_true.2 ⟨hE, ?_, ser_has (fun p hp => propsL_4 hp) hL.val hL.has⟩
  exact check_zero.2 (serU_val hL.val)
/-- a closed model, all in all -/
structure ClosedF (n : Int) (val : List W64) (rel : List (List W64)) (l : Int) (n' : Int) (val' : List W64) (rel' : List (List W64)) : Prop where
  n_ : n' = n
  val_ : val' = val
  len : rel'.length = rel.length
  row : ∀ i (h : i < rel.length) (h' : i < rel'.length), ∃ c, Least (closP (propsL l)) rel[i] c ∧ rel'[i] = serU (propsL l) c
theorem ClosedM.full {n : Int} {val : List W64} {rel : List (List W64)} {l : Int} {n' : Int} {val' : List W64} {rel' : List (List W64)} (h : ClosedM n val rel l n' val' rel') (h0 : errE n val rel l = 0) : ClosedF n val rel l n' val' rel' := by
  rw [ClosedM, if_neg (by simp [h0])] at h
  obtain ⟨h1, h2, h3, h4⟩ := h
  refine ⟨h1, h2, h3, fun i hi hi' => ?_⟩
  obtain ⟨c, h5, h6⟩ := h4 i _ (List.getElem?_eq_getElem hi)
  rw [List.getElem?_eq_getElem hi'] at h6
  exact ⟨c, h5, Option.some.inj h6⟩
section
variable {n : Int} {val : List W64} {rel : List (List W64)} {l : Int} {n' : Int} {val' : List W64} {rel' : List (List W64)}
theorem ClosedF.has (h : ClosedF n val rel l n' val' rel') (hE : propsE l = 0) : ∀ r ∈ rel', hasL r l = true := fun r hr => by
  obtain ⟨i, hi, rfl⟩ := List.mem_iff_getElem.1 hr
  obtain ⟨c, h1, h2⟩ := h.row i (by have := h.len; omega) hi
  rw [h2]; exact close_has hE h1
theorem ClosedF.valid (h : ClosedF n val rel l n' val' rel') (hV : ValM n val rel) : ValM n' val' rel' := by
  have hrow : ∀ r ∈ rel', Val r ∧ (r.length : Int) = n := fun r hr => by
    obtain ⟨i, hi, rfl⟩ := List.mem_iff_getElem.1 hr
    have hi2 : i < rel.length := by have := h.len; omega
    obtain ⟨c, h1, h2⟩ := h.row i hi2 hi
    rw [h2]
    refine ⟨serU_val h1.val, ?_⟩
    rw [serU_length, ← h1.le.len]
    exact hV.len _ (List.getElem_mem hi2)
  rw [h.n_, h.val_]
  exact ⟨hV.n1, hV.n64, by rw [h.len]; exact hV.agents, hV.facts, fun r hr => (hrow r hr).2, fun r hr => (hrow r hr).1, hV.out⟩
theorem ClosedF.inM (h : ClosedF n val rel l n' val' rel') (hV : ValM n val rel) (hE : propsE l = 0) : inM n' val' rel' l = true := inM_true.2 ⟨hE, checkM_zero.2 (h.valid hV), h.has hE⟩
theorem ClosedF.same (h : ClosedF n val rel l n' val' rel') (hi : ∀ r ∈ rel, hasL r l = true) : n' = n ∧ val' = val ∧ rel' = rel := by
  refine ⟨h.n_, h.val_, List.ext_getElem h.len (fun i h1 h2 => ?_)⟩
  obtain ⟨c, h3, h4⟩ := h.row i h2 h1
  rw [h4]; exact close_self (hi _ (List.getElem_mem h2)) h3
theorem ClosedF.le (h : ClosedF n val rel l n' val' rel') {i : Nat} (hi : i < rel.length) (hi' : i < rel'.length) : Le rel[i] rel'[i] := by
  obtain ⟨c, h1, h2⟩ := h.row i hi hi'
  rw [h2]; exact h1.le.trans (serU_le h1.val)
theorem ClosedF.least (h : ClosedF n val rel l n' val' rel') {i : Nat} (hi : i < rel.length) (hi' : i < rel'.length) (h1 : l ≠ 1) (h5 : l ≠ 5) {r : List W64} (hr : hasL r l = true) (hle : Le rel[i] r) : Le rel'[i] r := by
  obtain ⟨c, h2, h3⟩ := h.row i hi hi'
  obtain ⟨_, a, b⟩ := hasL_true.1 hr
  have hno : ¬ (1 : Int) ∈ propsL l := by
    unfold propsL
    rw [if_neg h1]
    repeat' split
    all_goals simp
    all_goals omega
  rw [h3, ser_self (fun x => absurd x hno)]
  exact h2.least r (check_zero.1 a) hle (clos_of b)
theorem sameM_refl {n n' : Int} {val val' : List W64} {rel rel' : List (List W64)} (h : n = n' ∧ val = val' ∧ rel = rel') : sameM n n' val val' rel rel' = true := by
  obtain ⟨rfl, rfl, rfl⟩ := h; simp [sameM]
theorem le_of_bits {r s : List W64} (hl : r.length = s.length) (h : ∀ w, w < r.length → r.getD w 0#64 &&& ~~~(s.getD w 0#64) = 0#64) : Le r s := ⟨hl, fun u v x => andNot_zero.1 (h u x.dom) v x⟩
end
end Go.Proofs.Wit
namespace Go.Proofs.Wit
open Go Go.RowKit
/-! the fragments of a formula; defects and their axioms -/
theorem bOrI {P : Program} {t : TypeId} {a b c : Nat} (ha : a < 512) (hb : b < 512) (hc : c = a ||| b) : Bin P .or t (.int .i64 a) (.int .i64 b) (.int .i64 c) := by
  subst hc
  refine bI _ ?_
  have hx : a ||| b < 2 ^ 9 := Nat.or_lt_two_pow (by omega) (by omega)
  have h1 : (BitVec.ofInt 64 (a : Int)).toNat = a := by
    rw [BitVec.ofInt_natCast, BitVec.toNat_ofNat]; exact Nat.mod_eq_of_lt (by omega)
  have h2 : (BitVec.ofInt 64 (b : Int)).toNat = b := by
    rw [BitVec.ofInt_natCast, BitVec.toNat_ofNat]; exact Nat.mod_eq_of_lt (by omega)
  rw [binOp_or]
  show (pure (Value.int .i64 (IntKind.i64.wrap ((BitVec.ofInt 64 (a : Int) ||| BitVec.ofInt 64 (b : Int)).toNat : Int))) : Sem Value) = _
  rw [BitVec.toNat_or, h1, h2, IntWalk.i64_in _ (by omega)]
def frN (n : NV) : Nat := (frO n.op).toNat
theorem frO_lt (op : Int) : 0 ≤ frO op ∧ frO op < 512 := by
  unfold frO
  repeat' split
  all_goals omega
theorem frN_eq (n : NV) : (frN n : Int) = frO n.op := by
  have := frO_lt n.op
  unfold frN; omega
def frgL (c : List NV) : Nat := c.foldl (fun a n => a ||| frN n) 0
theorem frgL_snoc {c : List NV} {n : NV} : frgL (c ++ [n]) = frgL c ||| frN n := by simp [frgL]
theorem frgL_lt (c : List NV) : frgL c < 512 := by
  induction c using snoc_ind with
  | h0 => decide
  | h1 c n ih =>
    rw [frgL_snoc]
    have h2 : frN n < 2 ^ 9 := by have := frO_lt n.op; unfold frN; omega
    exact Nat.or_lt_two_pow (n := 9) ih h2
theorem compF_le (f : List NV) : (compF f).length ≤ 200 := by
  by_cases h : chkF f = 0
  · exact (compF_ok h).len
  · rw [compF, if_pos h]; exact Nat.zero_le _
/-! a logic's defects -/
theorem propsL_in {l p : Int} (h : p ∈ propsL l) : 1 ≤ p ∧ p ≤ 5 := by
  unfold propsL at h
  repeat' split at h
  all_goals simp at h
  all_goals omega
theorem defTo_mem {l : Int} {rel : List (List W64)} {x : Int × Int × List Int} : ∀ {n : Nat}, x ∈ defTo l rel n ↔ ∃ a, a < n ∧ ∃ p ∈ propsL l, witL (rel.getD a []) p ≠ [] ∧ x = ((a : Int), p, witL (rel.getD a []) p)
  | 0 => by simp [defTo]
  | n + 1 => by
    rw [defTo, List.mem_append, defTo_mem, defA, List.mem_filterMap]
    constructor
    · rintro (⟨a, h1, h2⟩ | ⟨p, h1, h2⟩)
      · exact ⟨a, by omega, h2⟩
      · split at h2
        · cases h2
        · rename_i h3; cases h2; exact ⟨n, by omega, p, h1, h3, rfl⟩
    · rintro ⟨a, h1, p, h2, h3, rfl⟩
      rcases Nat.lt_succ_iff_lt_or_eq.1 h1 with h4 | rfl
      · exact .inl ⟨a, h4, p, h2, h3, rfl⟩
      · exact .inr ⟨p, h2, by rw [if_neg h3]⟩
theorem wit_has {r : List W64} (hv : Val r) {p : Int} (hp : 1 ≤ p ∧ p ≤ 5) : witL r p = [] ↔ hasB r p = true := by
  rw [witL_nil, witO_prop hv hp, hasB_true]
  exact ⟨fun h => ⟨check_zero.2 hv, h⟩, fun h => h.2⟩
theorem def_in {n : Int} {val : List W64} {rel : List (List W64)} {l : Int} (hE : errE n val rel l = 0) (hval : ∀ r ∈ rel, Val r) : defL l rel = [] ↔ inM n val rel l = true := by
  obtain ⟨hV, hP, _⟩ := errE_zero hE
  have hg : ∀ a, a < rel.length → rel.getD a [] ∈ rel := fun a ha => by
    rw [List.getD_eq_getElem?_getD, List.getElem?_eq_getElem ha]; exact List.getElem_mem ha
  rw [inM_true]
  constructor
  · intro h
    refine ⟨hP, checkM_zero.2 hV, fun r hr => hasL_true.2 ⟨hP, check_zero.2 (hval r hr), fun p hp => ?_⟩⟩
    obtain ⟨a, ha, rfl⟩ := List.mem_iff_getElem.1 hr
    have hw : witL rel[a] p = [] := Classical.byContradiction (fun hne => by
      have : ((a : Int), p, witL (rel.getD a []) p) ∈ defL l rel := defTo_mem.2 ⟨a, ha, p, hp, by rw [List.getD_eq_getElem?_getD, List.getElem?_eq_getElem ha]; exact hne, rfl⟩
      rw [h] at this; cases this)
    exact (witO_prop (hval _ hr) (propsL_in hp)).1 (witL_nil.1 hw)
  · rintro ⟨_, _, h⟩
    refine List.eq_nil_iff_forall_not_mem.2 (fun x hx => ?_)
    obtain ⟨a, ha, p, hp, hne, _⟩ := defTo_mem.1 hx
    have hr := hg a ha
    exact hne (witL_nil.2 ((witO_prop (hval _ hr) (propsL_in hp)).2 ((hasL_true.1 (h _ hr)).2.2 p hp)))
theorem err_notIn {n : Int} {val : List W64} {rel : List (List W64)} {l : Int} (h : errE n val rel l ≠ 0) : inM n val rel l = false := by
  cases e : inM n val rel l with
  | false => rfl
  | true =>
    obtain ⟨h1, h2, _⟩ := inM_true.1 e
    exact absurd (by rw [errE, if_neg (by simp [h2]), h1]) h
/-! their axioms -/
theorem fact0 : bldF ⟨3, 0, 0, 0, 0, 0⟩ [] = canT (.leaf 3 0 0 0) := by
  rw [bld0 (n := ⟨3, 0, 0, 0, 0, 0⟩) (by decide) rfl rfl rfl rfl]
  exact if_neg (by rw [canT_leaf]; omega)
theorem ok0 : (Tr.leaf 3 0 0 0).ok := ⟨by decide, rfl, rfl⟩
theorem fm0 : FmT (canT (.leaf 3 0 0 0)) (.leaf 3 0 0 0) := FmT.can ok0 (by rw [canT_leaf]; omega)
theorem ax0 {p : Int} (hp : 1 ≤ p ∧ p ≤ 5) : axE p 1 (canT (.leaf 3 0 0 0)) = 0 := axE_0 fm0.chk (by omega) (by decide)
theorem frg0 {p : Int} (hp : 1 ≤ p ∧ p ≤ 5) : frgL (compF (axF p 1 (canT (.leaf 3 0 0 0)))) = 1 := by
  rw [axF_0 (ax0 hp), fm0.top]
  have hp' : p = 1 ∨ p = 2 ∨ p = 3 ∨ p = 4 ∨ p = 5 := by omega
  have key : ∀ t : Tr, t.ok → (canT t).length ≤ 200 → frgL (canT t) = 1 → frgL (compF (canT t)) = 1 := fun t h1 h2 h3 => by
    have hF := FmT.can h1 h2
    rw [compF_eq hF.chk, hF.top]; exact h3
  have okK := un_ok (op := 9) (i := 1) (.inl rfl) (by decide) (by decide) ok0
  have okQ := un_ok (op := 10) (i := 1) (.inr rfl) (by decide) (by decide) ok0
  have okKK := un_ok (op := 9) (i := 1) (.inl rfl) (by decide) (by decide) okK
  have okKQ := un_ok (op := 9) (i := 1) (.inl rfl) (by decide) (by decide) okQ
  rcases hp' with rfl | rfl | rfl | rfl | rfl
  · exact key _ (imp_ok okK okQ) (by decide) (by decide)
  · exact key _ (imp_ok okK ok0) (by decide) (by decide)
  · exact key _ (imp_ok ok0 okKQ) (by decide) (by decide)
  · exact key _ (imp_ok okK okKK) (by decide) (by decide)
  · exact key _ (imp_ok okQ okKQ) (by decide) (by decide)
end Go.Proofs.Wit
