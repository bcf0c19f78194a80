/- Laws of walks, for any program, under the conditions that each theorem states. -/
import Derived.Test.YtcljmlnnfdaljaaGreatDoorZ29
import Derived.Test.YtcljmlnnfdaljaaGreatDoorZ04
namespace Go.Proofs.Wit
/-! partitions whose worlds agree on a set -/
structure Agr (n : Nat) (P : List Int) (s : W64) : Prop where
  len : P.length = n
  ok : OkP P
  inv : IvX n P s
theorem val_lt {n : Int} {val : List W64} {rel : List (List W64)} (hv : ValM n val rel) {k : Nat} (hn : n = (k : Int)) : ∀ r ∈ rel, ∀ a b, Rl r a b → b < k := fun r hr a b h => by
  have h1 := (hv.rels r hr).lt a b h
  have h2 := hv.len r hr
  omega
theorem stat_ix {rl vl : Nat} {op i g : Int} (h : StatL rl vl op i g) : op = 9 ∨ op = 10 → i.toNat < rl := fun e => h.2.1 (by rcases e with rfl | rfl <;> rfl)
section
variable {m : Int} {n : Nat} {val : List W64} {rel : List (List W64)} {t : Tr}
end
/-! the groups of a formula's distributed knowledge -/
structure Grps (c : List NV) (k : Nat) (gs : List Int) : Prop where
  has : ∀ (i : Nat) (hi : i < c.length), i < k → c[i].op = 12 → c[i].g ∈ gs
  of : ∀ g ∈ gs, ∃ n ∈ c, n.op = 12 ∧ n.g = g
  nd : gs.Nodup
def depL (c : List NV) (k : Nat) : List Int := (List.range k).map (fun i => (depT (treeAt c i) : Int))
theorem depL_len {c : List NV} {k : Nat} : (depL c k).length = k := by simp [depL]
theorem depL_succ {c : List NV} {k : Nat} : depL c (k + 1) = depL c k ++ [(depT (treeAt c k) : Int)] := by simp [depL, List.range_succ]
theorem depL_get {c : List NV} {i k : Nat} (h : i < k) : (depL c k).getD i 0 = depT (treeAt c i) := by simp [depL, List.getD_eq_getElem?_getD, h]
theorem depT_node {g : List NV} (ho : NodesOk g) {k : Nat} (hk : k < g.length) :
    depT (treeAt g k) = max (if usX g[k].op = true then depT (treeAt g g[k].x.toNat) else 0) (if usY g[k].op = true then depT (treeAt g g[k].y.toNat) else 0) + mdO g[k].op := by
  have ho2 := ho.ord k hk
  rw [treeAt_node hk (fun h => by have := ho2.1 h; omega) (fun h => by have := ho2.2 h; omega)]
  by_cases h1 : usY g[k].op = true
  · rw [mkT_bin h1, if_pos (usY_X h1), if_pos h1]; rfl
  · by_cases h2 : usX g[k].op = true
    · rw [mkT_un h2 (by simpa using h1), if_pos h2, if_neg h1]
      show _ + _ = _
      rw [Nat.max_zero]
    · rw [mkT_leaf (by simpa using h2), if_neg h2, if_neg h1]
      have h3 : mdO g[k].op = 0 := by
        have hop := (ho k hk).op
        have hx : usX g[k].op = false := by simpa using h2
        unfold mdO
        rw [if_neg]
        intro hc
        rw [show usX g[k].op = true from by simp only [usX, Bool.and_eq_true, decide_eq_true_eq]; omega] at hx
        cases hx
      rw [h3]; exact h3
theorem depT_at {g : List NV} (ho : NodesOk g) : ∀ {k : Nat}, k < g.length → depT (treeAt g k) ≤ k + 1 := by
  intro k
  induction k using Nat.strongRecOn with
  | _ k ih =>
    intro hk
    have ho2 := ho.ord k hk
    rw [depT_node ho hk]
    have hm : mdO g[k].op ≤ 1 := by unfold mdO; split <;> omega
    by_cases h1 : usX g[k].op = true
    · have hx := ho2.1 h1
      have i1 := ih g[k].x.toNat (by omega) (by omega)
      rw [if_pos h1]
      by_cases h2 : usY g[k].op = true
      · have hy := ho2.2 h2
        have i2 := ih g[k].y.toNat (by omega) (by omega)
        rw [if_pos h2]; omega
      · rw [if_neg h2]; omega
    · rw [if_neg h1, if_neg (fun h => h1 (usY_X h))]; omega
theorem blt_max {P : Program} {t ty : TypeId} {a b c : Int} (h : c = max a b) : Blt P .max #[t, t] ty [.int .i64 a, .int .i64 b] (.int .i64 c) := by
  intro cs w
  have e : (if b > a then b else a) = c := by rw [h]; split <;> omega
  simp [builtin, Builtin.max_, Builtin.max2, e]
theorem blt_min {P : Program} {t ty : TypeId} {a b c : Int} (h : c = min a b) : Blt P .min #[t, t] ty [.int .i64 a, .int .i64 b] (.int .i64 c) := by
  intro cs w
  have e : (if b < a then b else a) = c := by rw [h]; split <;> omega
  simp [builtin, Builtin.min_, Builtin.min2, e]
/-- the modal depth that the reference says -/
def depF (f : List NV) : Int := if chkF f = 0 then (depT (topT f) : Int) else -1
end Go.Proofs.Wit
namespace Go.Proofs.Wit
open Go
/-! the first number with a property -/
def fst (q : Nat → Bool) : Nat → Option Nat
  | 0 => none
  | k + 1 => match fst q k with
    | some j => some j
    | none => if q k = true then some k else none
theorem fst_none {q : Nat → Bool} : ∀ {N : Nat}, fst q N = none ↔ ∀ i, i < N → q i = false
  | 0 => by simp [fst]
  | k + 1 => by
    rw [fst]
    cases h : fst q k with
    | some j =>
      simp only [reduceCtorEq, false_iff]
      intro h2
      have := (fst_none (q := q) (N := k)).2 (fun i hi => h2 i (by omega))
      rw [h] at this; cases this
    | none =>
      have h1 := (fst_none (q := q) (N := k)).1 h
      by_cases hq : q k = true
      · simp only [hq, if_true, reduceCtorEq, false_iff]
        intro h2; rw [h2 k (by omega)] at hq; cases hq
      · simp only [hq, if_false, true_iff, Bool.false_eq_true]
        intro i hi
        rcases Nat.lt_succ_iff_lt_or_eq.1 hi with h3 | rfl
        · exact h1 i h3
        · simpa using hq
theorem fst_some {q : Nat → Bool} : ∀ {N j : Nat}, fst q N = some j ↔ j < N ∧ q j = true ∧ ∀ i, i < j → q i = false
  | 0, j => by simp [fst]
  | k + 1, j => by
    rw [fst]
    cases h : fst q k with
    | some i =>
      obtain ⟨h1, h2, h3⟩ := (fst_some (q := q) (N := k)).1 h
      simp only [Option.some.injEq]
      constructor
      · rintro rfl; exact ⟨by omega, h2, h3⟩
      · rintro ⟨_, k2, k3⟩
        rcases Nat.lt_trichotomy i j with e | e | e
        · rw [k3 i e] at h2; cases h2
        · exact e
        · rw [h3 j e] at k2; cases k2
    | none =>
      have h1 := fst_none.1 h
      by_cases hq : q k = true
      · simp only [hq, if_true, Option.some.injEq]
        constructor
        · rintro rfl; exact ⟨by omega, hq, h1⟩
        · rintro ⟨k1, k2, k3⟩
          rcases Nat.lt_succ_iff_lt_or_eq.1 k1 with e | e
          · rw [h1 j e] at k2; cases k2
          · exact e.symm
      · simp only [hq, if_false, reduceCtorEq, false_iff, Bool.false_eq_true]
        rintro ⟨k1, k2, _⟩
        rcases Nat.lt_succ_iff_lt_or_eq.1 k1 with e | rfl
        · rw [h1 j e] at k2; cases k2
        · exact hq k2
/-! rounds that tell two worlds apart -/
def apB (n : Nat) (val : List W64) (rel : List (List W64)) (v w k : Nat) : Bool := (psq n val rel k).getD v 0 != (psq n val rel k).getD w 0
def dst (n : Nat) (val : List W64) (rel : List (List W64)) (v w : Nat) : Option Nat := fst (apB n val rel v w) (dep n val rel + 1)
def optI : Option Nat → Int
  | none => -1
  | some k => k
section
variable {n : Nat} {val : List W64} {rel : List (List W64)}
theorem apB_false {v w k : Nat} : apB n val rel v w k = false ↔ PEq (psq n val rel k) v w := by simp [apB, PEq]
theorem psq_from (hn : 1 ≤ n) (h64 : n ≤ 64) {k : Nat} (hk : dep n val rel ≤ k) : psq n val rel k = psq n val rel (dep n val rel) := by
  have := psq_stable (dep_spec (val := val) (rels := rel) hn h64).2.1 (k - dep n val rel)
  rwa [show dep n val rel + (k - dep n val rel) = k by omega] at this
/-- any longer search finds the same -/
theorem dst_eq (hn : 1 ≤ n) (h64 : n ≤ 64) {v w N : Nat} (hN : dep n val rel < N) : fst (apB n val rel v w) N = dst n val rel v w := by
  unfold dst
  cases h : fst (apB n val rel v w) (dep n val rel + 1) with
  | some j =>
    obtain ⟨h1, h2, h3⟩ := fst_some.1 h
    exact fst_some.2 ⟨by omega, h2, h3⟩
  | none =>
    have h1 := fst_none.1 h
    refine fst_none.2 (fun i hi => ?_)
    by_cases hd : i ≤ dep n val rel
    · exact h1 i (by omega)
    · have := h1 (dep n val rel) (by omega)
      unfold apB at this ⊢
      rw [psq_from hn h64 (by omega : dep n val rel ≤ i)]; exact this
theorem dst_none (hn : 1 ≤ n) (h64 : n ≤ 64) {v w : Nat} : dst n val rel v w = none ↔ ∀ k, PEq (psq n val rel k) v w := by
  constructor
  · intro h k
    have h1 := dst_eq (val := val) (rel := rel) hn h64 (v := v) (w := w) (N := dep n val rel + k + 1) (by omega)
    rw [h] at h1
    exact apB_false.1 (fst_none.1 h1 k (by omega))
  · intro h; exact fst_none.2 (fun i _ => apB_false.2 (h i))
theorem dst_some (hn : 1 ≤ n) (h64 : n ≤ 64) {v w k : Nat} : dst n val rel v w = some k ↔ ¬ PEq (psq n val rel k) v w ∧ ∀ i, i < k → PEq (psq n val rel i) v w := by
  rw [← dst_eq (val := val) (rel := rel) hn h64 (v := v) (w := w) (N := dep n val rel + k + 1) (by omega), fst_some]
  constructor
  · rintro ⟨_, h2, h3⟩; exact ⟨fun h => (by rw [apB_false.2 h] at h2; cases h2), fun i hi => apB_false.1 (h3 i hi)⟩
  · rintro ⟨h2, h3⟩
    refine ⟨by omega, ?_, fun i hi => apB_false.2 (h3 i hi)⟩
    cases e : apB n val rel v w k with
    | true => rfl
    | false => exact absurd (apB_false.1 e) h2
theorem dst_lt (_hn : 1 ≤ n) (_h64 : n ≤ 64) {v w k : Nat} (h : dst n val rel v w = some k) : k ≤ dep n val rel := by
  have := (fst_some.1 (show fst (apB n val rel v w) (dep n val rel + 1) = some k from h)).1
  omega
theorem dst_self (hn : 1 ≤ n) (h64 : n ≤ 64) {v : Nat} : dst n val rel v v = none := (dst_none hn h64).2 (fun _ => rfl)
theorem dst_symm (hn : 1 ≤ n) (h64 : n ≤ 64) {v w : Nat} : dst n val rel v w = dst n val rel w v := by
  cases h : dst n val rel w v with
  | none => exact (dst_none hn h64).2 (fun k => ((dst_none hn h64).1 h k).symm)
  | some k =>
    obtain ⟨h1, h2⟩ := (dst_some hn h64).1 h
    exact (dst_some hn h64).2 ⟨fun e => h1 e.symm, fun i hi => (h2 i hi).symm⟩
theorem peq_mono {v w k j : Nat} (hv : v < n) (hw : w < n) (hj : j ≤ k) (h : PEq (psq n val rel k) v w) : PEq (psq n val rel j) v w := by
  have := psq_refs (k := j) (j := k - j) hv hw (by rwa [show j + (k - j) = k by omega])
  exact this
/-- apart after k rounds: found at k or before -/
theorem dst_le (hn : 1 ≤ n) (h64 : n ≤ 64) {v w k : Nat} (h : ¬ PEq (psq n val rel k) v w) : ∃ j, dst n val rel v w = some j ∧ j ≤ k := by
  cases e : dst n val rel v w with
  | none => exact absurd ((dst_none hn h64).1 e k) h
  | some j =>
    refine ⟨j, rfl, Classical.byContradiction (fun hc => ?_)⟩
    exact h (((dst_some hn h64).1 e).2 k (by omega))
/-- what tells worlds apart first: a fact -/
theorem dst_zero {v w : Nat} (hv : v < n) (hw : w < n) (hn : 1 ≤ n) (h64 : n ≤ 64) : dst n val rel v w = some 0 ↔ ∃ i, i < val.length ∧ (val.getD i 0#64).getLsbD v ≠ (val.getD i 0#64).getLsbD w := by
  rw [dst_some hn h64]
  constructor
  · rintro ⟨h, _⟩
    refine Classical.byContradiction (fun hno => h ((ker_eq_iff hv hw).2 ?_))
    have key : ∀ k, k ≤ val.length → fmTo val v k = fmTo val w k := by
      intro k
      induction k with
      | zero => intro _; rfl
      | succ k ih =>
        intro hk
        rw [fmTo_succ, fmTo_succ, ih (by omega)]
        have : (val.getD k 0#64).getLsbD v = (val.getD k 0#64).getLsbD w := Classical.byContradiction (fun hne => hno ⟨k, by omega, hne⟩)
        rw [this]
    exact key val.length (Nat.le_refl _)
  · rintro ⟨i, hi, hne⟩
    exact ⟨fun h => hne (fmTo_inj ((ker_eq_iff hv hw).1 h) i hi), fun i hi => absurd hi (Nat.not_lt_zero _)⟩
/-- or a successor of the one that no successor of the other agrees with -/
theorem dst_succ {v w k : Nat} (hv : v < n) (hw : w < n) (hn : 1 ≤ n) (h64 : n ≤ 64) (hlt : ∀ r ∈ rel, ∀ a b, Rl r a b → b < n) (h : dst n val rel v w = some (k + 1)) :
    ∃ a, a < rel.length ∧ ((∃ u, Rl (rel.getD a []) v u ∧ ∀ y, Rl (rel.getD a []) w y → ¬ PEq (psq n val rel k) u y) ∨ (∃ u, Rl (rel.getD a []) w u ∧ ∀ y, Rl (rel.getD a []) v y → ¬ PEq (psq n val rel k) u y)) := by
  obtain ⟨h1, h2⟩ := (dst_some hn h64).1 h
  have h3 := h2 k (by omega)
  refine Classical.byContradiction (fun hno => h1 ((nxt_eq_iff (by rw [psq_len]; exact hv) (by rw [psq_len]; exact hw)).2 ⟨h3, fun r hr => ?_⟩))
  obtain ⟨a, ha, rfl⟩ := List.mem_iff_getElem.1 hr
  have hg : rel.getD a [] = rel[a] := by simp [List.getD_eq_getElem?_getD, ha]
  have hok := psq_ok (val := val) (rels := rel) h64 k
  have hl := psq_len (n := n) (val := val) (rels := rel) k
  have key : ∀ x y, (∀ u, Rl rel[a] x u → ∃ u', Rl rel[a] y u' ∧ PEq (psq n val rel k) u u') → ∀ i, (rch (psq n val rel k) (rel[a].getD x 0#64)).getLsbD i = true → (rch (psq n val rel k) (rel[a].getD y 0#64)).getLsbD i = true := by
    intro x y hxy i hi
    obtain ⟨u, hu, hu2, hu3⟩ := (rch_bit hok).1 hi
    obtain ⟨u', k1, k2⟩ := hxy u hu2
    have hun := hlt _ hr _ _ k1
    refine (rch_bit hok).2 ⟨u', by omega, k1, ?_⟩
    rw [← hu3]
    exact k2.symm
  apply BitVec.eq_of_getLsbD_eq
  intro i _
  rw [Bool.eq_iff_iff]
  constructor
  · refine key v w (fun u hu => Classical.byContradiction (fun hc => hno ⟨a, ha, .inl ⟨u, by rw [hg]; exact hu, fun y hy hp => hc ⟨y, by rw [hg] at hy; exact hy, hp⟩⟩⟩)) i
  · refine key w v (fun u hu => Classical.byContradiction (fun hc => hno ⟨a, ha, .inr ⟨u, by rw [hg]; exact hu, fun y hy hp => hc ⟨y, by rw [hg] at hy; exact hy, hp⟩⟩⟩)) i
end
end Go.Proofs.Wit
namespace Go.Proofs.Wit
open Go
/-! formulas that tell worlds apart -/
section
variable {n : Nat} {val : List W64} {rel : List (List W64)}
/-- t has only facts, negations, conjunctions, truth and possibility, and fits -/
def Pln (A B : Nat) (t : Tr) : Prop := allL (fun op i g => StatL A B op i g ∧ op ≤ 10) t
structure TellT (n : Nat) (val : List W64) (rel : List (List W64)) (v w k : Nat) (t : Tr) : Prop where
  ok : t.ok
  pl : Pln rel.length val.length t
  yes : (semT n val rel t).getLsbD v = true
  no : (semT n val rel t).getLsbD w = false
  dp : depT t ≤ k
theorem TellT.deep (hv : ValM (n : Int) val rel) {v w k : Nat} {t : Tr} (h : TellT n val rel v w k t) (hvn : v < n) (hwn : w < n) (hd : dst n val rel v w = some k) : depT t = k := by
  have h1 := hv.n1
  have h64 := hv.n64
  refine Nat.le_antisymm h.dp (Classical.byContradiction (fun hc => ?_))
  have hq := h.pl.mono (q' := fun op i _ => op ≤ 10 ∧ (op = 9 ∨ op = 10 → i.toNat < rel.length)) (fun _ _ _ h => ⟨h.2, stat_ix h.1⟩)
  have hi := sem_dep (n := n) (val := val) (rel := rel) (by omega) (val_lt hv rfl) h.ok.wf hq (Nat.le_refl (depT t))
  have := hi v w hvn hwn (((dst_some (by omega) (by omega)).1 hd).2 (depT t) (by omega)) h.yes
  rw [h.no] at this; cases this
/-- the literal of the first fact that differs -/
def litT (i : Nat) (yes : Bool) : Tr := if yes = true then .leaf 3 i 0 0 else .un 4 0 0 0 (.leaf 3 i 0 0)
theorem fact_ok {i : Nat} (h : i < 8) : (Tr.leaf 3 i 0 0).ok := by
  refine ⟨by omega, rfl, ?_⟩
  refine fldE_0 ?_ ?_
  · simp [iO, grO]
  · simp [agO, grO]; omega
theorem not_ok {t : Tr} (h : t.ok) : (Tr.un 4 0 0 0 t).ok := ⟨by omega, rfl, rfl, rfl, h⟩
theorem sem_fact {i : Nat} : semT n val rel (.leaf 3 i 0 0) = val.getD i 0#64 := by
  show oneW n val rel 3 i 0 0#64 0#64 = _
  rw [oneW, if_pos rfl, Int.toNat_natCast]
theorem sem_not {t : Tr} : semT n val rel (.un 4 0 0 0 t) = allW n &&& ~~~ semT n val rel t := by
  show oneW n val rel 4 0 0 _ 0#64 = _
  rw [oneW, if_neg (by decide), if_pos (by decide), boolW, if_neg (by decide), if_pos rfl]
theorem sem_true : semT n val rel (.leaf 1 0 0 0) = allW n := by
  show oneW n val rel 1 0 0 0#64 0#64 = _
  rw [oneW, if_neg (by decide), if_pos (by decide), boolW, if_pos rfl]
theorem sem_and {a b : Tr} : semT n val rel (.bin 5 0 0 0 a b) = semT n val rel a &&& semT n val rel b := by
  show oneW n val rel 5 0 0 _ _ = _
  rw [oneW, if_neg (by decide), if_pos (by decide), boolW, if_neg (by decide), if_neg (by decide), if_pos rfl]
theorem sem_poss {a : Nat} {t : Tr} : semT n val rel (.un 10 a 0 0 t) = allW n &&& ~~~ boxW (rel.getD a []) n (allW n &&& ~~~ semT n val rel t) := by
  show oneW n val rel 10 a 0 _ 0#64 = _
  rw [oneW, if_neg (by decide), if_neg (by decide), if_neg (by decide), if_pos rfl, Int.toNat_natCast]
theorem bit_not (h64 : n ≤ 64) {s : W64} {v : Nat} (hv : v < n) : (allW n &&& ~~~ s).getLsbD v = !s.getLsbD v := by
  rw [BitVec.getLsbD_and, allW_has h64 hv, not_bit (by omega), Bool.true_and]
theorem bit_poss (h64 : n ≤ 64) (hlt : ∀ r ∈ rel, ∀ a b, Rl r a b → b < n) {a : Nat} (ha : a < rel.length) {t : Tr} {v : Nat} (hv : v < n) : (semT n val rel (.un 10 a 0 0 t)).getLsbD v = true ↔ ∃ u, Rl (rel.getD a []) v u ∧ (semT n val rel t).getLsbD u = true := by
  have hm : rel.getD a [] ∈ rel := by rw [List.getD_eq_getElem?_getD, List.getElem?_eq_getElem ha]; exact List.getElem_mem ha
  rw [sem_poss, bit_not h64 hv, Bool.not_eq_true', ← Bool.not_eq_true, boxW_bit h64]
  constructor
  · intro h
    refine Classical.byContradiction (fun hno => h ⟨hv, fun u hu => ?_⟩)
    rw [bit_not h64 (hlt _ hm _ _ hu)]
    cases e : (semT n val rel t).getLsbD u with
    | false => rfl
    | true => exact absurd ⟨u, hu, e⟩ hno
  · rintro ⟨u, hu, hs⟩ ⟨_, h⟩
    have := h u hu
    rw [bit_not h64 (hlt _ hm _ _ hu), hs] at this
    cases this
theorem pln_true {A B : Nat} : Pln A B (.leaf 1 0 0 0) := ⟨⟨by decide, fun h => (by cases h), fun h => (by cases h), Nat.two_pow_pos A⟩, by decide⟩
theorem pln_fact {A B i : Nat} (h : i < B) : Pln A B (.leaf 3 i 0 0) := ⟨⟨by decide, fun h => (by cases h), fun _ => (by rw [Int.toNat_natCast]; exact h), Nat.two_pow_pos A⟩, by decide⟩
theorem pln_not {A B : Nat} {t : Tr} (h : Pln A B t) : Pln A B (.un 4 0 0 0 t) := ⟨⟨⟨by decide, fun h => (by cases h), fun h => (by cases h), Nat.two_pow_pos A⟩, by decide⟩, h⟩
theorem pln_and {A B : Nat} {s t : Tr} (h : Pln A B s) (k : Pln A B t) : Pln A B (.bin 5 0 0 0 s t) := ⟨⟨⟨by decide, fun h => (by cases h), fun h => (by cases h), Nat.two_pow_pos A⟩, by decide⟩, h, k⟩
theorem pln_poss {A B a : Nat} {t : Tr} (ha : a < A) (h : Pln A B t) : Pln A B (.un 10 a 0 0 t) := ⟨⟨⟨by decide, fun _ => (by rw [Int.toNat_natCast]; exact ha), fun h => (by cases h), Nat.two_pow_pos A⟩, by decide⟩, h⟩
theorem poss_ok {a : Nat} {t : Tr} (ha : a < 4) (h : t.ok) : (Tr.un 10 a 0 0 t).ok := ⟨by omega, rfl, rfl, by
  refine fldE_0 ?_ ?_
  · simp [iO, grO, agO]
  · simp [agO, grO]; omega, h⟩
/-! conjunctions -/
theorem foldl_bit {i : Nat} : ∀ {ts : List Tr} {t : Tr}, (semT n val rel (ts.foldl (fun a b => Tr.bin 5 0 0 0 a b) t)).getLsbD i = true ↔ (semT n val rel t).getLsbD i = true ∧ ∀ u ∈ ts, (semT n val rel u).getLsbD i = true
  | [], _ => by simp
  | u :: us, t => by
    rw [List.foldl_cons, foldl_bit, sem_and, BitVec.getLsbD_and, Bool.and_eq_true]
    simp only [List.mem_cons, forall_eq_or_imp, and_assoc]
theorem conj_bit (h64 : n ≤ 64) {ts : List Tr} {i : Nat} (hi : i < n) : (semT n val rel (conjT ts)).getLsbD i = true ↔ ∀ u ∈ ts, (semT n val rel u).getLsbD i = true := by
  cases ts with
  | nil => simp only [conjT, sem_true, allW_has h64 hi, List.not_mem_nil, false_implies, implies_true]
  | cons t ts => rw [conjT, foldl_bit]; simp
theorem foldl_pln {A B : Nat} : ∀ {ts : List Tr} {t : Tr}, Pln A B t → (∀ u ∈ ts, Pln A B u) → Pln A B (ts.foldl (fun a b => Tr.bin 5 0 0 0 a b) t)
  | [], _, h, _ => h
  | u :: us, _, h, hs => by rw [List.foldl_cons]; exact foldl_pln (pln_and h (hs u (by simp))) (fun v hv => hs v (by simp [hv]))
theorem conj_pln {A B : Nat} {ts : List Tr} (h : ∀ u ∈ ts, Pln A B u) : Pln A B (conjT ts) := by
  cases ts with
  | nil => exact pln_true
  | cons t ts => exact foldl_pln (h t (by simp)) (fun u hu => h u (by simp [hu]))
theorem foldl_dep {k : Nat} : ∀ {ts : List Tr} {t : Tr}, depT t ≤ k → (∀ u ∈ ts, depT u ≤ k) → depT (ts.foldl (fun a b => Tr.bin 5 0 0 0 a b) t) ≤ k
  | [], _, h, _ => h
  | u :: us, t, h, hs => by
    rw [List.foldl_cons]
    refine foldl_dep ?_ (fun v hv => hs v (by simp [hv]))
    have := hs u (by simp)
    show max (depT t) (depT u) + mdO 5 ≤ k
    rw [show mdO 5 = 0 from rfl]; omega
theorem conj_dep {k : Nat} {ts : List Tr} (h : ∀ u ∈ ts, depT u ≤ k) : depT (conjT ts) ≤ k := by
  cases ts with
  | nil => show mdO 1 ≤ k; rw [show mdO 1 = 0 from rfl]; omega
  | cons t ts => exact foldl_dep (h t (by simp)) (fun u hu => h u (by simp [hu]))
/-- formulas that tell x apart from each of some worlds -/
def TellL (n : Nat) (val : List W64) (rel : List (List W64)) (x k : Nat) (ys : List Nat) (ts : List Tr) : Prop := ts.length = ys.length ∧ ∀ (i : Nat) (h : i < ys.length) (h2 : i < ts.length), ∃ j, j ≤ k ∧ dst n val rel x ys[i] = some j ∧ TellT n val rel x ys[i] j ts[i]
theorem TellL.nil {x k : Nat} : TellL n val rel x k [] [] := ⟨rfl, fun _i h => absurd h (Nat.not_lt_zero _)⟩
theorem TellL.snoc {x k y j : Nat} {ys : List Nat} {ts : List Tr} {t : Tr} (h : TellL n val rel x k ys ts) (hj : j ≤ k) (hd : dst n val rel x y = some j) (ht : TellT n val rel x y j t) : TellL n val rel x k (ys ++ [y]) (ts ++ [t]) :=
  ⟨by simp [h.1], fun i h1 h2 => by
    have hl := h.1
    by_cases hi : i < ys.length
    · rw [List.getElem_append_left hi, List.getElem_append_left (by omega)]
      exact h.2 i hi (by omega)
    · have e : i = ys.length := by simp at h1; omega
      subst e
      simp only [List.getElem_append_right (Nat.le_refl _), Nat.sub_self, List.getElem_cons_zero, List.getElem_append_right (Nat.le_of_eq hl), hl]
      exact ⟨j, hj, hd, ht⟩⟩
theorem TellL.mem {x k : Nat} {ys : List Nat} {ts : List Tr} (h : TellL n val rel x k ys ts) : ∀ t ∈ ts, ∃ y ∈ ys, ∃ j, j ≤ k ∧ dst n val rel x y = some j ∧ TellT n val rel x y j t := fun t ht => by
  obtain ⟨i, hi, rfl⟩ := List.mem_iff_getElem.1 ht
  have hl := h.1
  exact ⟨_, List.getElem_mem (by omega : i < ys.length), h.2 i (by omega) hi⟩
theorem TellL.ofMem {x k : Nat} {ys : List Nat} {ts : List Tr} (h : TellL n val rel x k ys ts) : ∀ y ∈ ys, ∃ t ∈ ts, ∃ j, j ≤ k ∧ dst n val rel x y = some j ∧ TellT n val rel x y j t := fun y hy => by
  obtain ⟨i, hi, rfl⟩ := List.mem_iff_getElem.1 hy
  have hl := h.1
  exact ⟨_, List.getElem_mem (by omega : i < ts.length), h.2 i hi (by omega)⟩
theorem TellL.ok {x k : Nat} {ys : List Nat} {ts : List Tr} (h : TellL n val rel x k ys ts) : ∀ t ∈ ts, t.ok := fun t ht => by
  obtain ⟨_, _, _, _, _, h1⟩ := h.mem t ht; exact h1.ok
/-- a successor that no successor of the other world agrees with makes a formula -/
theorem told_poss (hv : ValM (n : Int) val rel) {v w k a u : Nat} {ys : List Nat} {ts : List Tr} (hvn : v < n) (hwn : w < n) (ha : a < rel.length) (hu : Rl (rel.getD a []) v u) (hys : ∀ y, Rl (rel.getD a []) w y → y ∈ ys) (h : TellL n val rel u k ys ts) : TellT n val rel v w (k + 1) (.un 10 a 0 0 (conjT ts)) := by
  have h1 := hv.n1
  have h64 := hv.n64
  have h4 := hv.agents
  have hlt := val_lt hv rfl
  have hm : rel.getD a [] ∈ rel := by rw [List.getD_eq_getElem?_getD, List.getElem?_eq_getElem ha]; exact List.getElem_mem ha
  have hun := hlt _ hm _ _ hu
  refine ⟨poss_ok (by omega) (conjT_ok h.ok), pln_poss ha (conj_pln (fun t ht => ?_)), ?_, ?_, ?_⟩
  · obtain ⟨_, _, _, _, _, h5⟩ := h.mem t ht; exact h5.pl
  · exact (bit_poss (by omega) hlt ha hvn).2 ⟨u, hu, (conj_bit (by omega) hun).2 (fun t ht => by obtain ⟨_, _, _, _, _, h5⟩ := h.mem t ht; exact h5.yes)⟩
  · rw [← Bool.not_eq_true, bit_poss (by omega) hlt ha hwn]
    rintro ⟨y, hy, hs⟩
    obtain ⟨t, ht, _, _, _, h5⟩ := h.ofMem y (hys y hy)
    have := (conj_bit (by omega) (hlt _ hm _ _ hy)).1 hs t ht
    rw [h5.no] at this; cases this
  · show depT (conjT ts) + mdO 10 ≤ k + 1
    have := conj_dep (k := k) (ts := ts) (fun t ht => by obtain ⟨_, _, j, hj, _, h5⟩ := h.mem t ht; exact Nat.le_trans h5.dp hj)
    rw [show mdO 10 = 1 from rfl]; omega
theorem TellT.dual (h64 : n ≤ 64) {v w k : Nat} {t : Tr} (hvn : v < n) (hwn : w < n) (h : TellT n val rel v w k t) : TellT n val rel w v k (.un 4 0 0 0 t) :=
  ⟨not_ok h.ok, pln_not h.pl, by rw [sem_not, bit_not h64 hwn, h.no]; rfl, by rw [sem_not, bit_not h64 hvn, h.yes]; rfl, by
    show depT t + mdO 4 ≤ k
    rw [show mdO 4 = 0 from rfl]; exact h.dp⟩
theorem told_lit (hv : ValM (n : Int) val rel) {v w i : Nat} (_hvn : v < n) (_hwn : w < n) (hi : i < val.length) (hy : (val.getD i 0#64).getLsbD v = true) (hno : (val.getD i 0#64).getLsbD w = false) : TellT n val rel v w 0 (.leaf 3 i 0 0) := by
  have h8 := hv.facts
  exact ⟨fact_ok (by omega), pln_fact hi, by rw [sem_fact]; exact hy, by rw [sem_fact]; exact hno, by show mdO 3 ≤ 0; decide⟩
end
end Go.Proofs.Wit
namespace Go.Proofs.Wit
open Go
/-! what is known of the formulas that are made already -/
/-- with a tree its parts -/
def KC (U : List Tr) : Prop := ∀ t ∈ U, ∀ c ∈ kids t, c ∈ U
theorem KC.len {U : List Tr} (h : KC U) {t : Tr} (ht : t ∈ U) : (canT t).length ≤ U.length := by
  rw [canT_len]
  exact (subT_ok t).nd.length_le_of_subset (fun u hu => visit_all (p := fun t => t ∈ U) h t ht (fun u hu => by cases hu) u hu)
theorem KC.snoc {U : List Tr} (h : KC U) {t : Tr} (ht : ∀ c ∈ kids t, c ∈ U) : KC (U ++ [t]) := fun u hu c hc => by
  rcases List.mem_append.1 hu with h1 | h1
  · exact List.mem_append_left _ (h u h1 c hc)
  · rw [List.mem_singleton.1 h1] at hc; exact List.mem_append_left _ (ht c hc)
theorem foldl_uni : ∀ {ts : List Tr} {t : Tr} {U : List Tr}, KC U → t ∈ U → (∀ u ∈ ts, u ∈ U) → ∃ U', KC U' ∧ U'.length ≤ U.length + ts.length ∧ U ⊆ U' ∧ ts.foldl (fun a b => Tr.bin 5 0 0 0 a b) t ∈ U'
  | [], _, U, h, ht, _ => ⟨U, h, Nat.le_refl _, fun _ h => h, ht⟩
  | u :: us, t, U, h, ht, hs => by
    have h1 : KC (U ++ [Tr.bin 5 0 0 0 t u]) := h.snoc (fun c hc => by
      simp only [kids, List.mem_cons, List.not_mem_nil, or_false] at hc
      rcases hc with rfl | rfl
      · exact ht
      · exact hs _ (by simp))
    obtain ⟨U', k1, k2, k3, k4⟩ := foldl_uni (ts := us) h1 (by simp : Tr.bin 5 0 0 0 t u ∈ U ++ [Tr.bin 5 0 0 0 t u]) (fun v hv => List.mem_append_left _ (hs v (by simp [hv])))
    refine ⟨U', k1, ?_, fun x hx => k3 (List.mem_append_left _ hx), by rw [List.foldl_cons]; exact k4⟩
    rw [List.length_append, List.length_singleton] at k2
    rw [List.length_cons]; omega
theorem conj_uni {ts : List Tr} {U : List Tr} (h : KC U) (h0 : Tr.leaf 1 0 0 0 ∈ U) (hs : ∀ u ∈ ts, u ∈ U) (hl : ts.length ≤ 5) : ∃ U', KC U' ∧ U'.length ≤ U.length + 4 ∧ U ⊆ U' ∧ conjT ts ∈ U' := by
  cases ts with
  | nil => exact ⟨U, h, by omega, fun _ h => h, h0⟩
  | cons t ts =>
    obtain ⟨U', k1, k2, k3, k4⟩ := foldl_uni (ts := ts) h (hs t (by simp)) (fun u hu => hs u (by simp [hu]))
    rw [List.length_cons] at hl
    exact ⟨U', k1, by omega, k3, k4⟩
abbrev Mm := List ((Int × Int) × FV)
abbrev mq : Int × Int → Int × Int → Bool := fun a b => a.1 == b.1 && a.2 == b.2
theorem mget_mem {ν : Type} : ∀ {L : List ((Int × Int) × ν)} {k : Int × Int} {v : ν}, mget mq L k = some v → (k, v) ∈ L
  | [], _, _, h => by cases h
  | (a, b) :: L, k, v, h => by
    rw [mget] at h
    split at h
    · rename_i hq
      have : a = k := by
        simp only [mq, Bool.and_eq_true, beq_iff_eq] at hq
        exact Prod.ext hq.1.symm hq.2.symm
      cases h; rw [this]; simp
    · exact List.mem_cons_of_mem _ (mget_mem h)
theorem mget_nomem {ν : Type} : ∀ {L : List ((Int × Int) × ν)} {k : Int × Int}, mget mq L k = none ↔ k ∉ L.map (·.1)
  | [], _ => by simp [mget]
  | (a, b) :: L, k => by
    rw [mget]
    split
    · rename_i hq
      have : a = k := by
        simp only [mq, Bool.and_eq_true, beq_iff_eq] at hq
        exact Prod.ext hq.1.symm hq.2.symm
      simp [this]
    · rename_i hq
      have hne : k ≠ a := by
        rintro rfl; exact hq (by simp [mq])
      rw [mget_nomem, List.map_cons, List.mem_cons, not_or]
      exact ⟨fun h => ⟨hne, h⟩, fun h => h.2⟩
def allP (n : Nat) : List (Int × Int) := (List.range n).flatMap (fun v : Nat => (List.range n).map (fun w : Nat => ((v : Int), (w : Int))))
theorem allP_len (n : Nat) : (allP n).length = n * n := by
  have key : ∀ l : List Nat, (l.map (fun _ => n)).sum = l.length * n := fun l => by
    induction l with
    | nil => simp
    | cons a l ih => rw [List.map_cons, List.sum_cons, ih, List.length_cons, Nat.succ_mul, Nat.add_comm]
  have := key (List.range n)
  rw [List.length_range] at this
  simpa [allP, List.length_flatMap] using this
theorem mem_allP {n v w : Nat} (hv : v < n) (hw : w < n) : ((v : Int), (w : Int)) ∈ allP n := by
  simp only [allP, List.mem_flatMap, List.mem_range, List.mem_map]
  exact ⟨v, hv, w, hw, rfl⟩
section
variable {n : Nat} {val : List W64} {rel : List (List W64)}
/-- a formula for a pair, or none since it is too long -/
def Fo (n : Nat) (val : List W64) (rel : List (List W64)) (v w k : Nat) (f : List NV) : Prop := (f = [] ∧ 5 < n) ∨ ∃ t, TellT n val rel v w k t ∧ f = bT t ∧ f ≠ []
structure Uni (U : List Tr) (L : Mm) : Prop where
  kc : KC U
  top : Tr.leaf 1 0 0 0 ∈ U
  ent : ∀ e ∈ L, ∀ t, t.ok → e.2.f = bT t → e.2.f ≠ [] → t ∈ U
structure Memo (n : Nat) (val : List W64) (rel : List (List W64)) (L : Mm) : Prop where
  nd : (L.map (·.1)).Nodup
  ent : ∀ e ∈ L, ∃ v w k : Nat, e.1 = ((v : Int), (w : Int)) ∧ v < n ∧ w < n ∧ dst n val rel v w = some k ∧ Fo n val rel v w k e.2.f
  uni : n ≤ 5 → ∃ U, Uni U L ∧ U.length ≤ 6 * L.length + 1
theorem bT_inj {s t : Tr} (hs : s.ok) (ht : t.ok) (h : bT s = bT t) (hne : bT s ≠ []) : s = t := by
  have h1 : ¬ 200 < (canT s).length := fun hl => hne (bT_nil.2 hl)
  have h2 : ¬ 200 < (canT t).length := fun hl => hne (by rw [h]; exact bT_nil.2 hl)
  rw [bT_ok h1, bT_ok h2] at h
  rw [← topT_canT hs.wf, h, topT_canT ht.wf]
theorem Memo.nil : Memo n val rel [] := ⟨List.nodup_nil, fun _ h => (by cases h), fun _ => ⟨[.leaf 1 0 0 0], ⟨fun t ht c hc => (by rw [List.mem_singleton.1 ht] at hc; cases hc), by simp, fun _ h => (by cases h)⟩, by simp⟩⟩
theorem Memo.len {L : Mm} (h : Memo n val rel L) {k : Int × Int} (hk : k ∉ L.map (·.1)) (hp : k ∈ allP n) : L.length + 1 ≤ n * n := by
  have hn : (k :: L.map (·.1)).Nodup := List.nodup_cons.2 ⟨hk, h.nd⟩
  have hs : k :: L.map (·.1) ⊆ allP n := fun x hx => by
    rcases List.mem_cons.1 hx with rfl | hx
    · exact hp
    · obtain ⟨e, he, rfl⟩ := List.mem_map.1 hx
      obtain ⟨v, w, j, h1, h2, h3, _⟩ := h.ent e he
      rw [h1]; exact mem_allP h2 h3
  have := hn.length_le_of_subset hs
  rw [allP_len] at this
  simpa using this
/-- what is known of a conjunction -/
def AllP (n : Nat) (val : List W64) (rel : List (List W64)) (x k : Nat) (ys : List Nat) (L : Mm) (f : List NV) : Prop :=
  (f = [] ∧ 5 < n) ∨ ∃ ts, TellL n val rel x k ys ts ∧ f = bT (conjT ts) ∧ ∀ U, Uni U L → ys.length ≤ 5 → n ≤ 5 → ∃ U', Uni U' L ∧ U'.length ≤ U.length + 4 ∧ conjT ts ∈ U'
theorem Uni.mono {U U' : List Tr} {L : Mm} (h : Uni U L) (hk : KC U') (hs : U ⊆ U') : Uni U' L := ⟨hk, hs h.top, fun e he t ht h1 h2 => hs (h.ent e he t ht h1 h2)⟩
theorem Uni.snoc {U : List Tr} {L : Mm} (h : Uni U L) {t : Tr} (ht : ∀ c ∈ kids t, c ∈ U) : Uni (U ++ [t]) L := h.mono (h.kc.snoc ht) (fun _ hx => List.mem_append_left _ hx)
/-- the parts of a conjunction stand in the memo -/
theorem allP_of {x k : Nat} {ys : List Nat} {L : Mm} {ts : List Tr} (h : TellL n val rel x k ys ts) (hm : ∀ t ∈ ts, bT t ≠ [] ∧ ∃ e ∈ L, e.2.f = bT t) : AllP n val rel x k ys L (bldAll (ts.map bT)) := by
  refine .inr ⟨ts, h, bldAll_bT h.ok, fun U hU hy _ => ?_⟩
  obtain ⟨U', h1, h2, h3, h4⟩ := conj_uni hU.kc hU.top (fun t ht => by
    obtain ⟨h5, e, he, h6⟩ := hm t ht
    exact hU.ent e he t (h.ok t ht) h6 (by rw [h6]; exact h5)) (by rw [h.1]; exact hy)
  exact ⟨U', hU.mono h1 h3, h2, h4⟩
/-- what is known of a formula that is made -/
def MakeP (n : Nat) (val : List W64) (rel : List (List W64)) (v w k : Nat) (L : Mm) (f : List NV) : Prop :=
  (f = [] ∧ 5 < n) ∨ ∃ t, TellT n val rel v w k t ∧ f = bT t ∧ (n ≤ 5 → ∀ U, Uni U L → ∃ U', Uni U' L ∧ U'.length ≤ U.length + 6 ∧ t ∈ U')
/-- the memo with one formula more -/
theorem Memo.add {L : Mm} (h : Memo n val rel L) {v w k : Nat} (hv : v < n) (hw : w < n) (hd : dst n val rel v w = some k) (hk : ((v : Int), (w : Int)) ∉ L.map (·.1)) {fv : FV} (hm : MakeP n val rel v w k L fv.f) : Memo n val rel (L ++ [(((v : Int), (w : Int)), fv)]) ∧ Fo n val rel v w k fv.f := by
  have hlen := h.len hk (mem_allP hv hw)
  have hfo : Fo n val rel v w k fv.f := by
    by_cases h0 : fv.f = []
    · rcases hm with h1 | ⟨t, h1, h2, h3⟩
      · exact .inl h1
      · refine .inl ⟨h0, Classical.byContradiction (fun hc => ?_)⟩
        obtain ⟨U, hU, hUl⟩ := h.uni (by omega)
        obtain ⟨U', k1, k2, k3⟩ := h3 (by omega) U hU
        have := k1.kc.len k3
        rw [h2, bT_nil] at h0
        have hnn : n * n ≤ 5 * 5 := Nat.mul_le_mul (by omega) (by omega)
        omega
    · rcases hm with h1 | ⟨t, h1, h2, h3⟩
      · exact absurd h1.1 h0
      · exact .inr ⟨t, h1, h2, h0⟩
  refine ⟨⟨?_, ?_, ?_⟩, hfo⟩
  · rw [List.map_append, List.nodup_append]
    exact ⟨h.nd, by simp, fun a ha b hb => by
      rw [List.map_singleton, List.mem_singleton] at hb
      rw [hb]; rintro rfl; exact hk ha⟩
  · intro e he
    rcases List.mem_append.1 he with he | he
    · exact h.ent e he
    · rw [List.mem_singleton.1 he]; exact ⟨v, w, k, rfl, hv, hw, hd, hfo⟩
  · intro h5
    rcases hm with h1 | ⟨t, h1, h2, h3⟩
    · exact absurd h1.2 (by omega)
    · obtain ⟨U, hU, hUl⟩ := h.uni h5
      obtain ⟨U', k1, k2, k3⟩ := h3 h5 U hU
      refine ⟨U', ⟨k1.kc, k1.top, fun e he s hs e1 e2 => ?_⟩, by rw [List.length_append, List.length_singleton]; omega⟩
      rcases List.mem_append.1 he with he | he
      · exact k1.ent e he s hs e1 e2
      · rw [List.mem_singleton.1 he] at e1 e2
        dsimp only at e1 e2
        rw [← bT_inj h1.ok hs (by rw [← h2]; exact e1) (by rw [← h2]; exact e2)]
        exact k3
end
end Go.Proofs.Wit
namespace Go.Proofs.Wit
open Go Go.RowKit
/-! a maker of formulas in memory: a struct, a map that is turned, lists that are not -/
structure IV where
  a : Option Addr
  c : Nat
  xs : List Int
def IV.v (x : IV) : Value := .slice x.a x.xs.length x.c
theorem notIn_map {w : World} {mD : Nat} {es : Array MapEntry} {k : Nat} (hm : w.heap[mD]? = some (.map es k)) {a : Option Addr} {xs : List Value} (h : Sl w a xs) (h0 : 0 < xs.length) : ∀ b o, a = some ⟨b, o, none⟩ → b ∉ [mD] := fun b o e hb => by
  rw [List.mem_singleton] at hb
  subst hb
  have := h.cell 0 h0
  subst e
  unfold adr World.cell? at this
  simp only [Option.getD_some, hm] at this
  cases this
theorem Sl.exM {w w' : World} {mD : Nat} {es : Array MapEntry} {k : Nat} (hm : w.heap[mD]? = some (.map es k)) {a : Option Addr} {xs : List Value} (h : Sl w a xs) (e : Ex [mD] w w') : Sl w' a xs := by
  by_cases h0 : 0 < xs.length
  · exact h.ex e (notIn_map hm h h0)
  · rw [List.eq_nil_of_length_eq_zero (by omega : xs.length = 0)]; exact Sl.nil _ _
theorem MV.At.exM {w w' : World} {mD : Nat} {es : Array MapEntry} {k : Nat} (hm : w.heap[mD]? = some (.map es k)) {m : MV} (h : m.At w) (e : Ex [mD] w w') : m.At w' :=
  ⟨Sl.exM hm h.rel e, fun r hr => ⟨Sl.exM hm (h.row r hr).at_ e, (h.row r hr).len, (h.row r hr).cap⟩, Sl.exM hm h.val e, h.lr, h.lv, h.cr, h.cv⟩
theorem FA.exM {w w' : World} {mD : Nat} {es : Array MapEntry} {k : Nat} (hm : w.heap[mD]? = some (.map es k)) {a : Option Addr} {f : List NV} (h : FA w a f) (e : Ex [mD] w w') : FA w' a f := ⟨Sl.exM hm h.at_ e⟩
abbrev mkrCs (m : MV) (mD : Nat) (pa : Option Addr) (pl pc : Nat) : Array Value := #[.int .i64 m.n, .slice m.va m.val.length m.vc, .slice m.ra m.rows.length m.rc, .map (some mD), .slice pa pl pc]
structure MkAt (e : TypeId) (w : World) (mD bk : Nat) (m : MV) (pa : Option Addr) (pc : Nat) (ps : List IV) : Prop where
  blk : w.heap[bk]? = some (.cells (mkrCs m mD pa ps.length pc) e (0, 0))
  mod : m.At w
  pre : Sl w pa (ps.map IV.v)
  row : ∀ p ∈ ps, SlI w p.a p.xs
theorem MkAt.ne {e : TypeId} {w : World} {mD bk : Nat} {m : MV} {pa : Option Addr} {pc : Nat} {ps : List IV} (h : MkAt e w mD bk m pa pc ps) {es : Array MapEntry} {k : Nat} (hm : w.heap[mD]? = some (.map es k)) : bk ∉ [mD] := fun hb => by
  rw [List.mem_singleton] at hb; subst hb
  have := h.blk
  rw [hm] at this; cases this
theorem MkAt.ex {e : TypeId} {w w' : World} {mD bk : Nat} {m : MV} {pa : Option Addr} {pc : Nat} {ps : List IV} (h : MkAt e w mD bk m pa pc ps) {es : Array MapEntry} {k : Nat} (hm : w.heap[mD]? = some (.map es k)) (x : Ex [mD] w w') : MkAt e w' mD bk m pa pc ps :=
  ⟨by rw [x.block bk (Array.getElem?_eq_some_iff.1 h.blk).1 (h.ne hm)]; exact h.blk, h.mod.exM hm x, Sl.exM hm h.pre x, fun p hp => Sl.exM hm (h.row p hp) x⟩
/-- the partitions of a maker: after 0, 1, .. rounds -/
def PsIs (n : Nat) (val : List W64) (rel : List (List W64)) (ps : List IV) : Prop := ps.length = dep n val rel + 1 ∧ ∀ (k : Nat) (h : k < ps.length), ps[k].xs = psq n val rel k
/-- a formula lies in known blocks -/
def FV.In (t : TypeId) (H : Hl) (x : FV) : Prop := ∃ q sp, (q, obN t x.f sp) ∈ H ∧ x.a = q.map (fun b => ⟨b, 0, none⟩) ∧ (q = none → x.f.length = 0 ∧ x.c = 0) ∧ (x.f.flatMap NV.cells ++ sp).length = x.c * 6
theorem FV.In.mono {t : TypeId} {H H' : Hl} {x : FV} (h : x.In t H) (hs : H ⊆ H') : x.In t H' := by
  obtain ⟨q, sp, h1, h2⟩ := h; exact ⟨q, sp, hs h1, h2⟩
theorem FV.In.at {t : TypeId} {w0 w : World} {S : List Nat} {h : Hl} {Y : List (Nat × Obj)} {x : FV} (g : x.In t h) (s : St w0 S w h Y) : FA w x.a x.f := by
  obtain ⟨q, sp, h1, h2, h3, _⟩ := g
  obtain ⟨j, hj⟩ := List.mem_iff_getElem?.1 h1
  rw [h2]
  exact faAt s j hj (fun e => (h3 e).1)
/-- the caller's own list -/
theorem FV.In.own {t : TypeId} {w0 w : World} {h : Hl} {Y : List (Nat × Obj)} {x : FV} (g : x.In t h) (s : St w0 [] w h Y) : OwnN t w0 w x.v x.f := by
  obtain ⟨q, sp, h1, h2, h3, h4⟩ := g
  refine ⟨q, x.c, sp, ?_, h3, h4, fun b e => ?_⟩
  · cases q with
    | none => rw [FV.v, h2]; rfl
    | some b => rw [FV.v, h2]; rfl
  · obtain ⟨k1, _, k2⟩ := s.own _ h1 b e
    exact ⟨k2.resolve_right (by simp), k1⟩
end Go.Proofs.Wit
namespace Go.Proofs.Wit
open Go Go.RowKit
theorem Ex.cellS {w w' : World} {S : List Nat} (e : Ex S w w') {b j : Nat} (hb : b ∉ S) {cs : Array Value} {t : TypeId} {fr : Nat × Nat} {v : Value} (h : w.heap[b]? = some (.cells cs t fr)) (hv : cs[j]? = some v) : w'.cell? ⟨b, j, none⟩ = some v := by
  have h1 := e.block b (Array.getElem?_eq_some_iff.1 h).1 hb
  rw [h] at h1
  unfold World.cell?
  simp only [h1]
  exact hv
section
variable {P : Program} {t : TypeId} {x y : W64}
theorem bGtUV {v : Bool} (h : v = decide (y.toNat < x.toNat)) : Bin P .gtr t (U x) (U y) (.bool v) := by
  refine bU _ ?_
  rw [h]
  show pure (Value.bool (decide ((x.toNat : Int) > (y.toNat : Int)))) = _
  congr 2
  simp only [gt_iff_lt, Int.ofNat_lt]
theorem bLtUV {v : Bool} (h : v = decide (x.toNat < y.toNat)) : Bin P .lss t (U x) (U y) (.bool v) := by
  refine bU _ ?_
  rw [h]
  show pure (Value.bool (decide ((x.toNat : Int) < (y.toNat : Int)))) = _
  congr 2
  simp only [Int.ofNat_lt]
end
theorem bit1 {s : W64} {i : Nat} : ((s >>> i) &&& 1#64).toNat = if s.getLsbD i = true then 1 else 0 := by
  have h : (s >>> i) &&& 1#64 = if s.getLsbD i = true then 1#64 else 0#64 := by
    apply BitVec.eq_of_getLsbD_eq
    intro k hk
    rw [BitVec.getLsbD_and, BitVec.getLsbD_ushiftRight]
    by_cases h0 : k = 0
    · subst h0
      rw [Nat.add_zero]
      cases s.getLsbD i <;> simp
    · rw [show (1#64).getLsbD k = false from by rw [BitVec.getLsbD_one]; simp [h0]]
      cases s.getLsbD i <;> simp [BitVec.getLsbD_one, h0]
  rw [h]; split <;> rfl
theorem bit_gt {s : W64} {v x : Nat} (h : decide (((s >>> x) &&& 1#64).toNat < ((s >>> v) &&& 1#64).toNat) = true) : s.getLsbD v = true ∧ s.getLsbD x = false := by
  rw [bit1, bit1] at h
  revert h
  cases s.getLsbD v <;> cases s.getLsbD x <;> simp
theorem bit_ng {s : W64} {v x : Nat} (h : decide (((s >>> x) &&& 1#64).toNat < ((s >>> v) &&& 1#64).toNat) = false) (h2 : decide (((s >>> v) &&& 1#64).toNat < ((s >>> x) &&& 1#64).toNat) = false) : s.getLsbD v = s.getLsbD x := by
  rw [bit1, bit1] at h h2
  revert h h2
  cases s.getLsbD v <;> cases s.getLsbD x <;> simp
theorem MkAt.of {e t : TypeId} {w0 w : World} {S : List Nat} {h : Hl} {Y : List (Nat × Obj)} {mD bk : Nat} {m : MV} {qA : Option Nat} {capA : Nat} {ps : List IV} {spA : List Value} (s : St w0 S w h Y)
    (hb : (some bk, Obj.cells (mkrCs m mD (qA.map (fun b => ⟨b, 0, none⟩)) ps.length capA) e (0, 0)) ∈ h) (hA : (qA, ob IV.v t ps spA) ∈ h) (hq : qA = none → ps.length = 0) (hps : ∀ p ∈ ps, InS I64 h p.a p.xs) (hm : m.At w) :
    MkAt e w mD bk m (qA.map (fun b => ⟨b, 0, none⟩)) capA ps := by
  refine ⟨(s.own _ hb bk rfl).1, hm, ?_, fun p hp => (hps p hp).sl s⟩
  exact (InS.at hq hA).sl s
/-- the first fact that tells two worlds apart -/
theorem lit_told {n : Nat} {val : List W64} {rel : List (List W64)} (hv : ValM (n : Int) val rel) {v w i : Nat} (hvn : v < n) (hwn : w < n) (hi : i < val.length) (hne : (val.getD i 0#64).getLsbD v ≠ (val.getD i 0#64).getLsbD w) : TellT n val rel v w 0 (litT i ((val.getD i 0#64).getLsbD v)) := by
  have h64 := hv.n64
  cases e : (val.getD i 0#64).getLsbD v with
  | true =>
    have e2 : (val.getD i 0#64).getLsbD w = false := by cases h : (val.getD i 0#64).getLsbD w <;> simp_all
    exact told_lit hv hvn hwn hi e e2
  | false =>
    have e2 : (val.getD i 0#64).getLsbD w = true := by cases h : (val.getD i 0#64).getLsbD w <;> simp_all
    exact (told_lit hv hwn hvn hi e2 e).dual (by omega) hwn hvn
/-- its list -/
theorem lit_bld {i : Nat} (hi : i < 8) : bldF ⟨3, i, 0, 0, 0, 0⟩ [] = bT (litT i true) ∧ bldF ⟨4, 0, 0, 0, 0, 0⟩ [bldF ⟨3, i, 0, 0, 0, 0⟩ []] = bT (litT i false) := by
  have h1 : bldF ⟨3, i, 0, 0, 0, 0⟩ [] = bT (.leaf 3 i 0 0) := bld0 (n := ⟨3, i, 0, 0, 0, 0⟩) (by decide : 1 ≤ (3 : Int) ∧ (3 : Int) ≤ 21) rfl (fact_ok hi).2.2 rfl rfl
  exact ⟨h1, by rw [h1]; exact bld_un (fact_ok hi) (by decide) rfl rfl rfl⟩
end Go.Proofs.Wit
