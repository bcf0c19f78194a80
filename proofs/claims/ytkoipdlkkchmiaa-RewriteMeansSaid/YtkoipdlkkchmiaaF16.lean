/- Laws of walks, for any program, under the conditions that each theorem states. -/
import Derived.Test.YtkoipdlkkchmiaaF14
import Derived.Test.YtkoipdlkkchmiaaF03
namespace Go.Proofs.Wit
/-! partitions whose worlds agree on a set -/
structure Agr (n : Nat) (P : List Int) (s : W64) : Prop where
  len : P.length = n
  ok : OkP P
  inv : IvX n P s
section
variable {m : Int} {n : Nat} {val : List W64} {rel : List (List W64)} {t : Tr}
end
/-! the groups of a formula's distributed knowledge -/
structure Grps (c : List NV) (k : Nat) (gs : List Int) : Prop where
  has : ∀ (i : Nat) (hi : i < c.length), i < k → c[i].op = 12 → c[i].g ∈ gs
  of : ∀ g ∈ gs, ∃ n ∈ c, n.op = 12 ∧ n.g = g
  nd : gs.Nodup
end Go.Proofs.Wit
namespace Go.Proofs.Wit
open Go
/-! the first number with a property -/
def fst (q : Nat → Bool) : Nat → Option Nat
  | 0 => none
  | k + 1 => match fst q k with
    | some j => some j
    | none => if q k = true then some k else none
/-! rounds that tell two worlds apart -/
def apB (n : Nat) (val : List W64) (rel : List (List W64)) (v w k : Nat) : Bool := (psq n val rel k).getD v 0 != (psq n val rel k).getD w 0
def dst (n : Nat) (val : List W64) (rel : List (List W64)) (v w : Nat) : Option Nat := fst (apB n val rel v w) (dep n val rel + 1)
section
variable {n : Nat} {val : List W64} {rel : List (List W64)}
end
end Go.Proofs.Wit
namespace Go.Proofs.Wit
open Go
/-! formulas that tell worlds apart -/
section
variable {n : Nat} {val : List W64} {rel : List (List W64)}
/-- t has only facts, negations, conjunctions, truth and possibility, and fits -/
def Pln (A B : Nat) (t : Tr) : Prop := allL (fun op i g => StatL A B op i g ∧ op ≤ 10) t
structure TellT (n : Nat) (val : List W64) (rel : List (List W64)) (v w k : Nat) (t : Tr) : Prop where
  ok : t.ok
  pl : Pln rel.length val.length t
  yes : (semT n val rel t).getLsbD v = true
  no : (semT n val rel t).getLsbD w = false
  dp : depT t ≤ k
end
end Go.Proofs.Wit
namespace Go.Proofs.Wit
open Go
/-! what is known of the formulas that are made already -/
/-- with a tree its parts -/
def KC (U : List Tr) : Prop := ∀ t ∈ U, ∀ c ∈ kids t, c ∈ U
theorem KC.len {U : List Tr} (h : KC U) {t : Tr} (ht : t ∈ U) : (canT t).length ≤ U.length := by
  rw [canT_len]
  exact (subT_ok t).nd.length_le_of_subset (fun u hu => visit_all (p := fun t => t ∈ U) h t ht (fun u hu => by cases hu) u hu)
theorem KC.snoc {U : List Tr} (h : KC U) {t : Tr} (ht : ∀ c ∈ kids t, c ∈ U) : KC (U ++ [t]) := fun u hu c hc => by
  rcases List.mem_append.1 hu with h1 | h1
  · exact List.mem_append_left _ (h u h1 c hc)
  · rw [List.mem_singleton.1 h1] at hc; exact List.mem_append_left _ (ht c hc)
abbrev Mm := List ((Int × Int) × FV)
section
variable {n : Nat} {val : List W64} {rel : List (List W64)}
/-- a formula for a pair, or none since it is too long -/
def Fo (n : Nat) (val : List W64) (rel : List (List W64)) (v w k : Nat) (f : List NV) : Prop := (f = [] ∧ 5 < n) ∨ ∃ t, TellT n val rel v w k t ∧ f = bT t ∧ f ≠ []
structure Uni (U : List Tr) (L : Mm) : Prop where
  kc : KC U
  top : Tr.leaf 1 0 0 0 ∈ U
  ent : ∀ e ∈ L, ∀ t, t.ok → e.2.f = bT t → e.2.f ≠ [] → t ∈ U
structure Memo (n : Nat) (val : List W64) (rel : List (List W64)) (L : Mm) : Prop where
  nd : (L.map (·.1)).Nodup
  ent : ∀ e ∈ L, ∃ v w k : Nat, e.1 = ((v : Int), (w : Int)) ∧ v < n ∧ w < n ∧ dst n val rel v w = some k ∧ Fo n val rel v w k e.2.f
  uni : n ≤ 5 → ∃ U, Uni U L ∧ U.length ≤ 6 * L.length + 1
end
end Go.Proofs.Wit
namespace Go.Proofs.Wit
/-! rewriting of formulas by rules, from the parts up -/
abbrev Rul := Int → Int → Int → Int → Tr → Tr → Tr
def mkQ : Rul := fun op i e g a b => mkT ⟨op, i, e, g, 0, 0⟩ a b
def upT (r : Rul) : Tr → Tr
  | .leaf op i e g => r op i e g tr0 tr0
  | .un op i e g a => r op i e g (upT r a) tr0
  | .bin op i e g a b => r op i e g (upT r a) (upT r b)
theorem usX_of_Y {op : Int} (h : usX op = false) : usY op = false := by
  cases e : usY op with
  | false => rfl
  | true => exact absurd ((usY_X e).symm.trans h) (by decide)
theorem upT_node {r : Rul} {f : List NV} {i : Nat} (hi : i < f.length) (hO : NodesOk f) :
    upT r (treeAt f i) = r f[i].op f[i].i f[i].e f[i].g (if usX f[i].op = true then upT r (treeAt f f[i].x.toNat) else tr0) (if usY f[i].op = true then upT r (treeAt f f[i].y.toNat) else tr0) := by
  rcases kids_node hi hO with ⟨h1, h2⟩ | ⟨h1, h1', h2⟩ | ⟨h1, h2⟩
  · rw [h2, upT, if_neg (by rw [h1]; simp), if_neg (by rw [usX_of_Y h1]; simp)]
  · rw [h2, upT, if_pos h1, if_neg (by rw [h1']; simp)]
  · rw [h2, upT, if_pos (usY_X h1), if_pos h1]
/-- right rules keep trees right -/
def RulOk (r : Rul) : Prop := ∀ op i e g a b, (1 ≤ op ∧ op ≤ 21) → fldE op i e g = 0 → (usX op = true → a.ok) → (usY op = true → b.ok) → (r op i e g a b).ok
theorem upT_ok {r : Rul} (hr : RulOk r) : ∀ {t : Tr}, t.ok → (upT r t).ok
  | .leaf .., h => hr _ _ _ _ _ _ h.1 h.2.2 (fun e => absurd (h.2.1.symm.trans e) (by decide)) (fun e => absurd ((usX_of_Y h.2.1).symm.trans e) (by decide))
  | .un .., h => hr _ _ _ _ _ _ h.1 h.2.2.2.1 (fun _ => upT_ok hr h.2.2.2.2) (fun e => absurd (h.2.2.1.symm.trans e) (by decide))
  | .bin .., h => hr _ _ _ _ _ _ h.1 h.2.2.1 (fun _ => upT_ok hr h.2.2.2.1) (fun _ => upT_ok hr h.2.2.2.2)
theorem mkQ_ok : RulOk mkQ := fun _ _ _ _ _ _ h1 h2 ha hb => mkT_ok (n := ⟨_, _, _, _, 0, 0⟩) h1 h2 ha hb
/-- what a walk from the parts up returns that stops at what is too long -/
def UpP (r : Rul) (f o : List NV) (e : Int) : Prop :=
  (chkF f ≠ 0 ∧ o = [] ∧ e = chkF f) ∨ (chkF f = 0 ∧ (∃ u ∈ subT (topT f), bT (upT r u) = []) ∧ o = [] ∧ e = 8) ∨ (chkF f = 0 ∧ (∀ u ∈ subT (topT f), bT (upT r u) ≠ []) ∧ o = bT (upT r (topT f)) ∧ e = 0)
theorem bT_ne {t : Tr} : bT t ≠ [] ↔ (canT t).length ≤ 200 := by rw [Ne, bT_nil]; omega
/-- rules that make one node at most of what is there -/
def Small (U0 : List Tr) (r : Rul) : Prop := ∀ op i e g a b U, (1 ≤ op ∧ op ≤ 21) → fldE op i e g = 0 → KC U → U0 ⊆ U → (usX op = true → a ∈ U ∧ a.ok) → (usY op = true → b ∈ U ∧ b.ok) → r op i e g a b ∈ U ∨ ∀ c ∈ kids (r op i e g a b), c ∈ U
theorem up_uni {r : Rul} (hr : RulOk r) {U0 : List Tr} (hs : Small U0 r) (hU : KC U0) {ts : List Tr} (hc : Clo ts) (ho : ∀ t ∈ ts, t.ok) : ∃ U, KC U ∧ U.length ≤ U0.length + ts.length ∧ U0 ⊆ U ∧ ∀ t ∈ ts, upT r t ∈ U := by
  have key : ∀ k, k ≤ ts.length → ∃ U, KC U ∧ U.length ≤ U0.length + k ∧ U0 ⊆ U ∧ ∀ t ∈ ts.take k, upT r t ∈ U := by
    intro k
    induction k with
    | zero => intro _; exact ⟨U0, hU, Nat.le_refl _, fun _ h => h, fun t ht => by simp at ht⟩
    | succ k ih =>
      intro hk
      obtain ⟨U, h1, h2, h3, h4⟩ := ih (by omega)
      have hkid := hc k (by omega)
      have hok := ho _ (List.getElem_mem (show k < ts.length by omega))
      have hm : upT r ts[k] ∈ U ∨ ∀ c ∈ kids (upT r ts[k]), c ∈ U := by
        cases ht : ts[k] with
        | leaf op i e g =>
          rw [ht] at hok
          exact hs _ _ _ _ _ _ U hok.1 hok.2.2 h1 h3 (fun e => absurd (hok.2.1.symm.trans e) (by decide)) (fun e => absurd ((usX_of_Y hok.2.1).symm.trans e) (by decide))
        | un op i e g a =>
          rw [ht] at hok hkid
          exact hs _ _ _ _ _ _ U hok.1 hok.2.2.2.1 h1 h3 (fun _ => ⟨h4 a (hkid a (by simp [kids])), upT_ok hr hok.2.2.2.2⟩) (fun e => absurd (hok.2.2.1.symm.trans e) (by decide))
        | bin op i e g a b =>
          rw [ht] at hok hkid
          exact hs _ _ _ _ _ _ U hok.1 hok.2.2.1 h1 h3 (fun _ => ⟨h4 a (hkid a (by simp [kids])), upT_ok hr hok.2.2.2.1⟩) (fun _ => ⟨h4 b (hkid b (by simp [kids])), upT_ok hr hok.2.2.2.2⟩)
      rw [List.take_succ_eq_append_getElem (show k < ts.length by omega)]
      rcases hm with hm | hm
      · refine ⟨U, h1, by omega, h3, fun t ht => ?_⟩
        rcases List.mem_append.1 ht with h | h
        · exact h4 t h
        · rw [List.mem_singleton.1 h]; exact hm
      · refine ⟨U ++ [upT r ts[k]], h1.snoc hm, by simp; omega, fun x hx => List.mem_append_left _ (h3 hx), fun t ht => ?_⟩
        rcases List.mem_append.1 ht with h | h
        · exact List.mem_append_left _ (h4 t h)
        · rw [List.mem_singleton.1 h]; simp
  have := key ts.length (Nat.le_refl _)
  rwa [List.take_length] at this
theorem up_len {r : Rul} (hr : RulOk r) {U0 : List Tr} (hs : Small U0 r) (hU : KC U0) {t : Tr} (h : t.ok) : ∀ u ∈ subT t, (canT (upT r u)).length ≤ U0.length + (canT t).length := fun u hu => by
  obtain ⟨U, h1, h2, _, h4⟩ := up_uni hr hs hU (subT_ok t).clo (subT_all h)
  have := h1.len (h4 u hu)
  rw [canT_len (t := t)]; omega
theorem UpP.small {r : Rul} (hr : RulOk r) {U0 : List Tr} (hs : Small U0 r) (hU : KC U0) {f o : List NV} {e : Int} (h : UpP r f o e) (hl : U0.length + f.length ≤ 200) : (chkF f ≠ 0 ∧ o = [] ∧ e = chkF f) ∨ (chkF f = 0 ∧ o = canT (upT r (topT f)) ∧ (canT (upT r (topT f))).length ≤ U0.length + (canT (topT f)).length ∧ (canT (topT f)).length ≤ f.length ∧ bT (upT r (topT f)) = o ∧ o ≠ [] ∧ e = 0) := by
  rcases h with h | ⟨h0, ⟨u, hu, h1⟩, rfl, rfl⟩ | ⟨h0, h1, rfl, rfl⟩
  · exact .inl h
  · have h2 := up_len hr hs hU (chkF_zero.1 h0).top u hu
    have h3 := compF_len h0
    rw [compF_eq h0] at h3
    exact absurd h1 (bT_ne.2 (by omega))
  · have h2 := up_len hr hs hU (chkF_zero.1 h0).top _ (mem_subT _)
    have h3 := compF_len h0
    rw [compF_eq h0] at h3
    exact .inr ⟨h0, bT_ok (by omega), h2, h3, rfl, h1 _ (mem_subT _), rfl⟩
theorem KC.nil : KC [] := fun _ h => by cases h
theorem KC.sub (t : Tr) : KC (subT t) := fun _ hu _ hc => (subT_ok t).clo.mem hu _ hc
/-! simplification -/
def cT (o : Int) : Tr := .leaf o 0 0 0
def isT : Tr → Int → Bool
  | .leaf op _ _ _, o => op == o
  | _, _ => false
def strT : Tr → Option Tr
  | .un op _ _ _ a => if op = 4 then some a else none
  | _ => none
def ntT (t : Tr) : Tr := .un 4 0 0 0 t
def negT (t : Tr) : Tr := (strT t).getD (ntT t)
def oppT (a b : Tr) : Bool := strT a == some b || strT b == some a
def jointT (op i e g : Int) (a b : Tr) (ne dm : Int) : Tr :=
  if (isT a dm || isT b dm || (oppT a b && !isT a ne && !isT b ne)) = true then cT dm
  else if isT a ne = true then b else if (isT b ne || a == b) = true then a else mkQ op i e g a b
def condT (a b : Tr) : Tr :=
  if (isT a 2 || isT b 1 || a == b) = true then cT 1 else if isT a 1 = true then b else if isT b 2 = true then negT a else mkQ 7 0 0 0 a b
def equT (a b : Tr) : Tr :=
  if (a == b) = true then cT 1 else if oppT a b = true then cT 2 else if isT a 1 = true then b else if isT b 1 = true then a
  else if isT a 2 = true then negT b else if isT b 2 = true then negT a else mkQ 8 0 0 0 a b
def simT : Rul := fun op i e g a b =>
  if op = 4 then (if isT a 1 = true then cT 2 else if isT a 2 = true then cT 1 else negT a)
  else if op = 5 then jointT op i e g a b 1 2
  else if op = 6 then jointT op i e g a b 2 1
  else if op = 7 then condT a b
  else if op = 8 then equT a b
  else if op = 10 then (if isT a 2 = true then cT 2 else mkQ op i e g a b)
  else if op = 16 then (if (isT a 1 && !isT b 1) = true then b else if (isT a 2 || isT b 1) = true then cT 1 else mkQ op i e g a b)
  else if op = 13 ∨ op = 14 then (if (isT a 2 || isT b 1) = true then cT 1 else mkQ op i e g a b)
  else if op = 9 ∨ op = 11 ∨ op = 12 ∨ op = 15 ∨ op = 17 then (if isT a 1 = true then cT 1 else mkQ op i e g a b)
  else mkQ op i e g a b
theorem cT_ok {o : Int} (h : o = 1 ∨ o = 2) : (cT o).ok := by rcases h with rfl | rfl <;> exact ⟨by decide, rfl, rfl⟩
theorem ntT_ok {t : Tr} (h : t.ok) : (ntT t).ok := ⟨by decide, rfl, rfl, rfl, h⟩
theorem strT_kid {t c : Tr} (h : strT t = some c) : ∃ i e g, t = .un 4 i e g c := by
  cases t with
  | leaf => cases h
  | bin => cases h
  | un op i e g a =>
    rw [strT] at h
    split at h
    · rename_i h1; subst h1; cases h; exact ⟨i, e, g, rfl⟩
    · cases h
theorem strT_ok {t c : Tr} (ht : t.ok) (h : strT t = some c) : c.ok := by
  obtain ⟨i, e, g, rfl⟩ := strT_kid h; exact ht.2.2.2.2
theorem negT_ok {t : Tr} (h : t.ok) : (negT t).ok := by
  unfold negT
  cases hs : strT t with
  | none => exact ntT_ok h
  | some c => exact strT_ok h hs
theorem isT_eq {t : Tr} (h : t.ok) {o : Int} (ho : o = 1 ∨ o = 2) : isT t o = true ↔ t = cT o := by
  constructor
  · intro hi
    cases t with
    | leaf op i e g =>
      have h1 : op = o := by simpa [isT] using hi
      subst h1
      have hf := fldOk_of h.2.2
      have h2 : i = 0 := hf.i0 (by rcases ho with rfl | rfl <;> rfl)
      have h3 : e = 0 := hf.e0 (by omega)
      have h4 : g = 0 := hf.g0 (by rcases ho with rfl | rfl <;> rfl)
      rw [h2, h3, h4]; rfl
    | un => cases hi
    | bin => cases hi
  · rintro rfl; simp [cT, isT]
/-- what the rules of simplification give -/
inductive SimC (op i e g : Int) (a b : Tr) : Tr → Prop
  | c1 : SimC op i e g a b (cT 1)
  | c2 : SimC op i e g a b (cT 2)
  | a (h : usX op = true) : SimC op i e g a b a
  | b (h : usY op = true) : SimC op i e g a b b
  | sa (h : usX op = true) (c : Tr) (h : strT a = some c) : SimC op i e g a b c
  | sb (h : usY op = true) (c : Tr) (h : strT b = some c) : SimC op i e g a b c
  | na (h : usX op = true) (h0 : strT a = none) (h1 : isT a 1 = false) (h2 : isT a 2 = false) : SimC op i e g a b (ntT a)
  | nb (h : usY op = true) (h0 : strT b = none) (h1 : isT b 1 = false) (h2 : isT b 2 = false) : SimC op i e g a b (ntT b)
  | mk (h : simT op i e g a b = mkQ op i e g a b) : SimC op i e g a b (mkQ op i e g a b)
theorem neg_simA {op i e g : Int} {a b : Tr} (h : usX op = true) (h1 : isT a 1 = false) (h2 : isT a 2 = false) : SimC op i e g a b (negT a) := by
  unfold negT
  cases hs : strT a with
  | none => exact .na h hs h1 h2
  | some c => exact .sa h c hs
theorem neg_simB {op i e g : Int} {a b : Tr} (h : usY op = true) (h1 : isT b 1 = false) (h2 : isT b 2 = false) : SimC op i e g a b (negT b) := by
  unfold negT
  cases hs : strT b with
  | none => exact .nb h hs h1 h2
  | some c => exact .sb h c hs
theorem joint_sim {op i e g : Int} {a b : Tr} {ne dm : Int} (hd : dm = 1 ∨ dm = 2) (hY : usY op = true) (he : simT op i e g a b = jointT op i e g a b ne dm) : SimC op i e g a b (jointT op i e g a b ne dm) := by
  have hX := usY_X hY
  obtain ⟨t, ht⟩ : ∃ t, t = jointT op i e g a b ne dm := ⟨_, rfl⟩
  rw [← ht] at he ⊢
  unfold jointT at ht
  split at ht
  · rcases hd with rfl | rfl
    · rw [ht]; exact .c1
    · rw [ht]; exact .c2
  · split at ht
    · rw [ht]; exact .b hY
    · split at ht
      · rw [ht]; exact .a hX
      · rw [ht] at he ⊢; exact .mk he
theorem sim_c {op i e g : Int} {a b : Tr} (hop : 1 ≤ op ∧ op ≤ 21) (hf : fldE op i e g = 0) (ha : usX op = true → a.ok) (hb : usY op = true → b.ok) : SimC op i e g a b (simT op i e g a b) := by
  have hF := fldOk_of hf
  obtain ⟨t, ht⟩ : ∃ t, t = simT op i e g a b := ⟨_, rfl⟩
  rw [← ht]
  have hmk : t = mkQ op i e g a b → SimC op i e g a b t := fun h => by rw [h]; exact .mk (by rw [← ht]; exact h)
  have ht' := ht
  unfold simT at ht
  split at ht
  · rename_i h; subst h
    split at ht
    · rw [ht]; exact .c2
    · split at ht
      · rw [ht]; exact .c1
      · rename_i h1 h2
        rw [ht]; exact neg_simA rfl (by simpa using h1) (by simpa using h2)
  split at ht
  · rename_i h; subst h
    have := joint_sim (i := i) (e := e) (g := g) (a := a) (b := b) (ne := 1) (dm := 2) (.inr rfl) (op := 5) rfl (by rw [← ht', ht])
    rw [ht]; exact this
  split at ht
  · rename_i h; subst h
    have := joint_sim (i := i) (e := e) (g := g) (a := a) (b := b) (ne := 2) (dm := 1) (.inl rfl) (op := 6) rfl (by rw [← ht', ht])
    rw [ht]; exact this
  split at ht
  · rename_i h; subst h
    have e0 : i = 0 ∧ e = 0 ∧ g = 0 := ⟨hF.i0 rfl, hF.e0 (by decide), hF.g0 rfl⟩
    obtain ⟨rfl, rfl, rfl⟩ := e0
    unfold condT at ht
    split at ht
    · rw [ht]; exact .c1
    · rename_i h1
      simp only [Bool.or_eq_true, not_or, Bool.not_eq_true] at h1
      split at ht
      · rw [ht]; exact .b rfl
      · rename_i h2
        split at ht
        · rw [ht]; exact neg_simA rfl (by simpa using h2) h1.1.1
        · exact hmk ht
  split at ht
  · rename_i h; subst h
    have e0 : i = 0 ∧ e = 0 ∧ g = 0 := ⟨hF.i0 rfl, hF.e0 (by decide), hF.g0 rfl⟩
    obtain ⟨rfl, rfl, rfl⟩ := e0
    have ha := ha rfl
    have hb := hb rfl
    unfold equT at ht
    split at ht
    · rw [ht]; exact .c1
    · rename_i h0
      split at ht
      · rw [ht]; exact .c2
      · split at ht
        · rw [ht]; exact .b rfl
        · rename_i h2
          split at ht
          · rw [ht]; exact .a rfl
          · rename_i h3
            split at ht
            · rename_i h4
              have hb2 : isT b 2 = false := by
                cases hq : isT b 2 with
                | false => rfl
                | true => exact absurd (by rw [(isT_eq ha (.inr rfl)).1 h4, (isT_eq hb (.inr rfl)).1 hq]; simp) h0
              rw [ht]; exact neg_simB rfl (by simpa using h3) hb2
            · rename_i h4
              split at ht
              · rw [ht]; exact neg_simA rfl (by simpa using h2) (by simpa using h4)
              · exact hmk ht
  split at ht
  · rename_i h; subst h
    split at ht
    · rw [ht]; exact .c2
    · exact hmk ht
  split at ht
  · rename_i h; subst h
    split at ht
    · rw [ht]; exact .b rfl
    · split at ht
      · rw [ht]; exact .c1
      · exact hmk ht
  split at ht
  · split at ht
    · rw [ht]; exact .c1
    · exact hmk ht
  split at ht
  · split at ht
    · rw [ht]; exact .c1
    · exact hmk ht
  · exact hmk ht
theorem simT_ok : RulOk simT := fun op i e g a b h1 h2 ha hb => by
  have key : ∀ t, SimC op i e g a b t → t.ok := fun t ht => by
    cases ht with
    | c1 => exact cT_ok (.inl rfl)
    | c2 => exact cT_ok (.inr rfl)
    | a h => exact ha h
    | b h => exact hb h
    | sa h c hs => exact strT_ok (ha h) hs
    | sb h c hs => exact strT_ok (hb h) hs
    | na h _ _ _ => exact ntT_ok (ha h)
    | nb h _ _ _ => exact ntT_ok (hb h)
    | mk h => exact mkQ_ok _ _ _ _ _ _ h1 h2 ha hb
  exact key _ (sim_c h1 h2 ha hb)
theorem kids_mkQ {op i e g : Int} {a b c : Tr} (h : c ∈ kids (mkQ op i e g a b)) : (usX op = true ∧ c = a) ∨ (usY op = true ∧ c = b) := by
  unfold mkQ at h
  by_cases hY : usY op = true
  · rw [mkT_bin (n := ⟨op, i, e, g, 0, 0⟩) hY] at h
    simp only [kids, List.mem_cons, List.not_mem_nil, or_false] at h
    rcases h with rfl | rfl
    · exact .inl ⟨usY_X hY, rfl⟩
    · exact .inr ⟨hY, rfl⟩
  · by_cases hX : usX op = true
    · rw [mkT_un (n := ⟨op, i, e, g, 0, 0⟩) hX (by simpa using hY)] at h
      exact .inl ⟨hX, List.mem_singleton.1 h⟩
    · rw [mkT_leaf (n := ⟨op, i, e, g, 0, 0⟩) (by simpa using hX)] at h; cases h
theorem kid_in {t c : Tr} (h : strT t = some c) : c ∈ kids t := by
  obtain ⟨i, e, g, rfl⟩ := strT_kid h; simp [kids]
theorem sim_small : Small [] simT := fun op i e g a b U h1 h2 hU _ ha hb => by
  have key : ∀ t, SimC op i e g a b t → t ∈ U ∨ ∀ c ∈ kids t, c ∈ U := fun t ht => by
    cases ht with
    | c1 => exact .inr (fun c hc => by cases hc)
    | c2 => exact .inr (fun c hc => by cases hc)
    | a h => exact .inl (ha h).1
    | b h => exact .inl (hb h).1
    | sa h c hs => exact .inl (hU _ (ha h).1 _ (kid_in hs))
    | sb h c hs => exact .inl (hU _ (hb h).1 _ (kid_in hs))
    | na h _ _ _ => exact .inr (fun c hc => by rw [List.mem_singleton.1 hc]; exact (ha h).1)
    | nb h _ _ _ => exact .inr (fun c hc => by rw [List.mem_singleton.1 hc]; exact (hb h).1)
    | mk h => exact .inr (fun c hc => by
        rcases kids_mkQ hc with ⟨h3, rfl⟩ | ⟨h3, rfl⟩
        · exact (ha h3).1
        · exact (hb h3).1)
  exact key _ (sim_c h1 h2 (fun h => (ha h).2) (fun h => (hb h).2))
/-! substitution -/
def subR (to : List Tr) : Rul := fun op i e g a b => if op = 3 ∧ i.toNat < to.length then to.getD i.toNat tr0 else mkQ op i e g a b
theorem getD_mem {ts : List Tr} {k : Nat} (h : k < ts.length) : ts.getD k tr0 ∈ ts := by
  rw [List.getD_eq_getElem?_getD, List.getElem?_eq_getElem h]; exact List.getElem_mem h
theorem subR_ok {to : List Tr} (h : ∀ t ∈ to, t.ok) : RulOk (subR to) := fun op i e g a b h1 h2 ha hb => by
  unfold subR
  split
  · rename_i h3; exact h _ (getD_mem h3.2)
  · exact mkQ_ok _ _ _ _ _ _ h1 h2 ha hb
theorem mkQ_small {op i e g : Int} {a b : Tr} {U : List Tr} (ha : usX op = true → a ∈ U) (hb : usY op = true → b ∈ U) : ∀ c ∈ kids (mkQ op i e g a b), c ∈ U := fun c hc => by
  rcases kids_mkQ hc with ⟨h3, rfl⟩ | ⟨h3, rfl⟩
  · exact ha h3
  · exact hb h3
theorem subR_small {to U0 : List Tr} (h : to ⊆ U0) : Small U0 (subR to) := fun op i e g a b U h1 h2 hU h0 ha hb => by
  unfold subR
  split
  · rename_i h3; exact .inl (h0 (h (getD_mem h3.2)))
  · exact .inr (mkQ_small (fun h => (ha h).1) (fun h => (hb h).1))
theorem sub_X {to : List Tr} {op i e g : Int} {a b : Tr} (h : op ≠ 3) : subR to op i e g a b = mkQ op i e g a b := if_neg (fun h3 => h h3.1)
/-! few operators -/
def wiT (a b : Tr) : Tr := ntT (.bin 5 0 0 0 a (ntT b))
def corR : Rul := fun op i e g a b =>
  if op = 1 then ntT (cT 2) else if op = 6 then wiT (ntT a) b else if op = 7 then wiT a b else if op = 8 then .bin 5 0 0 0 (wiT a b) (wiT b a)
  else if op = 10 then ntT (.un 9 i 0 0 (ntT a)) else mkQ op i e g a b
theorem wiT_ok {a b : Tr} (ha : a.ok) (hb : b.ok) : (wiT a b).ok := ntT_ok (and_ok ha (ntT_ok hb))
theorem corR_ok : RulOk corR := fun op i e g a b h1 h2 ha hb => by
  unfold corR
  split
  · exact ntT_ok (cT_ok (.inr rfl))
  split
  · rename_i h; subst h; exact wiT_ok (ntT_ok (ha rfl)) (hb rfl)
  split
  · rename_i h; subst h; exact wiT_ok (ha rfl) (hb rfl)
  split
  · rename_i h; subst h; exact and_ok (wiT_ok (ha rfl) (hb rfl)) (wiT_ok (hb rfl) (ha rfl))
  split
  · rename_i h; subst h
    have hF := (fldOk_of h2).ag rfl
    exact ntT_ok (un_ok (.inl rfl) hF.1 hF.2 (ntT_ok (ha rfl)))
  · exact mkQ_ok _ _ _ _ _ _ h1 h2 ha hb
end Go.Proofs.Wit
namespace Go.Proofs.Wit
open Go Go.RowKit
/-! a maker of formulas in memory: a struct, a map that is turned, lists that are not -/
structure IV where
  a : Option Addr
  c : Nat
  xs : List Int
def IV.v (x : IV) : Value := .slice x.a x.xs.length x.c
abbrev mkrCs (m : MV) (mD : Nat) (pa : Option Addr) (pl pc : Nat) : Array Value := #[.int .i64 m.n, .slice m.va m.val.length m.vc, .slice m.ra m.rows.length m.rc, .map (some mD), .slice pa pl pc]
structure MkAt (e : TypeId) (w : World) (mD bk : Nat) (m : MV) (pa : Option Addr) (pc : Nat) (ps : List IV) : Prop where
  blk : w.heap[bk]? = some (.cells (mkrCs m mD pa ps.length pc) e (0, 0))
  mod : m.At w
  pre : Sl w pa (ps.map IV.v)
  row : ∀ p ∈ ps, SlI w p.a p.xs
/-- a formula lies in known blocks -/
def FV.In (t : TypeId) (H : Hl) (x : FV) : Prop := ∃ q sp, (q, obN t x.f sp) ∈ H ∧ x.a = q.map (fun b => ⟨b, 0, none⟩) ∧ (q = none → x.f.length = 0 ∧ x.c = 0) ∧ (x.f.flatMap NV.cells ++ sp).length = x.c * 6
theorem FV.In.mono {t : TypeId} {H H' : Hl} {x : FV} (h : x.In t H) (hs : H ⊆ H') : x.In t H' := by
  obtain ⟨q, sp, h1, h2⟩ := h; exact ⟨q, sp, hs h1, h2⟩
theorem FV.In.at {t : TypeId} {w0 w : World} {S : List Nat} {h : Hl} {Y : List (Nat × Obj)} {x : FV} (g : x.In t h) (s : St w0 S w h Y) : FA w x.a x.f := by
  obtain ⟨q, sp, h1, h2, h3, _⟩ := g
  obtain ⟨j, hj⟩ := List.mem_iff_getElem?.1 h1
  rw [h2]
  exact faAt s j hj (fun e => (h3 e).1)
/-- the caller's own list -/
theorem FV.In.own {t : TypeId} {w0 w : World} {h : Hl} {Y : List (Nat × Obj)} {x : FV} (g : x.In t h) (s : St w0 [] w h Y) : OwnN t w0 w x.v x.f := by
  obtain ⟨q, sp, h1, h2, h3, h4⟩ := g
  refine ⟨q, x.c, sp, ?_, h3, h4, fun b e => ?_⟩
  · cases q with
    | none => rw [FV.v, h2]; rfl
    | some b => rw [FV.v, h2]; rfl
  · obtain ⟨k1, _, k2⟩ := s.own _ h1 b e
    exact ⟨k2.resolve_right (by simp), k1⟩
end Go.Proofs.Wit
namespace Go.Proofs.Wit
open Go Go.RowKit
theorem Ex.cellS {w w' : World} {S : List Nat} (e : Ex S w w') {b j : Nat} (hb : b ∉ S) {cs : Array Value} {t : TypeId} {fr : Nat × Nat} {v : Value} (h : w.heap[b]? = some (.cells cs t fr)) (hv : cs[j]? = some v) : w'.cell? ⟨b, j, none⟩ = some v := by
  have h1 := e.block b (Array.getElem?_eq_some_iff.1 h).1 hb
  rw [h] at h1
  unfold World.cell?
  simp only [h1]
  exact hv
section
variable {P : Program} {t : TypeId} {x y : W64}
end
end Go.Proofs.Wit
namespace Go.Proofs.Wit
open Go Go.RowKit
structure Grew (t : TypeId) (n : Nat) (val : List W64) (rel : List (List W64)) (d : Nat) (L L' : Mm) (F : Hl) : Prop where
  memo : Memo n val rel L'
  sub : L ⊆ L'
  nw : ∀ e ∈ L', e ∈ L ∨ ∃ a b i : Nat, e.1 = ((a : Int), (b : Int)) ∧ dst n val rel a b = some i ∧ i < d
  at_ : ∀ e ∈ L', e ∈ L ∨ e.2.In t F
section
variable {t : TypeId} {n : Nat} {val : List W64} {rel : List (List W64)}
theorem bldF_not {t : Tr} (ht : t.ok) : bldF ⟨4, 0, 0, 0, 0, 0⟩ [bT t] = bT (.un 4 0 0 0 t) := bld_un ht (by decide) rfl rfl rfl
end
/-- new blocks: some in front, the others behind -/
theorem St.gainPre {w0 w w' : World} {S : List Nat} {h : Hl} {Y : List (Nat × Obj)} (s : St w0 S w h Y) (e : Ex [] w w') {pre HR : Hl} (g : NewH w w' (pre ++ HR)) : St w0 S w' (pre ++ (h ++ HR)) Y := by
  refine (s.gainL e g).perm ?_
  rw [List.append_assoc]
  exact List.perm_append_comm.append_left pre
theorem GoH.permH {P : Program} {r : Option Nat} {f : FuncId} {R : Value → World → Prop} {w0 : World} {S : List Nat} {Y : List (Nat × Obj)} {n : Nat} {k : List Item} {l : Fl} {h h' : Hl} (hp : h.Perm h') (hg : GoH P r f R w0 S Y n k l h') : GoH P r f R w0 S Y n k l h := fun t w Ds hF hS => hg t w Ds hF (hS.perm hp)
end Go.Proofs.Wit
namespace Go.Proofs.Wit
open Go Go.RowKit
/-! the walks of rewriting: operands, rules, results -/
theorem mkQ_leaf {op i e g : Int} {a b : Tr} (hX : usX op = false) : mkQ op i e g a b = .leaf op i e g := mkT_leaf (n := ⟨op, i, e, g, 0, 0⟩) hX
theorem mkQ_un {op i e g : Int} {a b : Tr} (hX : usX op = true) (hY : usY op = false) : mkQ op i e g a b = .un op i e g a := mkT_un (n := ⟨op, i, e, g, 0, 0⟩) hX hY
theorem mkQ_bin {op i e g : Int} {a b : Tr} (hY : usY op = true) : mkQ op i e g a b = .bin op i e g a b := mkT_bin (n := ⟨op, i, e, g, 0, 0⟩) hY
theorem usX_cases {op : Int} (h : 1 ≤ op ∧ op ≤ 21) : op = 1 ∨ op = 2 ∨ op = 3 ∨ op = 4 ∨ op = 5 ∨ op = 6 ∨ op = 7 ∨ op = 8 ∨ op = 9 ∨ op = 10 ∨ op = 11 ∨ op = 12 ∨ op = 13 ∨ op = 14 ∨ op = 15 ∨ op = 16 ∨ op = 17 ∨ op = 18 ∨ op = 19 ∨ op = 20 ∨ op = 21 := by omega
/-- an operand, that is there if it is used -/
def Opd (w : World) (u : Bool) (x : FV) (t : Tr) : Prop := u = true → FA w x.a x.f ∧ x.f = bT t ∧ t.ok
theorem Opd.ex0 {w w' : World} {u : Bool} {x : FV} {t : Tr} (h : Opd w u x t) (e : Ex [] w w') : Opd w' u x t := fun hu => ⟨(h hu).1.ex0 e, (h hu).2⟩
theorem Opd.len {w : World} {u : Bool} {x : FV} {t : Tr} (h : Opd w u x t) (hu : u = true) : x.f.length ≤ maxLen := by
  rw [(h hu).2.1]; have := bT_le t; unfold maxLen; omega
theorem bldQ0 {op i e g i' e' g' : Int} {a b : Tr} (hop : 1 ≤ op ∧ op ≤ 21) (hX : usX op = false) (hf : fldE op i e g = 0) (hi : i' = i) (he : e' = e) (hg : g' = g) : bldF ⟨op, i', e', g', 0, 0⟩ [] = bT (mkQ op i e g a b) := by
  subst hi he hg
  rw [mkQ_leaf hX]; exact bld0 (n := ⟨op, _, _, _, 0, 0⟩) hop hX hf rfl rfl
theorem bldQ1 {op i e g i' e' g' : Int} {a b : Tr} {f : List NV} (hop : 1 ≤ op ∧ op ≤ 21) (hX : usX op = true) (hY : usY op = false) (hf : fldE op i e g = 0) (hi : i' = i) (he : e' = e) (hg : g' = g) (h : f = bT a ∧ a.ok) : bldF ⟨op, i', e', g', 0, 0⟩ [f] = bT (mkQ op i e g a b) := by
  subst hi he hg
  rw [mkQ_un hX hY, h.1]; exact bld_un h.2 hop hX hY hf
theorem bldQ2 {op i e g i' e' g' : Int} {a b : Tr} {f k : List NV} (hop : 1 ≤ op ∧ op ≤ 21) (hY : usY op = true) (hf : fldE op i e g = 0) (hi : i' = i) (he : e' = e) (hg : g' = g) (h : f = bT a ∧ a.ok) (h' : k = bT b ∧ b.ok) : bldF ⟨op, i', e', g', 0, 0⟩ [f, k] = bT (mkQ op i e g a b) := by
  subst hi he hg
  rw [mkQ_bin hY, h.1, h'.1]; exact bld_bin h.2 h'.2 hop hY hf
abbrev FV.z : FV := ⟨none, 0, []⟩
/-- what a rule returns: a new list, or one that it was given -/
def RvP (t : TypeId) (w w' : World) (v : Value) (a b : FV) (u : Tr) : Prop := ∃ fv : FV, v = fv.v ∧ fv.f = bT u ∧ (OwnN t w w' v fv.f ∨ fv = a ∨ fv = b)
theorem RvP.own {t : TypeId} {w w' : World} {v : Value} {a b : FV} {u : Tr} (h : OwnN t w w' v (bT u)) : RvP t w w' v a b u := by
  obtain ⟨q, cap, sp, h1, h2⟩ := h
  exact ⟨⟨q.map (fun b => ⟨b, 0, none⟩), cap, bT u⟩, by rw [h1]; cases q <;> rfl, rfl, .inl ⟨q, cap, sp, h1, h2⟩⟩
theorem FV.In.z {t : TypeId} {H : Hl} : FV.z.In t ((none, obN t [] []) :: H) := ⟨none, [], by simp, rfl, fun _ => ⟨rfl, rfl⟩, rfl⟩
theorem RvP.gain {t : TypeId} {w0 w w' : World} {S : List Nat} {h H : Hl} {Y : List (Nat × Obj)} {v : Value} {a b : FV} {u : Tr} (r : RvP t w w' v a b u) (s : St w0 S w h Y) (e : Ex [] w w') (ha : a.In t H ∨ a = FV.z) (hb : b.In t H ∨ b = FV.z) :
    ∃ (fv : FV) (p : Option Nat × Obj), v = fv.v ∧ fv.f = bT u ∧ St w0 S w' (p :: h) Y ∧ fv.In t (p :: H) := by
  obtain ⟨fv, h1, h2, h3⟩ := r
  have hz : ∀ x : FV, fv = x → x.In t H ∨ x = FV.z → fv.In t ((none, obN t [] []) :: H) := fun x e1 hx => by
    subst e1
    rcases hx with hx | rfl
    · exact hx.mono (fun _ h => List.mem_cons_of_mem _ h)
    · exact FV.In.z
  rcases h3 with h3 | h3 | h3
  · obtain ⟨q, cap, sp, e1, e2, e3, hS⟩ := gainN s e h3
    refine ⟨⟨q.map (fun b => ⟨b, 0, none⟩), cap, fv.f⟩, (q, obN t fv.f sp), by rw [e1]; cases q <;> rfl, h2, hS, q, sp, by simp, rfl, e2, e3⟩
  · exact ⟨fv, _, h1, h2, (s.later e).none _, hz a h3 ha⟩
  · exact ⟨fv, _, h1, h2, (s.later e).none _, hz b h3 hb⟩
/-- what a callee returned so, is returned -/
theorem RvP.keep {t : TypeId} {w0 w w' : World} {h : Hl} {Y : List (Nat × Obj)} {v : Value} {a b : FV} {u : Tr} (r : RvP t w w' v a b u) (s : St w0 [] w h Y) (e : Ex [] w w') :
    ∃ p : Option Nat × Obj, St w0 [] w' (p :: h) Y ∧ ∀ w'' Y'', St w0 [] w'' (p :: h) Y'' → RvP t w0 w'' v a b u := by
  obtain ⟨fv, h1, h2, h3⟩ := r
  rcases h3 with h3 | h3
  · obtain ⟨q, cap, sp, e1, e2, e3, hS⟩ := gainN s e h3
    refine ⟨_, hS, fun w'' Y'' hS2 => ⟨fv, h1, h2, .inl ?_⟩⟩
    rw [e1]
    exact OwnN.mk hS2 0 rfl rfl e2 e3
  · exact ⟨(none, obN t [] []), (s.later e).none _, fun _ _ _ => ⟨fv, h1, h2, .inr h3⟩⟩
/-- a function that does what a rule says -/
structure RulC (P : Program) (t : TypeId) (r : Rul) (gf : FuncId) (cs : List Value) (w0 : World) : Prop where
  enter : ∀ args w, (callFunc gf args).run P w = .ok (.enter gf args) w
  run : ∀ w, Ex [] w0 w → ∀ (n : NV) (a b : FV) (ta tb : Tr), (1 ≤ n.op ∧ n.op ≤ 21) → fldE n.op n.i n.e n.g = 0 → Opd w (usX n.op) a ta → Opd w (usY n.op) b tb → (usX n.op = true → a.f ≠ []) → (usY n.op = true → b.f ≠ []) → Cn P gf ([n.v, a.v, b.v] ++ cs) w (fun v w' => RvP t w w' v a b (r n.op n.i n.e n.g ta tb))
/-! negation normal forms -/
/-- of a formula, and of its negation -/
def nnT : Tr → Tr × Tr
  | .leaf op i e g => (.leaf op i e g, if op = 1 then cT 2 else if op = 2 then cT 1 else ntT (.leaf op i e g))
  | .un op i e g a =>
    if op = 4 then ((nnT a).2, (nnT a).1)
    else if op = 9 then (.un op i e g (nnT a).1, .un 10 i 0 0 (nnT a).2)
    else if op = 10 then (.un op i e g (nnT a).1, .un 9 i 0 0 (nnT a).2)
    else (.un op i e g (nnT a).1, ntT (.un op i e g (nnT a).1))
  | .bin op i e g a b =>
    if op = 5 then (.bin op i e g (nnT a).1 (nnT b).1, .bin 6 0 0 0 (nnT a).2 (nnT b).2)
    else if op = 6 then (.bin op i e g (nnT a).1 (nnT b).1, .bin 5 0 0 0 (nnT a).2 (nnT b).2)
    else if op = 7 then (.bin 6 0 0 0 (nnT a).2 (nnT b).1, .bin 5 0 0 0 (nnT a).1 (nnT b).2)
    else if op = 8 then (.bin 5 0 0 0 (.bin 6 0 0 0 (nnT a).2 (nnT b).1) (.bin 6 0 0 0 (nnT a).1 (nnT b).2), .bin 6 0 0 0 (.bin 5 0 0 0 (nnT a).1 (nnT b).2) (.bin 5 0 0 0 (nnT a).2 (nnT b).1))
    else (.bin op i e g (nnT a).1 (nnT b).1, ntT (.bin op i e g (nnT a).1 (nnT b).1))
theorem or_ok {a b : Tr} (ha : a.ok) (hb : b.ok) : (Tr.bin 6 0 0 0 a b).ok := ⟨by omega, rfl, rfl, ha, hb⟩
theorem knP_ok {op i : Int} {a : Tr} (ho : op = 9 ∨ op = 10) (hi : 0 ≤ i ∧ i < 4) (ha : a.ok) : (Tr.un op i 0 0 a).ok := un_ok ho hi.1 hi.2 ha
theorem nnT_ok : ∀ {t : Tr}, t.ok → (nnT t).1.ok ∧ (nnT t).2.ok
  | .leaf op i e g, h => by
    rw [nnT]
    refine ⟨h, ?_⟩
    dsimp only
    split
    · exact cT_ok (.inr rfl)
    · split
      · exact cT_ok (.inl rfl)
      · exact ntT_ok h
  | .un op i e g a, h => by
    obtain ⟨h1, h2⟩ := nnT_ok h.2.2.2.2
    have hme : (Tr.un op i e g (nnT a).1).ok := ⟨h.1, h.2.1, h.2.2.1, h.2.2.2.1, h1⟩
    rw [nnT]
    split
    · exact ⟨h2, h1⟩
    · split
      · rename_i h9; subst h9
        exact ⟨hme, knP_ok (.inr rfl) ((fldOk_of h.2.2.2.1).ag rfl) h2⟩
      · split
        · rename_i h9; subst h9
          exact ⟨hme, knP_ok (.inl rfl) ((fldOk_of h.2.2.2.1).ag rfl) h2⟩
        · exact ⟨hme, ntT_ok hme⟩
  | .bin op i e g a b, h => by
    obtain ⟨h1, h2⟩ := nnT_ok h.2.2.2.1
    obtain ⟨k1, k2⟩ := nnT_ok h.2.2.2.2
    have hme : (Tr.bin op i e g (nnT a).1 (nnT b).1).ok := ⟨h.1, h.2.1, h.2.2.1, h1, k1⟩
    rw [nnT]
    split
    · exact ⟨hme, or_ok h2 k2⟩
    · split
      · exact ⟨hme, and_ok h2 k2⟩
      · split
        · exact ⟨or_ok h2 k1, and_ok h1 k2⟩
        · split
          · exact ⟨and_ok (or_ok h2 k1) (or_ok h1 k2), or_ok (and_ok h1 k2) (and_ok h2 k1)⟩
          · exact ⟨hme, ntT_ok hme⟩
end Go.Proofs.Wit
