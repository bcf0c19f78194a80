/- Laws of walks, for any program, under the conditions that each theorem states. -/
import Derived.Test.YtlihcmknfdckdaaDoorT27
import Derived.Test.YtlihcmknfdckdaaDoorT14
import Derived.Test.YtlihcmknfdckdaaDoorT16
import Derived.Test.YtlihcmknfdckdaaDoorT02
import Derived.Test.YtlihcmknfdckdaaDoorT29
namespace Go.Proofs.Wit
open Go
/-! soundness of Hilbert's proofs -/
structure KM where
  n : Nat
  R : Nat → Nat → Nat → Prop
  V : Nat → Nat → Prop
  lt : ∀ k w u, w < n → R k w u → u < n
def KM.Gr (M : KM) (g : Nat) (w u : Nat) : Prop := ∃ k, k < 4 ∧ gb g k = 1 ∧ M.R k w u
inductive KM.Rch (M : KM) (g : Nat) (c : Nat → Bool) : Nat → Nat → Prop
  | one {w u : Nat} : M.Gr g w u → c u = true → KM.Rch M g c w u
  | step {w u v : Nat} : KM.Rch M g c w u → M.Gr g u v → c v = true → KM.Rch M g c w v
open Classical in
open Classical in
section
variable {M : KM}
open Classical in
open Classical in
open Classical in
open Classical in
structure FrK (M : KM) (l : Int) : Prop where
  t : hasL49 l 3 = true → ∀ k w, w < M.n → M.R k w w
  f : hasL49 l 4 = true → ∀ k w u v, w < M.n → M.R k w u → M.R k u v → M.R k w v
  v : hasL49 l 5 = true → ∀ k w u v, w < M.n → M.R k w u → M.R k w v → M.R k u v
  d : hasL49 l 6 = true → ∀ k w, w < M.n → ∃ u, M.R k w u
end
end Go.Proofs.Wit
namespace Go.Proofs.Wit
open Go Go.RowKit
/-! characteristic sets -/
section
variable {n : Nat} {val : List W64} {rel : List (List W64)}
structure PlnF (n : Nat) (val : List W64) (rel : List (List W64)) (f : List NV) (t : Tr) : Prop where
  chk : chkF f = 0
  fit : fitB f rel.length val.length = true
  frg : andN (frgL (compF f)) 1 = 0
  can : compF f = canT t
  top : topT f = t
  hold : holdE (n : Int) val rel f = 0
  ok : t.ok
end
end Go.Proofs.Wit
namespace Go.Proofs.Wit
open Go Go.RowKit
end Go.Proofs.Wit
namespace Go.Proofs.Wit
open Go
structure Emb (n1 : Nat) (v1 : List W64) (r1 : List (List W64)) (n : Nat) (v : List W64) (r : List (List W64)) (e : Nat → Nat) : Prop where
  n64 : n ≤ 64
  n64' : n1 ≤ 64
  lt : ∀ x, x < n1 → e x < n
  val : ∀ i x, x < n1 → ((v.getD i 0#64).getLsbD (e x) = true ↔ (v1.getD i 0#64).getLsbD x = true)
  fwd : ∀ i x y, x < n1 → Rl (r1.getD i []) x y → Rl (r.getD i []) (e x) (e y)
  bwd : ∀ i x z, x < n1 → Rl (r.getD i []) (e x) z → ∃ y, y < n1 ∧ z = e y ∧ Rl (r1.getD i []) x y
  lt1 : ∀ i x y, Rl (r1.getD i []) x y → y < n1
section
variable {n1 n : Nat} {v1 v : List W64} {r1 r : List (List W64)} {e : Nat → Nat}
end
end Go.Proofs.Wit
namespace Go.Proofs.Wit
open Go
/-! the union of two models: bisimulations -/
section
variable {na nb : Nat} {va vb : List W64} {ra rb : List (List W64)}
structure Two (na nb : Nat) (va vb : List W64) (ra rb : List (List W64)) : Prop where
  a : ValM (na : Int) va ra
  b : ValM (nb : Int) vb rb
  rl : ra.length = rb.length
  vl : va.length = vb.length
  le : na + nb ≤ 64
end
end Go.Proofs.Wit
namespace Go.Proofs.Wit
open Go Go.RowKit
/-! soundness: the models of the program -/
section
variable {n : Nat} {val : List W64} {rel : List (List W64)}
open Classical in
open Classical in
theorem frO_11b {op : Int} (ho : 1 ≤ op ∧ op ≤ 21) : andN (frO op).toNat 11 = 0 ↔ op ≤ 11 ∨ op = 13 :=
 op_cases (p := fun op => andN (frO op).toNat 11 = 0 ↔ op ≤ 11 ∨ op = 13) (by decide) ho
theorem formE_zero {f : List NV} : formE f = 0 ↔ chkF f = 0 ∧ allL (fun op _ _ => op ≤ 11 ∨ op = 13) (topT f) := by
 unfold formE
 by_cases h1 : chkF f = 0
 ·rw [if_neg (by simp [h1]), compF_eq h1, ← frg_has (chkF_zero.1 h1).top frO_11b]
  constructor
  ·intro h
   refine ⟨h1, Classical.byContradiction (fun h2 => ?_)⟩
   rw [if_pos h2] at h; exact absurd h (by decide)
  ·intro h; rw [if_neg (by simp [h.2])]
 ·rw [if_pos h1]; exact ⟨fun h => absurd h h1, fun h => absurd h.1 h1⟩
end
theorem checkH_zero {l : Int} {ls : List LV} : checkH l ls = 0 ↔ (0 ≤ l ∧ l ≤ 6) ∧ 0 < ls.length ∧ ls.length ≤ 400 ∧ ∀ (k : Nat) (hk : k < ls.length), lineE l ls k ls[k] = 0 := by
 have hs : ∀ {k : Nat}, linesE l ls k = 0 → ∀ hk : k < ls.length, linesE l ls (k + 1) = lineE l ls k ls[k] := fun {k} h hk => by
  show (if linesE l ls k ≠ 0 then linesE l ls k else match ls[k]? with | some x => lineE l ls k x | none => 0) = _
  rw [if_neg (by simp [h]), List.getElem?_eq_getElem hk]
 have hb : ∀ {k : Nat}, linesE l ls k ≠ 0 → linesE l ls (k + 1) = linesE l ls k := fun {k} h => by
  show (if linesE l ls k ≠ 0 then linesE l ls k else _) = _
  rw [if_pos h]
 have key : ∀ k, k ≤ ls.length → (linesE l ls k = 0 ↔ ∀ (j : Nat) (hj : j < ls.length), j < k → lineE l ls j ls[j] = 0) := by
  intro k
  induction k with
  | zero => exact fun _ => ⟨fun _ j _ h => absurd h (Nat.not_lt_zero _), fun _ => rfl⟩
  | succ k ih =>
   intro hk
   have ih := ih (by omega)
   constructor
   ·intro h
    have h0 : linesE l ls k = 0 := Classical.byContradiction (fun hne => hne (by rw [← hb hne]; exact h))
    intro j hj hjk
    by_cases e : j = k
    ·subst e; rw [← hs h0 hj]; exact h
    ·exact ih.1 h0 j hj (by omega)
   ·intro h
    have h0 := ih.2 (fun j hj hjk => h j hj (by omega))
    rw [hs h0 (by omega)]
    exact h k (by omega) (by omega)
 unfold checkH
 by_cases h1 : ¬ (0 ≤ l ∧ l ≤ 6)
 ·rw [if_pos h1]; exact ⟨fun h => absurd h (by decide), fun h => absurd h.1 h1⟩
 rw [if_neg h1]
 by_cases h2 : ls.length = 0
 ·rw [if_pos h2]; exact ⟨fun h => absurd h (by decide), fun h => absurd h.2.1 (by omega)⟩
 rw [if_neg h2]
 by_cases h3 : 400 < ls.length
 ·rw [if_pos h3]; exact ⟨fun h => absurd h (by decide), fun h => absurd h.2.2.1 (by omega)⟩
 rw [if_neg h3, key _ (Nat.le_refl _)]
 exact ⟨fun h => ⟨Classical.not_not.1 h1, by omega, by omega, fun k hk => h k hk hk⟩, fun h j hj _ => h.2.2.2 j hj⟩
theorem line_form {l : Int} {ls : List LV} (h : checkH l ls = 0) (k : Nat) (hk : k < ls.length) : formE ls[k].f.f = 0 := by
 have h4 := (checkH_zero.1 h).2.2.2 k hk
 unfold lineE at h4
 by_cases h1 : formE ls[k].f.f = 0
 ·exact h1
 ·rw [if_pos h1] at h4; exact h4
end Go.Proofs.Wit
namespace Go.Proofs.Wit
open Go Go.RowKit
/-! proofs without superfluous lines, and joined proofs -/
/-- what a line says -/
structure LD where
  f : List NV
  r : Int
  a : Int
  b : Int
  g : Int
def LV.d (x : LV) : LD := ⟨x.f.f, x.r, x.a, x.b, x.g⟩
def LD.v (x : LD) : LV := ⟨⟨none, 0, x.f⟩, x.r, x.a, x.b, x.g⟩
section
variable {l : Int} {ls ls' : List LV}
theorem dat_len (h : ls.map LV.d = ls'.map LV.d) : ls.length = ls'.length := by have := congrArg List.length h; simpa using this
theorem dat_at (h : ls.map LV.d = ls'.map LV.d) {k : Nat} (hk : k < ls.length) (hk' : k < ls'.length) : ls[k].d = ls'[k].d := by
 have h1 : (ls.map LV.d)[k]'(by simpa using hk) = (ls'.map LV.d)[k]'(by simpa using hk') := by simp only [h]
 simpa using h1
theorem lnT_dat (h : ls.map LV.d = ls'.map LV.d) (k : Int) : lnT ls k = lnT ls' k := by
 have e : ls.map (fun x => topT x.f.f) = ls'.map (fun x => topT x.f.f) := by
  have h1 : ∀ l : List LV, l.map (fun x => topT x.f.f) = (l.map LV.d).map (fun x => topT x.f) := fun l => by rw [List.map_map]; rfl
  rw [h1, h1, h]
 unfold lnT
 rw [e]
theorem FolP_dat (h : ls.map LV.d = ls'.map LV.d) {x y : LV} (e : x.d = y.d) : FolP ls x ↔ FolP ls' y := by
 obtain ⟨⟨xa, xc, xf⟩, xr, x1, x2, x3⟩ := x
 obtain ⟨⟨ya, yc, yf⟩, yr, y1, y2, y3⟩ := y
 simp only [LV.d, LD.mk.injEq] at e
 obtain ⟨rfl, rfl, rfl, rfl, rfl⟩ := e
 unfold FolP
 simp only [lnT_dat h]
theorem lineE_dat (h : ls.map LV.d = ls'.map LV.d) {i : Nat} {x y : LV} (e : x.d = y.d) : lineE l ls i x = lineE l ls' i y := by
 have h2 := FolP_dat h e
 have en : numE i x = numE i y := by
  obtain ⟨⟨xa, xc, xf⟩, xr, x1, x2, x3⟩ := x
  obtain ⟨⟨ya, yc, yf⟩, yr, y1, y2, y3⟩ := y
  simp only [LV.d, LD.mk.injEq] at e
  obtain ⟨rfl, rfl, rfl, rfl, rfl⟩ := e
  rfl
 have ef : x.f.f = y.f.f := congrArg LD.f e
 have er : x.r = y.r := congrArg LD.r e
 unfold lineE
 rw [en, ef, er]
 by_cases k : FolP ls x
 ·rw [if_pos k, if_pos (h2.1 k)]
 ·rw [if_neg k, if_neg (fun k' => k (h2.2 k'))]
theorem checkH_dat (h : ls.map LV.d = ls'.map LV.d) (h0 : checkH l ls = 0) : checkH l ls' = 0 := by
 obtain ⟨h1, h2, h3, h4⟩ := checkH_zero.1 h0
 have hl := dat_len h
 exact checkH_zero.2 ⟨h1, by omega, by omega, fun k hk => by
  have := h4 k (by omega)
  rw [← lineE_dat h (dat_at h (by omega) hk)]; exact this⟩
end
theorem lineE_zero {l : Int} {ls : List LV} {i : Nat} {x : LV} : lineE l ls i x = 0 ↔ formE x.f.f = 0 ∧ (1 ≤ x.r ∧ x.r ≤ 12) ∧ numE i x = 0 ∧ hasL49 l x.r = true ∧ FolP ls x := by
 constructor
 ·intro h
  unfold lineE at h
  by_cases h1 : formE x.f.f = 0
  rotate_left
  ·rw [if_pos h1] at h; exact absurd h h1
  rw [if_neg (by simp [h1])] at h
  by_cases h2 : x.r < 1 ∨ 12 < x.r
  ·rw [if_pos h2] at h; exact absurd h (by decide)
  rw [if_neg h2] at h
  by_cases h3 : numE i x = 0
  rotate_left
  ·rw [if_pos h3] at h; exact absurd h h3
  rw [if_neg (by simp [h3])] at h
  by_cases h4 : hasL49 l x.r = false
  ·rw [if_pos h4] at h; exact absurd h (by decide)
  rw [if_neg h4] at h
  by_cases h5 : FolP ls x
  rotate_left
  ·rw [if_neg h5] at h; exact absurd h (by decide)
  exact ⟨h1, by omega, h3, by simpa using h4, h5⟩
 ·rintro ⟨h1, h2, h3, h4, h5⟩
  exact lineE_ok h1 h2 h3 h4 h5
theorem numE_zero_iff {i : Int} {x : LV} (h1 : 1 ≤ x.r) (h12 : x.r ≤ 12) : numE i x = 0 ↔ ¬ numC1 x ∧ ¬ numC2 i x ∧ 0 ≤ x.g ∧ x.g < 4 := by
 constructor
 ·intro h
  have k1 : ¬ numC1 x := fun k => by rw [numE_3 h1 h12 (.inl k)] at h; exact absurd h (by decide)
  have k2 : ¬ numC2 i x := fun k => by rw [numE_3 h1 h12 (.inr k)] at h; exact absurd h (by decide)
  rw [numE_2 h1 h12 k1 k2] at h
  refine ⟨k1, k2, ?_⟩
  by_cases h3 : x.g < 0 ∨ x.g ≥ 4
  ·rw [if_pos h3] at h; exact absurd h (by decide)
  ·omega
 ·rintro ⟨k1, k2, k3⟩
  rw [numE_2 h1 h12 k1 k2, if_neg (by omega)]
/-! the lines that are needed -/
inductive NdP (ls : List LV) : Nat → Prop
  | last {k : Nat} : k + 1 = ls.length → NdP ls k
  | a {k : Nat} (hk : k < ls.length) : NdP ls k → 10 ≤ ls[k].r → NdP ls ls[k].a.toNat
  | b {k : Nat} (hk : k < ls.length) : NdP ls k → ls[k].r = 10 → NdP ls ls[k].b.toNat
open Classical in
def mvL (at_ : Int → Int) (x : LV) : LD := ⟨compF x.f.f, x.r, if 10 ≤ x.r then at_ x.a else x.a, if x.r = 10 then at_ x.b else x.b, x.g⟩
section
variable {l : Int} {ls : List LV}
theorem comp_top {f : List NV} (h : chkF f = 0) : topT (compF f) = topT f := topT_comp h
theorem comp_chk {f : List NV} (h : chkF f = 0) : chkF (compF f) = 0 := (CanF.compF h).chk
theorem formE_comp {f : List NV} (h : formE f = 0) : formE (compF f) = 0 := by
 obtain ⟨h1, h2⟩ := formE_zero.1 h
 exact formE_zero.2 ⟨comp_chk h1, by rw [comp_top h1]; exact h2⟩
theorem line_nums {i : Nat} {x : LV} (h : lineE l ls i x = 0) : (10 ≤ x.r → 0 ≤ x.a ∧ x.a < i) ∧ (x.r = 10 → 0 ≤ x.b ∧ x.b < i) := by
 obtain ⟨_, h2, h3, _⟩ := lineE_zero.1 h
 obtain ⟨_, k2, _⟩ := (numE_zero_iff h2.1 h2.2).1 h3
 unfold numC2 at k2
 exact ⟨fun _ => by omega, fun _ => by omega⟩
end
end Go.Proofs.Wit
namespace Go.Proofs.Wit
open Go Go.RowKit
/-! joined proofs -/
section
variable {l : Int} {ls a b : List LV}
theorem mv_line {J : List LV} {x : LV} {k q : Nat} {at_ : Int → Int} (h : lineE l ls k x = 0) (hp : ∀ y : Int, 0 ≤ y → y < k → 0 ≤ at_ y ∧ at_ y < q ∧ lnT J (at_ y) = lnT ls y) : lineE l J q (mvL at_ x).v = 0 := by
 obtain ⟨e1, e2, e3, e4, e5⟩ := lineE_zero.1 h
 obtain ⟨k1, k2, k3⟩ := (numE_zero_iff e2.1 e2.2).1 e3
 obtain ⟨na, nb⟩ := line_nums h
 have hck := (formE_zero.1 e1).1
 have pa : 10 ≤ x.r → _ := fun h10 => hp x.a (na h10).1 (na h10).2
 have pb : x.r = 10 → _ := fun h10 => hp x.b (nb h10).1 (nb h10).2
 have ht : topT (mvL at_ x).v.f.f = topT x.f.f := comp_top hck
 refine lineE_zero.2 ⟨formE_comp e1, e2, (numE_zero_iff (x := (mvL at_ x).v) e2.1 e2.2).2 ⟨?_, ?_, k3⟩, e4, ?_⟩
 ·unfold numC1 at k1 ⊢
  show ¬ ((x.r < 10 ∧ (if 10 ≤ x.r then at_ x.a else x.a) ≠ 0) ∨ (x.r ≠ 10 ∧ (if x.r = 10 then at_ x.b else x.b) ≠ 0) ∨ (x.r ≠ 11 ∧ x.g ≠ 0))
  rintro (⟨a1, a2⟩ | ⟨a1, a2⟩ | ⟨a1, a2⟩)
  ·rw [if_neg (by omega)] at a2; exact k1 (.inl ⟨a1, a2⟩)
  ·rw [if_neg a1] at a2; exact k1 (.inr (.inl ⟨a1, a2⟩))
  ·exact k1 (.inr (.inr ⟨a1, a2⟩))
 ·show ¬ ((10 ≤ x.r ∧ ((if 10 ≤ x.r then at_ x.a else x.a) < 0 ∨ (q : Int) ≤ (if 10 ≤ x.r then at_ x.a else x.a))) ∨ (x.r = 10 ∧ ((if x.r = 10 then at_ x.b else x.b) < 0 ∨ (q : Int) ≤ (if x.r = 10 then at_ x.b else x.b))))
  rintro (⟨a1, a2⟩ | ⟨a1, a2⟩)
  ·rw [if_pos a1] at a2; have := pa a1; omega
  ·rw [if_pos a1] at a2; have := pb a1; omega
 ·unfold FolP at e5 ⊢
  rw [ht]
  show if x.r = 10 then lnT _ (if x.r = 10 then at_ x.b else x.b) = imT (lnT _ (if 10 ≤ x.r then at_ x.a else x.a)) _ else if x.r = 11 then _ = kwT x.g (lnT _ (if 10 ≤ x.r then at_ x.a else x.a)) else if x.r = 12 then AxI (lnT _ (if 10 ≤ x.r then at_ x.a else x.a)) _ else InstT x.r _
  by_cases r10 : x.r = 10
  ·rw [if_pos r10] at e5 ⊢
   rw [if_pos r10, if_pos (by omega), (pb r10).2.2, (pa (by omega)).2.2]; exact e5
  rw [if_neg r10] at e5 ⊢
  by_cases r11 : x.r = 11
  ·rw [if_pos r11] at e5 ⊢
   rw [if_pos (by omega), (pa (by omega)).2.2]; exact e5
  rw [if_neg r11] at e5 ⊢
  by_cases r12 : x.r = 12
  ·rw [if_pos r12] at e5 ⊢
   rw [if_pos (by omega), (pa (by omega)).2.2]; exact e5
  rw [if_neg r12] at e5 ⊢
  exact e5
def lstT (ls : List LV) : Tr := lnT ls ((ls.length : Int) - 1)
def kdI : Tr → Tr
 | .bin _ _ _ _ _ b => b
 | t => t
def joiL (a b : List LV) : List LD := a.map (mvL id) ++ b.map (mvL (fun y => y + a.length)) ++ [⟨bT (kdI (lstT b)), 10, (a.length : Int) - 1, (a.length : Int) + b.length - 1, 0⟩]
noncomputable def joiE (l : Int) (a b : List LV) : Int := if checkH l a ≠ 0 then checkH l a else if checkH l b ≠ 0 then checkH l b else if lstT b ≠ imT (lstT a) (kdI (lstT b)) then 13 else if 400 < a.length + b.length + 1 then 8 else 0
theorem joi_len : (joiL a b).length = a.length + b.length + 1 := by simp [joiL]; omega
theorem joi_A {k : Nat} (hk : k < a.length) : (joiL a b)[k]? = some (mvL id a[k]) := by
 unfold joiL
 rw [List.append_assoc, List.getElem?_append_left (by simpa using hk)]
 simp [hk]
theorem joi_B {k : Nat} (hk : k < b.length) : (joiL a b)[a.length + k]? = some (mvL (fun y => y + a.length) b[k]) := by
 unfold joiL
 rw [List.append_assoc, List.getElem?_append_right (by simp), List.getElem?_append_left (by simp; omega)]
 simp [hk]
theorem joi_C : (joiL a b)[a.length + b.length]? = some ⟨bT (kdI (lstT b)), 10, (a.length : Int) - 1, (a.length : Int) + b.length - 1, 0⟩ := by
 unfold joiL
 rw [List.getElem?_append_right (by simp)]
 simp
theorem lnT_v {L : List LD} {k : Nat} {x : LD} (h : L[k]? = some x) {j : Int} (e : j = k) : lnT (L.map LD.v) j = topT x.f := by
 obtain ⟨hk, h2⟩ := List.getElem?_eq_some_iff.1 h
 rw [lnT_get (ls := L.map LD.v) (k := k) (by simpa using hk) e, List.getElem_map, h2]; rfl
theorem joi_check (ha : checkH l a = 0) (hb : checkH l b = 0) (hi : lstT b = imT (lstT a) (kdI (lstT b))) (hn : ¬ 400 < a.length + b.length + 1) : checkH l ((joiL a b).map LD.v) = 0 := by
 obtain ⟨a1, a2, a3, a4⟩ := checkH_zero.1 ha
 obtain ⟨b1, b2, b3, b4⟩ := checkH_zero.1 hb
 have hlen : ((joiL a b).map LD.v).length = a.length + b.length + 1 := by rw [List.length_map, joi_len]
 have hA : ∀ y : Int, 0 ≤ y → y < a.length → lnT ((joiL a b).map LD.v) y = lnT a y := fun y y0 y1 => by
  obtain ⟨k, rfl⟩ : ∃ k : Nat, y = (k : Int) := ⟨y.toNat, by omega⟩
  have hk : k < a.length := by omega
  rw [lnT_v (joi_A hk) rfl, lnT_get hk rfl]
  exact comp_top (formE_zero.1 (lineE_zero.1 (a4 k hk)).1).1
 have hB : ∀ y : Int, 0 ≤ y → y < b.length → lnT ((joiL a b).map LD.v) (y + a.length) = lnT b y := fun y y0 y1 => by
  obtain ⟨k, rfl⟩ : ∃ k : Nat, y = (k : Int) := ⟨y.toNat, by omega⟩
  have hk : k < b.length := by omega
  rw [lnT_v (joi_B hk) (by omega), lnT_get hk rfl]
  exact comp_top (formE_zero.1 (lineE_zero.1 (b4 k hk)).1).1
 refine checkH_zero.2 ⟨a1, by omega, by omega, fun q hq => ?_⟩
 have hg : ∀ x : LD, (joiL a b)[q]? = some x → ((joiL a b).map LD.v)[q] = x.v := fun x hx => by
  obtain ⟨h1, h2⟩ := List.getElem?_eq_some_iff.1 hx
  rw [List.getElem_map, h2]
 by_cases h1 : q < a.length
 ·rw [hg _ (joi_A h1)]
  exact mv_line (a4 q h1) (fun y y0 y1 => ⟨y0, y1, hA y y0 (by omega)⟩)
 by_cases h2 : q < a.length + b.length
 ·obtain ⟨k, rfl⟩ : ∃ k, q = a.length + k := ⟨q - a.length, by omega⟩
  have hk : k < b.length := by omega
  rw [hg _ (joi_B hk)]
  exact mv_line (b4 k hk) (fun y y0 y1 => ⟨by omega, by omega, hB y y0 (by omega)⟩)
 obtain rfl : q = a.length + b.length := by omega
 rw [hg _ joi_C]
 have hlb : b.length - 1 < b.length := by omega
 have hbl : lstT b = topT b[b.length - 1].f.f := lnT_get hlb (by omega)
 have hbf := (lineE_zero.1 (b4 _ hlb)).1
 obtain ⟨hbc, hbL⟩ := formE_zero.1 hbf
 rw [← hbl] at hbL
 have hbo : (lstT b).ok := by rw [hbl]; exact (chkF_zero.1 hbc).top
 have hbfit : Fit (lstT b) := by rw [hbl]; exact lf_fit hbc
 obtain ⟨Y, hY⟩ : ∃ Y, Y = kdI (lstT b) := ⟨_, rfl⟩
 rw [← hY] at hi ⊢
 rw [hi] at hbo hbfit hbL
 have hYo : Y.ok := hbo.2.2.2.2
 have hYf : Fit Y := hbfit.r
 have hcf : Cf (bT Y) Y := Cf.ofB hYo (bT_ne.2 hYf)
 refine lineE_zero.2 ⟨formE_zero.2 ⟨hcf.chk, by show allL _ (topT (bT Y)); rw [hcf.top]; exact hbL.2.2⟩, by show (1 : Int) ≤ 10 ∧ (10 : Int) ≤ 12; decide, (numE_zero_iff (by show (1 : Int) ≤ 10; decide) (by show (10 : Int) ≤ 12; decide)).2 ⟨?_, ?_, by show (0 : Int) ≤ 0; decide, by show (0 : Int) < 4; decide⟩, rfl, ?_⟩
 ·show ¬ (((10 : Int) < 10 ∧ (a.length : Int) - 1 ≠ 0) ∨ ((10 : Int) ≠ 10 ∧ (a.length : Int) + b.length - 1 ≠ 0) ∨ ((10 : Int) ≠ 11 ∧ (0 : Int) ≠ 0))
  omega
 ·show ¬ (((10 : Int) ≤ 10 ∧ ((a.length : Int) - 1 < 0 ∨ ((a.length + b.length : Nat) : Int) ≤ (a.length : Int) - 1)) ∨ ((10 : Int) = 10 ∧ ((a.length : Int) + b.length - 1 < 0 ∨ ((a.length + b.length : Nat) : Int) ≤ (a.length : Int) + b.length - 1)))
  omega
 ·show lnT _ ((a.length : Int) + b.length - 1) = imT (lnT _ ((a.length : Int) - 1)) (topT (bT Y))
  rw [hcf.top, show (a.length : Int) + b.length - 1 = ((b.length : Int) - 1) + a.length by omega, hB _ (by omega) (by omega), hA _ (by omega) (by omega)]
  exact hi
end
end Go.Proofs.Wit
namespace Go.Proofs.Wit
open Go Go.RowKit
/-! how the needed lines are found -/
def PmP (ls : List LV) (k j : Nat) : Prop := ∃ hk : k < ls.length, (10 ≤ ls[k].r ∧ j = ls[k].a.toNat) ∨ (ls[k].r = 10 ∧ j = ls[k].b.toNat)
structure UsI (ls : List LV) (i : Nat) (s : List Bool) : Prop where
  len : s.length = ls.length
  iff_ : ∀ j, j < ls.length → (sB s j = true ↔ (j + 1 = ls.length ∨ ∃ k, ls.length ≤ k + i ∧ k < ls.length ∧ NdP ls k ∧ PmP ls k j))
section
variable {l : Int} {ls : List LV} {i k : Nat} {s : List Bool}
end
end Go.Proofs.Wit
