/- Laws of walks, for any program, under the conditions that each theorem states. -/
import Derived.Test.YtlihcmknfdckdaaDoorS28
import Derived.Test.YtlihcmknfdckdaaDoorS14
import Derived.Test.YtlihcmknfdckdaaDoorS16
import Derived.Test.YtlihcmknfdckdaaDoorS02
import Derived.Test.YtlihcmknfdckdaaDoorS30
namespace Go.Proofs.Wit
open Go
/-! soundness of Hilbert's proofs -/
structure KM where
  n : Nat
  R : Nat → Nat → Nat → Prop
  V : Nat → Nat → Prop
  lt : ∀ k w u, w < n → R k w u → u < n
def KM.Gr (M : KM) (g : Nat) (w u : Nat) : Prop := ∃ k, k < 4 ∧ gb g k = 1 ∧ M.R k w u
inductive KM.Rch (M : KM) (g : Nat) (c : Nat → Bool) : Nat → Nat → Prop
  | one {w u : Nat} : M.Gr g w u → c u = true → KM.Rch M g c w u
  | step {w u v : Nat} : KM.Rch M g c w u → M.Gr g u v → c v = true → KM.Rch M g c w v
open Classical in
open Classical in
section
variable {M : KM}
open Classical in
open Classical in
open Classical in
open Classical in
structure FrK (M : KM) (l : Int) : Prop where
  t : hasL49 l 3 = true → ∀ k w, w < M.n → M.R k w w
  f : hasL49 l 4 = true → ∀ k w u v, w < M.n → M.R k w u → M.R k u v → M.R k w v
  v : hasL49 l 5 = true → ∀ k w u v, w < M.n → M.R k w u → M.R k w v → M.R k u v
  d : hasL49 l 6 = true → ∀ k w, w < M.n → ∃ u, M.R k w u
end
end Go.Proofs.Wit
namespace Go.Proofs.Wit
open Go Go.RowKit
/-! characteristic sets -/
section
variable {n : Nat} {val : List W64} {rel : List (List W64)}
structure PlnF (n : Nat) (val : List W64) (rel : List (List W64)) (f : List NV) (t : Tr) : Prop where
  chk : chkF f = 0
  fit : fitB f rel.length val.length = true
  frg : andN (frgL (compF f)) 1 = 0
  can : compF f = canT t
  top : topT f = t
  hold : holdE (n : Int) val rel f = 0
  ok : t.ok
end
end Go.Proofs.Wit
namespace Go.Proofs.Wit
open Go Go.RowKit
end Go.Proofs.Wit
namespace Go.Proofs.Wit
open Go
structure Emb (n1 : Nat) (v1 : List W64) (r1 : List (List W64)) (n : Nat) (v : List W64) (r : List (List W64)) (e : Nat → Nat) : Prop where
  n64 : n ≤ 64
  n64' : n1 ≤ 64
  lt : ∀ x, x < n1 → e x < n
  val : ∀ i x, x < n1 → ((v.getD i 0#64).getLsbD (e x) = true ↔ (v1.getD i 0#64).getLsbD x = true)
  fwd : ∀ i x y, x < n1 → Rl (r1.getD i []) x y → Rl (r.getD i []) (e x) (e y)
  bwd : ∀ i x z, x < n1 → Rl (r.getD i []) (e x) z → ∃ y, y < n1 ∧ z = e y ∧ Rl (r1.getD i []) x y
  lt1 : ∀ i x y, Rl (r1.getD i []) x y → y < n1
section
variable {n1 n : Nat} {v1 v : List W64} {r1 r : List (List W64)} {e : Nat → Nat}
end
end Go.Proofs.Wit
namespace Go.Proofs.Wit
open Go
/-! the union of two models: bisimulations -/
section
variable {na nb : Nat} {va vb : List W64} {ra rb : List (List W64)}
structure Two (na nb : Nat) (va vb : List W64) (ra rb : List (List W64)) : Prop where
  a : ValM (na : Int) va ra
  b : ValM (nb : Int) vb rb
  rl : ra.length = rb.length
  vl : va.length = vb.length
  le : na + nb ≤ 64
end
end Go.Proofs.Wit
namespace Go.Proofs.Wit
open Go Go.RowKit
/-! soundness: the models of the program -/
section
variable {n : Nat} {val : List W64} {rel : List (List W64)}
open Classical in
open Classical in
theorem frO_11b {op : Int} (ho : 1 ≤ op ∧ op ≤ 21) : andN (frO op).toNat 11 = 0 ↔ op ≤ 11 ∨ op = 13 :=
 op_cases (p := fun op => andN (frO op).toNat 11 = 0 ↔ op ≤ 11 ∨ op = 13) (by decide) ho
theorem formE_zero {f : List NV} : formE f = 0 ↔ chkF f = 0 ∧ allL (fun op _ _ => op ≤ 11 ∨ op = 13) (topT f) := by
 unfold formE
 by_cases h1 : chkF f = 0
 ·rw [if_neg (by simp [h1]), compF_eq h1, ← frg_has (chkF_zero.1 h1).top frO_11b]
  constructor
  ·intro h
   refine ⟨h1, Classical.byContradiction (fun h2 => ?_)⟩
   rw [if_pos h2] at h; exact absurd h (by decide)
  ·intro h; rw [if_neg (by simp [h.2])]
 ·rw [if_pos h1]; exact ⟨fun h => absurd h h1, fun h => absurd h.1 h1⟩
end
theorem checkH_zero {l : Int} {ls : List LV} : checkH l ls = 0 ↔ (0 ≤ l ∧ l ≤ 6) ∧ 0 < ls.length ∧ ls.length ≤ 400 ∧ ∀ (k : Nat) (hk : k < ls.length), lineE l ls k ls[k] = 0 := by
 have hs : ∀ {k : Nat}, linesE l ls k = 0 → ∀ hk : k < ls.length, linesE l ls (k + 1) = lineE l ls k ls[k] := fun {k} h hk => by
  show (if linesE l ls k ≠ 0 then linesE l ls k else match ls[k]? with | some x => lineE l ls k x | none => 0) = _
  rw [if_neg (by simp [h]), List.getElem?_eq_getElem hk]
 have hb : ∀ {k : Nat}, linesE l ls k ≠ 0 → linesE l ls (k + 1) = linesE l ls k := fun {k} h => by
  show (if linesE l ls k ≠ 0 then linesE l ls k else _) = _
  rw [if_pos h]
 have key : ∀ k, k ≤ ls.length → (linesE l ls k = 0 ↔ ∀ (j : Nat) (hj : j < ls.length), j < k → lineE l ls j ls[j] = 0) := by
  intro k
  induction k with
  | zero => exact fun _ => ⟨fun _ j _ h => absurd h (Nat.not_lt_zero _), fun _ => rfl⟩
  | succ k ih =>
   intro hk
   have ih := ih (by omega)
   constructor
   ·intro h
    have h0 : linesE l ls k = 0 := Classical.byContradiction (fun hne => hne (by rw [← hb hne]; exact h))
    intro j hj hjk
    by_cases e : j = k
    ·subst e; rw [← hs h0 hj]; exact h
    ·exact ih.1 h0 j hj (by omega)
   ·intro h
    have h0 := ih.2 (fun j hj hjk => h j hj (by omega))
    rw [hs h0 (by omega)]
    exact h k (by omega) (by omega)
 unfold checkH
 by_cases h1 : ¬ (0 ≤ l ∧ l ≤ 6)
 ·rw [if_pos h1]; exact ⟨fun h => absurd h (by decide), fun h => absurd h.1 h1⟩
 rw [if_neg h1]
 by_cases h2 : ls.length = 0
 ·rw [if_pos h2]; exact ⟨fun h => absurd h (by decide), fun h => absurd h.2.1 (by omega)⟩
 rw [if_neg h2]
 by_cases h3 : 400 < ls.length
 ·rw [if_pos h3]; exact ⟨fun h => absurd h (by decide), fun h => absurd h.2.2.1 (by omega)⟩
 rw [if_neg h3, key _ (Nat.le_refl _)]
 exact ⟨fun h => ⟨Classical.not_not.1 h1, by omega, by omega, fun k hk => h k hk hk⟩, fun h j hj _ => h.2.2.2 j hj⟩
theorem line_form {l : Int} {ls : List LV} (h : checkH l ls = 0) (k : Nat) (hk : k < ls.length) : formE ls[k].f.f = 0 := by
 have h4 := (checkH_zero.1 h).2.2.2 k hk
 unfold lineE at h4
 by_cases h1 : formE ls[k].f.f = 0
 ·exact h1
 ·rw [if_pos h1] at h4; exact h4
end Go.Proofs.Wit
namespace Go.Proofs.Wit
open Go Go.RowKit
/-! proofs without superfluous lines, and joined proofs -/
/-- what a line says -/
structure LD where
  f : List NV
  r : Int
  a : Int
  b : Int
  g : Int
def LV.d (x : LV) : LD := ⟨x.f.f, x.r, x.a, x.b, x.g⟩
def LD.v (x : LD) : LV := ⟨⟨none, 0, x.f⟩, x.r, x.a, x.b, x.g⟩
section
variable {l : Int} {ls ls' : List LV}
theorem dat_len (h : ls.map LV.d = ls'.map LV.d) : ls.length = ls'.length := by have := congrArg List.length h; simpa using this
theorem dat_at (h : ls.map LV.d = ls'.map LV.d) {k : Nat} (hk : k < ls.length) (hk' : k < ls'.length) : ls[k].d = ls'[k].d := by
 have h1 : (ls.map LV.d)[k]'(by simpa using hk) = (ls'.map LV.d)[k]'(by simpa using hk') := by simp only [h]
 simpa using h1
theorem lnT_dat (h : ls.map LV.d = ls'.map LV.d) (k : Int) : lnT ls k = lnT ls' k := by
 have e : ls.map (fun x => topT x.f.f) = ls'.map (fun x => topT x.f.f) := by
  have h1 : ∀ l : List LV, l.map (fun x => topT x.f.f) = (l.map LV.d).map (fun x => topT x.f) := fun l => by rw [List.map_map]; rfl
  rw [h1, h1, h]
 unfold lnT
 rw [e]
theorem FolP_dat (h : ls.map LV.d = ls'.map LV.d) {x y : LV} (e : x.d = y.d) : FolP ls x ↔ FolP ls' y := by
 obtain ⟨⟨xa, xc, xf⟩, xr, x1, x2, x3⟩ := x
 obtain ⟨⟨ya, yc, yf⟩, yr, y1, y2, y3⟩ := y
 simp only [LV.d, LD.mk.injEq] at e
 obtain ⟨rfl, rfl, rfl, rfl, rfl⟩ := e
 unfold FolP
 simp only [lnT_dat h]
theorem lineE_dat (h : ls.map LV.d = ls'.map LV.d) {i : Nat} {x y : LV} (e : x.d = y.d) : lineE l ls i x = lineE l ls' i y := by
 have h2 := FolP_dat h e
 have en : numE i x = numE i y := by
  obtain ⟨⟨xa, xc, xf⟩, xr, x1, x2, x3⟩ := x
  obtain ⟨⟨ya, yc, yf⟩, yr, y1, y2, y3⟩ := y
  simp only [LV.d, LD.mk.injEq] at e
  obtain ⟨rfl, rfl, rfl, rfl, rfl⟩ := e
  rfl
 have ef : x.f.f = y.f.f := congrArg LD.f e
 have er : x.r = y.r := congrArg LD.r e
 unfold lineE
 rw [en, ef, er]
 by_cases k : FolP ls x
 ·rw [if_pos k, if_pos (h2.1 k)]
 ·rw [if_neg k, if_neg (fun k' => k (h2.2 k'))]
theorem checkH_dat (h : ls.map LV.d = ls'.map LV.d) (h0 : checkH l ls = 0) : checkH l ls' = 0 := by
 obtain ⟨h1, h2, h3, h4⟩ := checkH_zero.1 h0
 have hl := dat_len h
 exact checkH_zero.2 ⟨h1, by omega, by omega, fun k hk => by
  have := h4 k (by omega)
  rw [← lineE_dat h (dat_at h (by omega) hk)]; exact this⟩
end
theorem lineE_zero {l : Int} {ls : List LV} {i : Nat} {x : LV} : lineE l ls i x = 0 ↔ formE x.f.f = 0 ∧ (1 ≤ x.r ∧ x.r ≤ 12) ∧ numE i x = 0 ∧ hasL49 l x.r = true ∧ FolP ls x := by
 constructor
 ·intro h
  unfold lineE at h
  by_cases h1 : formE x.f.f = 0
  rotate_left
  ·rw [if_pos h1] at h; exact absurd h h1
  rw [if_neg (by simp [h1])] at h
  by_cases h2 : x.r < 1 ∨ 12 < x.r
  ·rw [if_pos h2] at h; exact absurd h (by decide)
  rw [if_neg h2] at h
  by_cases h3 : numE i x = 0
  rotate_left
  ·rw [if_pos h3] at h; exact absurd h h3
  rw [if_neg (by simp [h3])] at h
  by_cases h4 : hasL49 l x.r = false
  ·rw [if_pos h4] at h; exact absurd h (by decide)
  rw [if_neg h4] at h
  by_cases h5 : FolP ls x
  rotate_left
  ·rw [if_neg h5] at h; exact absurd h (by decide)
  exact ⟨h1, by omega, h3, by simpa using h4, h5⟩
 ·rintro ⟨h1, h2, h3, h4, h5⟩
  exact lineE_ok h1 h2 h3 h4 h5
theorem numE_zero_iff {i : Int} {x : LV} (h1 : 1 ≤ x.r) (h12 : x.r ≤ 12) : numE i x = 0 ↔ ¬ numC1 x ∧ ¬ numC2 i x ∧ 0 ≤ x.g ∧ x.g < 4 := by
 constructor
 ·intro h
  have k1 : ¬ numC1 x := fun k => by rw [numE_3 h1 h12 (.inl k)] at h; exact absurd h (by decide)
  have k2 : ¬ numC2 i x := fun k => by rw [numE_3 h1 h12 (.inr k)] at h; exact absurd h (by decide)
  rw [numE_2 h1 h12 k1 k2] at h
  refine ⟨k1, k2, ?_⟩
  by_cases h3 : x.g < 0 ∨ x.g ≥ 4
  ·rw [if_pos h3] at h; exact absurd h (by decide)
  ·omega
 ·rintro ⟨k1, k2, k3⟩
  rw [numE_2 h1 h12 k1 k2, if_neg (by omega)]
/-! the lines that are needed -/
inductive NdP (ls : List LV) : Nat → Prop
  | last {k : Nat} : k + 1 = ls.length → NdP ls k
  | a {k : Nat} (hk : k < ls.length) : NdP ls k → 10 ≤ ls[k].r → NdP ls ls[k].a.toNat
  | b {k : Nat} (hk : k < ls.length) : NdP ls k → ls[k].r = 10 → NdP ls ls[k].b.toNat
open Classical in
noncomputable def ndB (ls : List LV) (k : Nat) : Bool := decide (NdP ls k)
def cntP (p : Nat → Bool) (k : Nat) : Nat := ((List.range k).filter p).length
theorem cntP_succ {p : Nat → Bool} {k : Nat} : cntP p (k + 1) = cntP p k + (if p k = true then 1 else 0) := by
 unfold cntP
 rw [List.range_succ, List.filter_append, List.length_append]
 cases h : p k <;> simp [h]
theorem cntP_le {p : Nat → Bool} : ∀ {k : Nat}, cntP p k ≤ k
 | 0 => Nat.le_refl _
 | k + 1 => by have := cntP_le (p := p) (k := k); rw [cntP_succ]; split <;> omega
theorem cntP_mono {p : Nat → Bool} {j k : Nat} (h : j ≤ k) : cntP p j ≤ cntP p k := by
 induction h with
 | refl => exact Nat.le_refl _
 | step _ ih => rw [cntP_succ]; omega
theorem cntP_lt {p : Nat → Bool} {j k : Nat} (h : j < k) (hp : p j = true) : cntP p j < cntP p k := by
 have := cntP_mono (p := p) (show j + 1 ≤ k from h)
 rw [cntP_succ, if_pos hp] at this; omega
def mvL (at_ : Int → Int) (x : LV) : LD := ⟨compF x.f.f, x.r, if 10 ≤ x.r then at_ x.a else x.a, if x.r = 10 then at_ x.b else x.b, x.g⟩
noncomputable def plcN (ls : List LV) (k : Int) : Int := (cntP (ndB ls) k.toNat : Nat)
noncomputable def pruTo (ls : List LV) (k : Nat) : List LD := ((List.range k).filter (ndB ls)).map (fun i => mvL (plcN ls) (ls.getD i ⟨⟨none, 0, []⟩, 0, 0, 0, 0⟩))
noncomputable def pruL (ls : List LV) : List LD := pruTo ls ls.length
theorem pruTo_len {ls : List LV} {k : Nat} : (pruTo ls k).length = cntP (ndB ls) k := by simp [pruTo, cntP]
theorem pruTo_succ {ls : List LV} {k : Nat} (hk : k < ls.length) : pruTo ls (k + 1) = pruTo ls k ++ (if ndB ls k = true then [mvL (plcN ls) ls[k]] else []) := by
 unfold pruTo
 rw [List.range_succ, List.filter_append, List.map_append]
 cases h : ndB ls k <;> simp [h, List.getD_eq_getElem?_getD, hk]
theorem pruTo_at {ls : List LV} {k j : Nat} (hk : k ≤ ls.length) (hj : j < k) (h : ndB ls j = true) (hjl : j < ls.length) : ∃ hc : cntP (ndB ls) j < (pruTo ls k).length, (pruTo ls k)[cntP (ndB ls) j] = mvL (plcN ls) ls[j] := by
 induction k with
 | zero => omega
 | succ k ih =>
  have hlt : cntP (ndB ls) j < (pruTo ls (k + 1)).length := by rw [pruTo_len]; exact cntP_lt hj h
  refine ⟨hlt, ?_⟩
  have hs := pruTo_succ (ls := ls) (k := k) (by omega)
  by_cases e : j = k
  ·subst e
   rw [if_pos h] at hs
   have : (pruTo ls (j + 1))[cntP (ndB ls) j]? = some (mvL (plcN ls) ls[j]) := by
    rw [hs, List.getElem?_append_right (by rw [pruTo_len]; exact Nat.le_refl _), pruTo_len, Nat.sub_self]; rfl
   exact Option.some.inj ((List.getElem?_eq_getElem hlt).symm.trans this)
  ·obtain ⟨hc, he⟩ := ih (by omega) (by omega)
   have : (pruTo ls (k + 1))[cntP (ndB ls) j]? = some (mvL (plcN ls) ls[j]) := by
    rw [hs, List.getElem?_append_left hc, List.getElem?_eq_getElem hc, he]
   exact Option.some.inj ((List.getElem?_eq_getElem hlt).symm.trans this)
theorem cnt_at {p : Nat → Bool} {n q : Nat} (h : q < cntP p n) : ∃ j, j < n ∧ p j = true ∧ cntP p j = q := by
 induction n with
 | zero => exact absurd h (Nat.not_lt_zero _)
 | succ n ih =>
  rw [cntP_succ] at h
  by_cases h1 : q < cntP p n
  ·obtain ⟨j, h2, h3⟩ := ih h1; exact ⟨j, by omega, h3⟩
  ·by_cases h2 : p n = true
   ·rw [if_pos h2] at h; exact ⟨n, by omega, h2, by omega⟩
   ·rw [if_neg h2] at h; omega
section
variable {l : Int} {ls : List LV}
theorem ndB_iff {k : Nat} : ndB ls k = true ↔ NdP ls k := by unfold ndB; exact @decide_eq_true_iff _ (Classical.propDecidable _)
theorem comp_top {f : List NV} (h : chkF f = 0) : topT (compF f) = topT f := topT_comp h
theorem comp_chk {f : List NV} (h : chkF f = 0) : chkF (compF f) = 0 := (CanF.compF h).chk
theorem comp_comp {f : List NV} (h : chkF f = 0) : compF (compF f) = compF f := (CanF.compF h).comp
theorem formE_comp {f : List NV} (h : formE f = 0) : formE (compF f) = 0 := by
 obtain ⟨h1, h2⟩ := formE_zero.1 h
 exact formE_zero.2 ⟨comp_chk h1, by rw [comp_top h1]; exact h2⟩
theorem line_nums {i : Nat} {x : LV} (h : lineE l ls i x = 0) : (10 ≤ x.r → 0 ≤ x.a ∧ x.a < i) ∧ (x.r = 10 → 0 ≤ x.b ∧ x.b < i) := by
 obtain ⟨_, h2, h3, _⟩ := lineE_zero.1 h
 obtain ⟨_, k2, _⟩ := (numE_zero_iff h2.1 h2.2).1 h3
 unfold numC2 at k2
 exact ⟨fun _ => by omega, fun _ => by omega⟩
theorem pru_len (h : checkH l ls = 0) : 0 < (pruL ls).length ∧ (pruL ls).length ≤ ls.length := by
 have h2 := (checkH_zero.1 h).2.1
 refine ⟨?_, by rw [pruL, pruTo_len]; exact cntP_le⟩
 rw [pruL, pruTo_len]
 exact Nat.lt_of_le_of_lt (Nat.zero_le _) (cntP_lt (j := ls.length - 1) (by omega) (ndB_iff.2 (.last (by omega))))
theorem getD_map {α β : Type} {xs : List α} {g : α → β} {k : Nat} {d : β} (hk : k < xs.length) : (xs.map g).getD k d = g xs[k] := by simp [List.getD_eq_getElem?_getD, hk]
theorem pru_check (h : checkH l ls = 0) : checkH l ((pruL ls).map LD.v) = 0 := by
 obtain ⟨h1, h2, h3, h4⟩ := checkH_zero.1 h
 obtain ⟨hp0, hp1⟩ := pru_len h
 have hlen : ((pruL ls).map LD.v).length = (pruL ls).length := List.length_map ..
 refine checkH_zero.2 ⟨h1, by omega, by omega, fun q hq => ?_⟩
 have hq' : q < cntP (ndB ls) ls.length := by rw [← pruTo_len]; rw [hlen] at hq; exact hq
 obtain ⟨j, hj, hnd, rfl⟩ := cnt_at hq'
 obtain ⟨hc, he⟩ := pruTo_at (Nat.le_refl _) hj hnd hj
 have hx : ((pruL ls).map LD.v)[cntP (ndB ls) j] = (mvL (plcN ls) ls[j]).v := by
  rw [List.getElem_map]; exact congrArg LD.v he
 rw [hx]
 have hl := h4 j hj
 obtain ⟨e1, e2, e3, e4, e5⟩ := lineE_zero.1 hl
 obtain ⟨k1, k2, k3⟩ := (numE_zero_iff e2.1 e2.2).1 e3
 obtain ⟨na, nb⟩ := line_nums hl
 have hck := (formE_zero.1 e1).1
 have pl : ∀ y : Int, 0 ≤ y → y < j → NdP ls y.toNat → 0 ≤ plcN ls y ∧ plcN ls y < (cntP (ndB ls) j : Nat) ∧ lnT ((pruL ls).map LD.v) (plcN ls y) = lnT ls y := fun y y0 y1 hy => by
  have hyj : y.toNat < j := by omega
  have hyb := ndB_iff.2 hy
  have hlt := cntP_lt hyj hyb
  refine ⟨by unfold plcN; omega, by unfold plcN; omega, ?_⟩
  obtain ⟨hc2, he2⟩ := pruTo_at (ls := ls) (k := ls.length) (j := y.toNat) (Nat.le_refl _) (by omega) hyb (by omega)
  rw [lnT_get (ls := (pruL ls).map LD.v) (k := cntP (ndB ls) y.toNat) (by rw [hlen]; exact hc2) (j := plcN ls y) rfl, lnT_get (ls := ls) (k := y.toNat) (by omega) (by omega), List.getElem_map]
  rw [show (pruL ls)[cntP (ndB ls) y.toNat] = mvL (plcN ls) ls[y.toNat] from he2]
  have := (formE_zero.1 (lineE_zero.1 (h4 y.toNat (by omega))).1).1
  exact comp_top this
 have hndj := ndB_iff.1 hnd
 have pa : 10 ≤ ls[j].r → _ := fun h10 => pl ls[j].a (na h10).1 (na h10).2 (.a hj hndj h10)
 have pb : ls[j].r = 10 → _ := fun h10 => pl ls[j].b (nb h10).1 (nb h10).2 (.b hj hndj h10)
 have ht : topT (mvL (plcN ls) ls[j]).v.f.f = topT ls[j].f.f := comp_top hck
 refine lineE_zero.2 ⟨formE_comp e1, e2, (numE_zero_iff (x := (mvL (plcN ls) ls[j]).v) e2.1 e2.2).2 ⟨?_, ?_, k3⟩, e4, ?_⟩
 ·unfold numC1 at k1 ⊢
  show ¬ ((ls[j].r < 10 ∧ (if 10 ≤ ls[j].r then plcN ls ls[j].a else ls[j].a) ≠ 0) ∨ (ls[j].r ≠ 10 ∧ (if ls[j].r = 10 then plcN ls ls[j].b else ls[j].b) ≠ 0) ∨ (ls[j].r ≠ 11 ∧ ls[j].g ≠ 0))
  rintro (⟨a1, a2⟩ | ⟨a1, a2⟩ | ⟨a1, a2⟩)
  ·rw [if_neg (by omega)] at a2; exact k1 (.inl ⟨a1, a2⟩)
  ·rw [if_neg a1] at a2; exact k1 (.inr (.inl ⟨a1, a2⟩))
  ·exact k1 (.inr (.inr ⟨a1, a2⟩))
 ·show ¬ ((10 ≤ ls[j].r ∧ ((if 10 ≤ ls[j].r then plcN ls ls[j].a else ls[j].a) < 0 ∨ ((cntP (ndB ls) j : Nat) : Int) ≤ (if 10 ≤ ls[j].r then plcN ls ls[j].a else ls[j].a))) ∨ (ls[j].r = 10 ∧ ((if ls[j].r = 10 then plcN ls ls[j].b else ls[j].b) < 0 ∨ ((cntP (ndB ls) j : Nat) : Int) ≤ (if ls[j].r = 10 then plcN ls ls[j].b else ls[j].b))))
  rintro (⟨a1, a2⟩ | ⟨a1, a2⟩)
  ·rw [if_pos a1] at a2; have := pa a1; omega
  ·rw [if_pos a1] at a2; have := pb a1; omega
 ·unfold FolP at e5 ⊢
  rw [ht]
  show if ls[j].r = 10 then lnT _ (if ls[j].r = 10 then plcN ls ls[j].b else ls[j].b) = imT (lnT _ (if 10 ≤ ls[j].r then plcN ls ls[j].a else ls[j].a)) _ else if ls[j].r = 11 then _ = kwT ls[j].g (lnT _ (if 10 ≤ ls[j].r then plcN ls ls[j].a else ls[j].a)) else if ls[j].r = 12 then AxI (lnT _ (if 10 ≤ ls[j].r then plcN ls ls[j].a else ls[j].a)) _ else InstT ls[j].r _
  by_cases r10 : ls[j].r = 10
  ·rw [if_pos r10] at e5 ⊢
   rw [if_pos r10, if_pos (by omega), (pb r10).2.2, (pa (by omega)).2.2]; exact e5
  rw [if_neg r10] at e5 ⊢
  by_cases r11 : ls[j].r = 11
  ·rw [if_pos r11] at e5 ⊢
   rw [if_pos (by omega), (pa (by omega)).2.2]; exact e5
  rw [if_neg r11] at e5 ⊢
  by_cases r12 : ls[j].r = 12
  ·rw [if_pos r12] at e5 ⊢
   rw [if_pos (by omega), (pa (by omega)).2.2]; exact e5
  rw [if_neg r12] at e5 ⊢
  exact e5
theorem pru_last (h : checkH l ls = 0) : ∃ h1 : (pruL ls).length - 1 < (pruL ls).length, ∃ h2 : ls.length - 1 < ls.length, (pruL ls)[(pruL ls).length - 1] = mvL (plcN ls) ls[ls.length - 1] := by
 have h2 := (checkH_zero.1 h).2.1
 have hnd : ndB ls (ls.length - 1) = true := ndB_iff.2 (.last (by omega))
 obtain ⟨hc, he⟩ := pruTo_at (ls := ls) (k := ls.length) (j := ls.length - 1) (Nat.le_refl _) (by omega) hnd (by omega)
 have hl : (pruL ls).length - 1 = cntP (ndB ls) (ls.length - 1) := by
  rw [pruL, pruTo_len]
  have := cntP_succ (p := ndB ls) (k := ls.length - 1)
  rw [if_pos hnd, show ls.length - 1 + 1 = ls.length by omega] at this
  omega
 refine ⟨by have := (pru_len h).1; omega, by omega, ?_⟩
 have e3 : (pruL ls)[(pruL ls).length - 1]? = some (mvL (plcN ls) ls[ls.length - 1]) := by
  rw [hl]; exact (List.getElem?_eq_getElem hc).trans (congrArg some he)
 exact Option.some.inj ((List.getElem?_eq_getElem (by have := (pru_len h).1; omega)).symm.trans e3)
theorem pru_nd (h : checkH l ls = 0) {k : Nat} (hk : NdP ls k) : NdP ((pruL ls).map LD.v) (cntP (ndB ls) k) := by
 have h4 := (checkH_zero.1 h).2.2.2
 have hlen : ((pruL ls).map LD.v).length = (pruL ls).length := List.length_map ..
 have step : ∀ {k : Nat} (hk : k < ls.length), NdP ls k → ∃ hc : cntP (ndB ls) k < ((pruL ls).map LD.v).length, ((pruL ls).map LD.v)[cntP (ndB ls) k] = (mvL (plcN ls) ls[k]).v := fun {k} hk hnd => by
  obtain ⟨hc, he⟩ := pruTo_at (ls := ls) (k := ls.length) (j := k) (Nat.le_refl _) hk (ndB_iff.2 hnd) hk
  exact ⟨by rw [hlen]; exact hc, by rw [List.getElem_map]; exact congrArg LD.v he⟩
 induction hk with
 | @last k e =>
  refine .last ?_
  rw [hlen, pruL, pruTo_len, ← e, cntP_succ, if_pos (ndB_iff.2 (.last e))]
 | @a k hk hnd hr ih =>
  obtain ⟨hc, he⟩ := step hk hnd
  have hr' : 10 ≤ (((pruL ls).map LD.v)[cntP (ndB ls) k]).r := by rw [he]; exact hr
  have := NdP.a hc ih hr'
  rw [he] at this
  have e2 : (mvL (plcN ls) ls[k]).v.a = plcN ls ls[k].a := if_pos hr
  rw [e2] at this
  exact this
 | @b k hk hnd hr ih =>
  obtain ⟨hc, he⟩ := step hk hnd
  have hr' : (((pruL ls).map LD.v)[cntP (ndB ls) k]).r = 10 := by rw [he]; exact hr
  have := NdP.b hc ih hr'
  rw [he] at this
  have e2 : (mvL (plcN ls) ls[k]).v.b = plcN ls ls[k].b := if_pos hr
  rw [e2] at this
  exact this
theorem cntP_all {p : Nat → Bool} : ∀ {n : Nat}, (∀ j, j < n → p j = true) → ∀ k, k ≤ n → cntP p k = k
 | _, _, 0, _ => rfl
 | n, h, k + 1, hk => by rw [cntP_succ, cntP_all h k (by omega), if_pos (h k (by omega))]
theorem NdP_dat {ls' : List LV} (h : ls.map LV.d = ls'.map LV.d) {k : Nat} (hk : NdP ls k) : NdP ls' k := by
 have hl := dat_len h
 induction hk with
 | last e => exact .last (by omega)
 | @a k hk _ hr ih =>
  have e := dat_at h hk (by omega)
  have er : ls[k].r = (ls'[k]'(by omega)).r := congrArg LD.r e
  have ea : ls[k].a = (ls'[k]'(by omega)).a := congrArg LD.a e
  rw [ea]; exact .a (by omega) ih (by omega)
 | @b k hk _ hr ih =>
  have e := dat_at h hk (by omega)
  have er : ls[k].r = (ls'[k]'(by omega)).r := congrArg LD.r e
  have ea : ls[k].b = (ls'[k]'(by omega)).b := congrArg LD.b e
  rw [ea]; exact .b (by omega) ih (by omega)
theorem pru_again (h : checkH l ls = 0) {ls' : List LV} (hd : ls'.map LV.d = pruL ls) : pruL ls' = pruL ls := by
 have hd2 : ls'.map LV.d = ((pruL ls).map LD.v).map LV.d := by rw [hd, List.map_map]; exact (List.map_id _).symm
 have hc := checkH_dat hd2.symm (pru_check h)
 have hl : ls'.length = (pruL ls).length := by rw [← hd]; simp
 have hall : ∀ q, q < ls'.length → ndB ls' q = true := fun q hq => by
  have hq' : q < cntP (ndB ls) ls.length := by rw [← pruTo_len]; rw [hl] at hq; exact hq
  obtain ⟨j, hj, hnd, rfl⟩ := cnt_at hq'
  exact ndB_iff.2 (NdP_dat hd2.symm (pru_nd h (ndB_iff.1 hnd)))
 have hcnt := cntP_all hall
 have hL : (pruL ls').length = (pruL ls).length := by rw [pruL, pruTo_len, hcnt _ (Nat.le_refl _), hl]
 refine List.ext_getElem hL (fun q hq1 hq2 => ?_)
 have hq : q < ls'.length := by omega
 obtain ⟨hc1, he1⟩ := pruTo_at (ls := ls') (k := ls'.length) (j := q) (Nat.le_refl _) hq (hall q hq) hq
 have e0 : cntP (ndB ls') q = q := hcnt q (by omega)
 have e1 : (pruL ls')[q]? = some (mvL (plcN ls') ls'[q]) := by
  have := (List.getElem?_eq_getElem hc1).trans (congrArg some he1)
  rw [e0] at this; exact this
 have e2 : (pruL ls')[q] = mvL (plcN ls') ls'[q] := Option.some.inj ((List.getElem?_eq_getElem hq1).symm.trans e1)
 rw [e2]
 have e3 : ls'[q].d = (pruL ls)[q] := by
  have : (ls'.map LV.d)[q]'(by simpa using hq) = (pruL ls)[q] := by simp only [hd]
  simpa using this
 rw [← e3]
 have h4 := (checkH_zero.1 hc).2.2.2 q hq
 obtain ⟨na, nb⟩ := line_nums h4
 have hplc : ∀ y : Int, 0 ≤ y → y < q → plcN ls' y = y := fun y y0 y1 => by unfold plcN; rw [hcnt _ (by omega)]; omega
 have hcomp : compF ls'[q].f.f = ls'[q].f.f := by
  have : ls'[q].f.f = (pruL ls)[q].f := congrArg LD.f e3
  rw [this]
  have hq' : q < cntP (ndB ls) ls.length := by rw [← pruTo_len]; exact hq2
  obtain ⟨j, hj, hnd, e⟩ := cnt_at hq'
  obtain ⟨hc2, he2⟩ := pruTo_at (ls := ls) (k := ls.length) (j := j) (Nat.le_refl _) hj hnd hj
  have e5 : (pruL ls)[q]? = some (mvL (plcN ls) ls[j]) := by rw [← e]; exact (List.getElem?_eq_getElem hc2).trans (congrArg some he2)
  have e6 : (pruL ls)[q] = mvL (plcN ls) ls[j] := Option.some.inj ((List.getElem?_eq_getElem hq2).symm.trans e5)
  rw [e6]
  exact comp_comp (formE_zero.1 (lineE_zero.1 ((checkH_zero.1 h).2.2.2 j hj)).1).1
 show (⟨compF ls'[q].f.f, ls'[q].r, if 10 ≤ ls'[q].r then plcN ls' ls'[q].a else ls'[q].a, if ls'[q].r = 10 then plcN ls' ls'[q].b else ls'[q].b, ls'[q].g⟩ : LD) = ⟨ls'[q].f.f, ls'[q].r, ls'[q].a, ls'[q].b, ls'[q].g⟩
 rw [hcomp]
 congr 1
 ·split
  ·rename_i hr; exact hplc _ (na hr).1 (na hr).2
  ·rfl
 ·split
  ·rename_i hr; exact hplc _ (nb hr).1 (nb hr).2
  ·rfl
end
end Go.Proofs.Wit
namespace Go.Proofs.Wit
open Go Go.RowKit
/-! joined proofs -/
section
variable {l : Int} {ls a b : List LV}
def lstT (ls : List LV) : Tr := lnT ls ((ls.length : Int) - 1)
def kdI : Tr → Tr
 | .bin _ _ _ _ _ b => b
 | t => t
def joiL (a b : List LV) : List LD := a.map (mvL id) ++ b.map (mvL (fun y => y + a.length)) ++ [⟨bT (kdI (lstT b)), 10, (a.length : Int) - 1, (a.length : Int) + b.length - 1, 0⟩]
noncomputable def joiE (l : Int) (a b : List LV) : Int := if checkH l a ≠ 0 then checkH l a else if checkH l b ≠ 0 then checkH l b else if lstT b ≠ imT (lstT a) (kdI (lstT b)) then 13 else if 400 < a.length + b.length + 1 then 8 else 0
theorem joi_len : (joiL a b).length = a.length + b.length + 1 := by simp [joiL]; omega
end
end Go.Proofs.Wit
namespace Go.Proofs.Wit
open Go Go.RowKit
/-! how the needed lines are found -/
def PmP (ls : List LV) (k j : Nat) : Prop := ∃ hk : k < ls.length, (10 ≤ ls[k].r ∧ j = ls[k].a.toNat) ∨ (ls[k].r = 10 ∧ j = ls[k].b.toNat)
structure UsI (ls : List LV) (i : Nat) (s : List Bool) : Prop where
  len : s.length = ls.length
  iff_ : ∀ j, j < ls.length → (sB s j = true ↔ (j + 1 = ls.length ∨ ∃ k, ls.length ≤ k + i ∧ k < ls.length ∧ NdP ls k ∧ PmP ls k j))
def stA (x : LV) (s : List Bool) : List Bool := if 10 ≤ x.r then s.set x.a.toNat true else s
def stB' (x : LV) (s : List Bool) : List Bool := if x.r = 10 then s.set x.b.toNat true else s
section
variable {l : Int} {ls : List LV} {i k : Nat} {s : List Bool}
theorem UsI.init (h : 0 < ls.length) : UsI ls 0 ((List.replicate ls.length false).set (ls.length - 1) true) := by
 refine ⟨by simp, fun j hj => ?_⟩
 rw [sB_set (by simp; omega)]
 constructor
 ·intro h1
  by_cases e : j = ls.length - 1
  ·exact .inl (by omega)
  ·rw [if_neg e] at h1
   unfold sB at h1
   rw [List.getD_eq_getElem?_getD, List.getElem?_replicate] at h1
   split at h1 <;> cases h1
 ·rintro (h1 | ⟨k, h1, h2, _⟩)
  ·rw [if_pos (by omega)]
  ·omega
theorem UsI.nd (hc : checkH l ls = 0) (h : UsI ls i s) (hk : k + 1 + i = ls.length) : sB s k = true ↔ NdP ls k := by
 have h4 := (checkH_zero.1 hc).2.2.2
 rw [h.iff_ k (by omega)]
 constructor
 ·rintro (h1 | ⟨q, _, h2, h3, hq, h4 | h4⟩)
  ·exact .last h1
  ·rw [h4.2]; exact .a hq h3 h4.1
  ·rw [h4.2]; exact .b hq h3 h4.1
 ·intro hn
  cases hn with
  | last e => exact .inl e
  | @a q hq hn hr =>
   have := (line_nums (h4 q hq)).1 hr
   exact .inr ⟨q, by omega, hq, hn, hq, .inl ⟨hr, rfl⟩⟩
  | @b q hq hn hr =>
   have := (line_nums (h4 q hq)).2 hr
   exact .inr ⟨q, by omega, hq, hn, hq, .inr ⟨hr, rfl⟩⟩
theorem UsI.skip (hc : checkH l ls = 0) (h : UsI ls i s) (hk : k + 1 + i = ls.length) (hs : sB s k = false) : UsI ls (i + 1) s := by
 refine ⟨h.len, fun j hj => ?_⟩
 rw [h.iff_ j hj]
 constructor
 ·rintro (h1 | ⟨q, h1, h2⟩)
  ·exact .inl h1
  ·exact .inr ⟨q, by omega, h2⟩
 ·rintro (h1 | ⟨q, h1, h2, h3, h4⟩)
  ·exact .inl h1
  ·by_cases e : q = k
   ·subst e
    rw [(h.nd hc hk).2 h3] at hs; cases hs
   ·exact .inr ⟨q, by omega, h2, h3, h4⟩
theorem stA_len {x : LV} : (stA x s).length = s.length := by unfold stA; split <;> simp
theorem stB_len {x : LV} : (stB' x s).length = s.length := by unfold stB'; split <;> simp
theorem UsI.step (hc : checkH l ls = 0) (h : UsI ls i s) (hk : k + 1 + i = ls.length) (hkl : k < ls.length) (hs : sB s k = true) : UsI ls (i + 1) (stB' ls[k] (stA ls[k] s)) := by
 have h4 := (checkH_zero.1 hc).2.2.2 k hkl
 obtain ⟨na, nb⟩ := line_nums h4
 have hnd := (h.nd hc hk).1 hs
 refine ⟨by rw [stB_len, stA_len]; exact h.len, fun j hj => ?_⟩
 have hA : sB (stA ls[k] s) j = true ↔ (sB s j = true ∨ (10 ≤ ls[k].r ∧ j = ls[k].a.toNat)) := by
  unfold stA
  by_cases hr : 10 ≤ ls[k].r
  ·rw [if_pos hr, sB_set (by have := na hr; rw [h.len]; omega)]
   by_cases e : j = ls[k].a.toNat
   ·rw [if_pos e]; simp [e, hr]
   ·rw [if_neg e]; simp [e]
  ·rw [if_neg hr]; simp [hr]
 have hB : sB (stB' ls[k] (stA ls[k] s)) j = true ↔ (sB (stA ls[k] s) j = true ∨ (ls[k].r = 10 ∧ j = ls[k].b.toNat)) := by
  unfold stB'
  by_cases hr : ls[k].r = 10
  ·rw [if_pos hr, sB_set (by have := nb hr; rw [stA_len, h.len]; omega)]
   by_cases e : j = ls[k].b.toNat
   ·rw [if_pos e]; simp [e, hr]
   ·rw [if_neg e]; simp [e]
  ·rw [if_neg hr]; simp [hr]
 rw [hB, hA, h.iff_ j hj]
 constructor
 ·rintro (((h1 | ⟨q, h1, h2⟩) | h1) | h1)
  ·exact .inl h1
  ·exact .inr ⟨q, by omega, h2⟩
  ·exact .inr ⟨k, by omega, hkl, hnd, hkl, .inl h1⟩
  ·exact .inr ⟨k, by omega, hkl, hnd, hkl, .inr h1⟩
 ·rintro (h1 | ⟨q, h1, h2, h3, hq, h5⟩)
  ·exact .inl (.inl (.inl h1))
  ·by_cases e : q = k
   ·subst e
    rcases h5 with h5 | h5
    ·exact .inl (.inr h5)
    ·exact .inr h5
   ·exact .inl (.inl (.inr ⟨q, by omega, h2, h3, hq, h5⟩))
theorem UsI.done (_hc : checkH l ls = 0) (h : UsI ls ls.length s) {j : Nat} (hj : j < ls.length) : sB s j = ndB ls j := by
 have key : sB s j = true ↔ NdP ls j := by
  rw [h.iff_ j hj]
  constructor
  ·rintro (h1 | ⟨q, _, h2, h3, hq, h4 | h4⟩)
   ·exact .last h1
   ·rw [h4.2]; exact .a hq h3 h4.1
   ·rw [h4.2]; exact .b hq h3 h4.1
  ·intro hn
   cases hn with
   | last e => exact .inl e
   | @a q hq hn hr => exact .inr ⟨q, by omega, hq, hn, hq, .inl ⟨hr, rfl⟩⟩
   | @b q hq hn hr => exact .inr ⟨q, by omega, hq, hn, hq, .inr ⟨hr, rfl⟩⟩
 cases h1 : ndB ls j with
 | true => exact key.2 (ndB_iff.1 h1)
 | false =>
  cases h2 : sB s j with
  | false => rfl
  | true => rw [ndB_iff.2 (key.1 h2)] at h1; cases h1
noncomputable def plcL (ls : List LV) (i : Nat) : List Int := (List.range ls.length).map (fun j => if j < i ∧ ndB ls j = true then (cntP (ndB ls) j : Int) else 0)
theorem plcL_len : (plcL ls i).length = ls.length := by simp [plcL]
theorem plcL_zero : plcL ls 0 = List.replicate ls.length 0 := by
 apply List.ext_getElem (by simp [plcL])
 intro j h1 h2
 simp [plcL]
theorem plcL_skip (h : ndB ls i = false) : plcL ls (i + 1) = plcL ls i := by
 apply List.ext_getElem (by simp [plcL])
 intro j h1 h2
 simp only [plcL, List.getElem_map, List.getElem_range]
 by_cases e : j = i
 ·subst e; simp [h]
 ·have : j < i + 1 ↔ j < i := by omega
  simp only [this]
theorem plcL_set (_hi : i < ls.length) (h : ndB ls i = true) : (plcL ls i).set i (cntP (ndB ls) i : Int) = plcL ls (i + 1) := by
 apply List.ext_getElem (by simp [plcL])
 intro j h1 h2
 rw [List.getElem_set]
 simp only [plcL, List.getElem_map, List.getElem_range]
 by_cases e : i = j
 ·subst e; rw [if_pos rfl, if_pos ⟨by omega, h⟩]
 ·rw [if_neg e]
  have : j < i + 1 ↔ j < i := by omega
  simp only [this]
theorem plcL_get {y : Int} (h0 : 0 ≤ y) (hy : y < i) (hi : i ≤ ls.length) (hn : NdP ls y.toNat) : (plcL ls i).getD y.toNat 0 = plcN ls y := by
 have hyl : y.toNat < ls.length := by omega
 unfold plcL plcN
 rw [List.getD_eq_getElem?_getD, List.getElem?_map, List.getElem?_range hyl]
 show (if _ then _ else _) = _
 rw [if_pos ⟨by omega, ndB_iff.2 hn⟩]
end
end Go.Proofs.Wit
