/- Laws of walks, for any program, under the conditions that each theorem states. -/
import Derived.Test.YtlihcmknfdckdaaDoorR29
import Derived.Test.YtlihcmknfdckdaaDoorR17
import Derived.Test.YtlihcmknfdckdaaDoorR15
namespace Go.Proofs.Wit
open Go
/-! soundness of Hilbert's proofs -/
structure KM where
  n : Nat
  R : Nat → Nat → Nat → Prop
  V : Nat → Nat → Prop
  lt : ∀ k w u, w < n → R k w u → u < n
def KM.Gr (M : KM) (g : Nat) (w u : Nat) : Prop := ∃ k, k < 4 ∧ gb g k = 1 ∧ M.R k w u
inductive KM.Rch (M : KM) (g : Nat) (c : Nat → Bool) : Nat → Nat → Prop
  | one {w u : Nat} : M.Gr g w u → c u = true → KM.Rch M g c w u
  | step {w u v : Nat} : KM.Rch M g c w u → M.Gr g u v → c v = true → KM.Rch M g c w v
open Classical in
noncomputable def modB (M : KM) (op i g : Int) (A B : Nat → Bool) (w : Nat) : Bool :=
  if op = 9 then decide (∀ u, M.R i.toNat w u → A u = true)
  else if op = 10 then decide (∃ u, M.R i.toNat w u ∧ A u = true)
  else if op = 11 then decide (∀ u, M.Gr g.toNat w u → A u = true)
  else if op = 13 then decide (∀ u, M.Rch g.toNat A w u → B u = true)
  else false
open Classical in
noncomputable def sat (M : KM) : Tr → Nat → Bool
  | .leaf op i _ _, w => if lfB op = true then (if op = 3 then decide (M.V i.toNat w) else false) else cmbB op false false
  | .un op i _ g a, w => if lfB op = true then modB M op i g (sat M a) (fun _ => false) w else cmbB op (sat M a w) false
  | .bin op i _ g a b, w => if lfB op = true then modB M op i g (sat M a) (sat M b) w else cmbB op (sat M a w) (sat M b w)
section
variable {M : KM}
theorem Gr_lt {g w u : Nat} (hw : w < M.n) (h : M.Gr g w u) : u < M.n := by
  obtain ⟨k, _, _, h⟩ := h
  exact M.lt k w u hw h
theorem KM.Rch.lt {g w u : Nat} {c : Nat → Bool} (hw : w < M.n) (h : M.Rch g c w u) : u < M.n := by
  induction h with
  | one h _ => exact Gr_lt hw h
  | step _ h _ ih => exact Gr_lt ih h
theorem ev_sat {w : Nat} : ∀ {t : Tr}, evB (fun u => sat M u w) t = sat M t w
  | .leaf op i e g => by
    unfold evB
    split
    · rfl
    · rename_i h; unfold sat; rw [if_neg h]
  | .un op i e g a => by
    unfold evB
    split
    · rfl
    · rename_i h; conv => rhs; unfold sat
      rw [if_neg h, ev_sat (t := a)]
  | .bin op i e g a b => by
    unfold evB
    split
    · rfl
    · rename_i h; conv => rhs; unfold sat
      rw [if_neg h, ev_sat (t := a), ev_sat (t := b)]
theorem sat_im {a b : Tr} {w : Nat} : sat M (imT a b) w = true ↔ (sat M a w = true → sat M b w = true) := by
  show cmbB 7 (sat M a w) (sat M b w) = true ↔ _
  cases sat M a w <;> cases sat M b w <;> decide
theorem sat_ad {a b : Tr} {w : Nat} : sat M (adT a b) w = true ↔ (sat M a w = true ∧ sat M b w = true) := by
  show cmbB 5 (sat M a w) (sat M b w) = true ↔ _
  cases sat M a w <;> cases sat M b w <;> decide
theorem sat_if {a b : Tr} {w : Nat} : sat M (ifT a b) w = true ↔ (sat M a w = true ↔ sat M b w = true) := by
  show cmbB 8 (sat M a w) (sat M b w) = true ↔ _
  cases sat M a w <;> cases sat M b w <;> decide
theorem sat_nt {a : Tr} {w : Nat} : sat M (ntT a) w = true ↔ ¬ sat M a w = true := by
  show cmbB 4 (sat M a w) false = true ↔ _
  cases sat M a w <;> decide
open Classical in
theorem sat_kw {i : Int} {a : Tr} {w : Nat} : sat M (kwT i a) w = true ↔ ∀ u, M.R i.toNat w u → sat M a u = true := by
  show modB M 9 i 0 (sat M a) (fun _ => false) w = true ↔ _
  unfold modB; rw [if_pos rfl, decide_eq_true_eq]
open Classical in
theorem sat_po {i : Int} {a : Tr} {w : Nat} : sat M (poT i a) w = true ↔ ∃ u, M.R i.toNat w u ∧ sat M a u = true := by
  show modB M 10 i 0 (sat M a) (fun _ => false) w = true ↔ _
  unfold modB; rw [if_neg (by decide), if_pos rfl, decide_eq_true_eq]
open Classical in
theorem sat_ev {g : Int} {a : Tr} {w : Nat} : sat M (evT g a) w = true ↔ ∀ u, M.Gr g.toNat w u → sat M a u = true := by
  show modB M 11 0 g (sat M a) (fun _ => false) w = true ↔ _
  unfold modB; rw [if_neg (by decide), if_neg (by decide), if_pos rfl, decide_eq_true_eq]
open Classical in
theorem sat_co {g : Int} {a b : Tr} {w : Nat} : sat M (coT g a b) w = true ↔ ∀ u, M.Rch g.toNat (sat M a) w u → sat M b u = true := by
  show modB M 13 0 g (sat M a) (sat M b) w = true ↔ _
  unfold modB; rw [if_neg (by decide), if_neg (by decide), if_neg (by decide), if_pos rfl, decide_eq_true_eq]
theorem sat_conj {w : Nat} : ∀ {ts : List Tr}, sat M (conjT ts) w = true ↔ ∀ u ∈ ts, sat M u w = true
  | [] => ⟨fun _ u hu => (by cases hu), fun _ => rfl⟩
  | t :: ts => by
    have key : ∀ (l : List Tr) (a : Tr), sat M (l.foldl (fun a b => .bin 5 0 0 0 a b) a) w = true ↔ sat M a w = true ∧ ∀ u ∈ l, sat M u w = true := fun l => by
      induction l with
      | nil => exact fun a => ⟨fun h => ⟨h, fun u hu => (by cases hu)⟩, fun h => h.1⟩
      | cons b l ih =>
        intro a
        rw [List.foldl_cons, ih, List.forall_mem_cons]
        constructor
        · rintro ⟨h1, h2⟩; obtain ⟨h3, h4⟩ := sat_ad.1 h1; exact ⟨h3, h4, h2⟩
        · rintro ⟨h3, h4, h2⟩; exact ⟨sat_ad.2 ⟨h3, h4⟩, h2⟩
    show sat M (ts.foldl (fun a b => .bin 5 0 0 0 a b) t) w = true ↔ _
    rw [key, List.forall_mem_cons]
theorem sat_all {g : Nat} {x : Tr} {w : Nat} : sat M (allT g x) w = true ↔ ∀ u, M.Gr g w u → sat M x u = true := by
  unfold allT
  rw [sat_conj]
  constructor
  · rintro h u ⟨k, hk, hg, hr⟩
    have hm : kwT (k : Int) x ∈ kwL g 4 x := List.mem_map.2 ⟨k, List.mem_filter.2 ⟨List.mem_range.2 hk, by simpa using hg⟩, rfl⟩
    exact sat_kw.1 (h _ hm) u (by rw [Int.toNat_natCast]; exact hr)
  · intro h u hu
    obtain ⟨k, hk, rfl⟩ := List.mem_map.1 hu
    obtain ⟨h1, h2⟩ := List.mem_filter.1 hk
    rw [List.mem_range] at h1
    exact sat_kw.2 (fun v hv => h v ⟨k, h1, by simpa using h2, by rw [Int.toNat_natCast] at hv; exact hv⟩)
structure FrK (M : KM) (l : Int) : Prop where
  t : hasL49 l 3 = true → ∀ k w, w < M.n → M.R k w w
  f : hasL49 l 4 = true → ∀ k w u v, w < M.n → M.R k w u → M.R k u v → M.R k w v
  v : hasL49 l 5 = true → ∀ k w u v, w < M.n → M.R k w u → M.R k w v → M.R k u v
  d : hasL49 l 6 = true → ∀ k w, w < M.n → ∃ u, M.R k w u
def ValK (M : KM) (t : Tr) : Prop := ∀ w, w < M.n → sat M t w = true
theorem Rch_cons {g w u v : Nat} {c : Nat → Bool} (h1 : M.Gr g w u) (hc : c u = true) (h2 : M.Rch g c u v) : M.Rch g c w v := by
  induction h2 with
  | one h3 h4 => exact .step (.one h1 hc) h3 h4
  | step _ h3 h4 ih => exact .step ih h3 h4
theorem Rch_head {g w v : Nat} {c : Nat → Bool} (h : M.Rch g c w v) : ∃ u, M.Gr g w u ∧ c u = true ∧ (u = v ∨ M.Rch g c u v) := by
  induction h with
  | one h1 h2 => exact ⟨_, h1, h2, .inl rfl⟩
  | step _ h3 h4 ih =>
    obtain ⟨u, k1, k2, k3⟩ := ih
    refine ⟨u, k1, k2, .inr ?_⟩
    rcases k3 with rfl | k3
    · exact .one h3 h4
    · exact .step k3 h3 h4
theorem inst_val {l r : Int} {t : Tr} (hF : FrK M l) (h1 : hasL49 l r = true) (h2 : InstT r t) : ValK M t := by
  intro w hw
  unfold InstT at h2
  by_cases e1 : r = 1
  · rw [if_pos e1] at h2
    rw [← ev_sat]; exact h2.2 _
  rw [if_neg e1] at h2
  by_cases e2 : r = 2
  · rw [if_pos e2] at h2
    obtain ⟨i, x, y, rfl⟩ := h2
    exact sat_im.2 (fun k1 => sat_im.2 (fun k2 => sat_kw.2 (fun u hu => sat_im.1 (sat_kw.1 k1 u hu) (sat_kw.1 k2 u hu))))
  rw [if_neg e2] at h2
  by_cases e3 : r = 3
  · rw [if_pos e3] at h2; subst e3
    obtain ⟨i, x, rfl⟩ := h2
    exact sat_im.2 (fun k1 => sat_kw.1 k1 w (hF.t h1 _ w hw))
  rw [if_neg e3] at h2
  by_cases e4 : r = 4
  · rw [if_pos e4] at h2; subst e4
    obtain ⟨i, x, rfl⟩ := h2
    exact sat_im.2 (fun k1 => sat_kw.2 (fun u hu => sat_kw.2 (fun v hv => sat_kw.1 k1 v (hF.f h1 _ w u v hw hu hv))))
  rw [if_neg e4] at h2
  by_cases e5 : r = 5
  · rw [if_pos e5] at h2; subst e5
    obtain ⟨i, x, rfl⟩ := h2
    exact sat_im.2 (fun k1 => sat_kw.2 (fun u hu => sat_nt.2 (fun k2 => sat_nt.1 k1 (sat_kw.2 (fun v hv => sat_kw.1 k2 v (hF.v h1 _ w u v hw hu hv))))))
  rw [if_neg e5] at h2
  by_cases e6 : r = 6
  · rw [if_pos e6] at h2; subst e6
    obtain ⟨i, x, rfl⟩ := h2
    refine sat_im.2 (fun k1 => sat_nt.2 (fun k2 => ?_))
    obtain ⟨u, hu⟩ := hF.d h1 i.toNat w hw
    exact sat_nt.1 (sat_kw.1 k2 u hu) (sat_kw.1 k1 u hu)
  rw [if_neg e6] at h2
  by_cases e7 : r = 7
  · rw [if_pos e7] at h2
    obtain ⟨i, x, rfl⟩ := h2
    refine sat_if.2 ⟨fun k1 => sat_nt.2 (fun k2 => ?_), fun k1 => sat_po.2 (Classical.byContradiction (fun k2 => sat_nt.1 k1 (sat_kw.2 (fun u hu => sat_nt.2 (fun k3 => k2 ⟨u, hu, k3⟩)))))⟩
    obtain ⟨u, hu, k3⟩ := sat_po.1 k1
    exact sat_nt.1 (sat_kw.1 k2 u hu) k3
  rw [if_neg e7] at h2
  by_cases e8 : r = 8
  · rw [if_pos e8] at h2
    obtain ⟨g, x, rfl⟩ := h2
    exact sat_if.2 (sat_ev.trans sat_all.symm)
  rw [if_neg e8] at h2
  by_cases e9 : r = 9
  · rw [if_pos e9] at h2
    obtain ⟨g, x, y, rfl⟩ := h2
    refine sat_if.2 ⟨fun k1 => sat_ev.2 (fun u hu => sat_im.2 (fun k2 => sat_ad.2 ⟨sat_co.1 k1 u (.one hu k2), sat_co.2 (fun v hv => sat_co.1 k1 v (Rch_cons hu k2 hv))⟩)), fun k1 => sat_co.2 (fun v hv => ?_)⟩
    obtain ⟨u, h3, h4, h5⟩ := Rch_head hv
    obtain ⟨k2, k3⟩ := sat_ad.1 (sat_im.1 (sat_ev.1 k1 u h3) h4)
    rcases h5 with rfl | h5
    · exact k2
    · exact sat_co.1 k3 v h5
  rw [if_neg e9] at h2
  exact h2.elim
theorem ind_val {u t : Tr} (h : AxI u t) (hu : ValK M u) : ValK M t := by
  obtain ⟨z, g, x, y, rfl, rfl⟩ := h
  intro w hw
  refine sat_im.2 (fun k1 => sat_co.2 (fun v hv => ?_))
  have key : sat M y v = true ∧ sat M z v = true := by
    induction hv with
    | one h1 h2 =>
      exact sat_ad.1 (sat_im.1 (sat_ev.1 (sat_im.1 (hu _ hw) k1) _ h1) h2)
    | step h0 h1 h2 ih =>
      exact sat_ad.1 (sat_im.1 (sat_ev.1 (sat_im.1 (hu _ (h0.lt hw)) ih.2) _ h1) h2)
  exact key.1
theorem line_val {l : Int} {ls : List LV} {i : Nat} {x : LV} (hF : FrK M l) (hi : i < ls.length) (_hx : x = ls[i]) (h : lineE l ls i x = 0) (hb : ∀ (j : Nat) (hj : j < ls.length), j < i → ValK M (topT ls[j].f.f)) : ValK M (topT x.f.f) := by
  unfold lineE at h
  by_cases h1 : formE x.f.f = 0
  rotate_left
  · rw [if_pos h1] at h; exact absurd h h1
  rw [if_neg (by simp [h1])] at h
  by_cases h2 : x.r < 1 ∨ 12 < x.r
  · rw [if_pos h2] at h; exact absurd h (by decide)
  rw [if_neg h2] at h
  by_cases h3 : numE i x = 0
  rotate_left
  · rw [if_pos h3] at h; exact absurd h h3
  rw [if_neg (by simp [h3])] at h
  by_cases h4 : hasL49 l x.r = false
  · rw [if_pos h4] at h; exact absurd h (by decide)
  rw [if_neg h4] at h
  by_cases h5 : FolP ls x
  rotate_left
  · rw [if_neg h5] at h; exact absurd h (by decide)
  obtain ⟨ka, kb, _, kg⟩ := numE_zero h3
  have hp := premN_cases (r := x.r) (by omega) (by omega)
  unfold FolP at h5
  by_cases e10 : x.r = 10
  · rw [if_pos e10] at h5
    obtain ⟨a0, a1⟩ := badN_in ka (by omega)
    obtain ⟨b0, b1⟩ := badN_in kb (by omega)
    obtain ⟨ja, hja⟩ : ∃ j : Nat, x.a = (j : Int) := ⟨x.a.toNat, by omega⟩
    obtain ⟨jb, hjb⟩ : ∃ j : Nat, x.b = (j : Int) := ⟨x.b.toNat, by omega⟩
    rw [lnT_get (by omega) hja, lnT_get (by omega) hjb] at h5
    intro w hw
    have k1 := hb jb (by omega) (by omega) w hw
    rw [h5] at k1
    exact sat_im.1 k1 (hb ja (by omega) (by omega) w hw)
  rw [if_neg e10] at h5
  by_cases e11 : x.r = 11
  · rw [if_pos e11] at h5
    obtain ⟨a0, a1⟩ := badN_in ka (by omega)
    obtain ⟨ja, hja⟩ : ∃ j : Nat, x.a = (j : Int) := ⟨x.a.toNat, by omega⟩
    rw [lnT_get (by omega) hja] at h5
    intro w hw
    rw [h5]
    exact sat_kw.2 (fun u hu => hb ja (by omega) (by omega) u (M.lt _ w u hw hu))
  rw [if_neg e11] at h5
  by_cases e12 : x.r = 12
  · rw [if_pos e12] at h5
    obtain ⟨a0, a1⟩ := badN_in ka (by omega)
    obtain ⟨ja, hja⟩ : ∃ j : Nat, x.a = (j : Int) := ⟨x.a.toNat, by omega⟩
    rw [lnT_get (by omega) hja] at h5
    exact ind_val h5 (hb ja (by omega) (by omega))
  rw [if_neg e12] at h5
  exact inst_val hF (by simpa using h4) h5
end
end Go.Proofs.Wit
namespace Go.Proofs.Wit
open Go Go.RowKit
/-! characteristic sets -/
section
variable {n : Nat} {val : List W64} {rel : List (List W64)}
theorem allW_lt (hn : n ≤ 64) {i : Nat} (h : (allW n).getLsbD i = true) : i < n := by
  by_cases hi : i < 64
  · rw [allW_bit hn hi] at h; simpa using h
  · rw [BitVec.getLsbD_of_ge _ _ (by omega)] at h; cases h
theorem val_out (hv : ValM (n : Int) val rel) {i j : Nat} (h : (val.getD i 0#64).getLsbD j = true) : j < n := by
  have h64 := hv.n64
  have := hv.out
  rw [Int.toNat_natCast] at this
  exact (outB_rng (by omega)).1 this i j h
theorem bool_lt (hn : n ≤ 64) {op : Int} {x y : W64} (hx : ∀ j, x.getLsbD j = true → j < n) (hy : ∀ j, y.getLsbD j = true → j < n) : ∀ j, (boolW op x y (allW n)).getLsbD j = true → j < n := by
  intro j h
  unfold boolW at h
  split at h
  · exact allW_lt hn h
  split at h
  · rw [BitVec.getLsbD_and, Bool.and_eq_true] at h; exact allW_lt hn h.1
  split at h
  · rw [BitVec.getLsbD_and, Bool.and_eq_true] at h; exact hx j h.1
  split at h
  · rw [BitVec.getLsbD_or, Bool.or_eq_true] at h; exact h.elim (hx j) (hy j)
  split at h
  · rw [BitVec.getLsbD_or, Bool.or_eq_true, BitVec.getLsbD_and, Bool.and_eq_true] at h; exact h.elim (fun h => allW_lt hn h.1) (hy j)
  split at h
  · rw [BitVec.getLsbD_and, Bool.and_eq_true] at h; exact allW_lt hn h.1
  · simp at h
theorem one_lt (hv : ValM (n : Int) val rel) {op i g : Int} {x y : W64} (hx : ∀ j, x.getLsbD j = true → j < n) (hy : ∀ j, y.getLsbD j = true → j < n) : ∀ j, (oneW n val rel op i g x y).getLsbD j = true → j < n := by
  intro j h
  have h64 := hv.n64
  have hn : n ≤ 64 := by omega
  unfold oneW at h
  split at h
  · exact val_out hv h
  split at h
  · exact bool_lt hn hx hy j h
  split at h
  · exact ((boxW_bit hn).1 h).1
  split at h
  · rw [BitVec.getLsbD_and, Bool.and_eq_true] at h; exact allW_lt hn h.1
  split at h
  · exact ((boxW_bit hn).1 h).1
  split at h
  · exact ((boxW_bit hn).1 h).1
  · exact ((comW_bit hn (fun a b hr => joinL_lt (val_lt hv rfl) hr)).1 h).1
theorem zero_lt : ∀ j, (0#64 : W64).getLsbD j = true → j < n := fun j h => by simp at h
theorem sem_lt (hv : ValM (n : Int) val rel) : ∀ (t : Tr) (j : Nat), (semT n val rel t).getLsbD j = true → j < n
  | .leaf _op _i _e _g => one_lt hv zero_lt zero_lt
  | .un _op _i _e _g a => one_lt hv (sem_lt hv a) zero_lt
  | .bin _op _i _e _g a b => one_lt hv (sem_lt hv a) (sem_lt hv b)
structure PlnF (n : Nat) (val : List W64) (rel : List (List W64)) (f : List NV) (t : Tr) : Prop where
  chk : chkF f = 0
  fit : fitB f rel.length val.length = true
  frg : andN (frgL (compF f)) 1 = 0
  can : compF f = canT t
  top : topT f = t
  hold : holdE (n : Int) val rel f = 0
  ok : t.ok
end
end Go.Proofs.Wit
namespace Go.Proofs.Wit
open Go Go.RowKit
end Go.Proofs.Wit
namespace Go.Proofs.Wit
open Go
structure Emb (n1 : Nat) (v1 : List W64) (r1 : List (List W64)) (n : Nat) (v : List W64) (r : List (List W64)) (e : Nat → Nat) : Prop where
  n64 : n ≤ 64
  n64' : n1 ≤ 64
  lt : ∀ x, x < n1 → e x < n
  val : ∀ i x, x < n1 → ((v.getD i 0#64).getLsbD (e x) = true ↔ (v1.getD i 0#64).getLsbD x = true)
  fwd : ∀ i x y, x < n1 → Rl (r1.getD i []) x y → Rl (r.getD i []) (e x) (e y)
  bwd : ∀ i x z, x < n1 → Rl (r.getD i []) (e x) z → ∃ y, y < n1 ∧ z = e y ∧ Rl (r1.getD i []) x y
  lt1 : ∀ i x y, Rl (r1.getD i []) x y → y < n1
section
variable {n1 n : Nat} {v1 v : List W64} {r1 r : List (List W64)} {e : Nat → Nat}
end
end Go.Proofs.Wit
namespace Go.Proofs.Wit
open Go
/-! the union of two models: bisimulations -/
section
variable {na nb : Nat} {va vb : List W64} {ra rb : List (List W64)}
theorem ValM.rl {n : Nat} {val : List W64} {rel : List (List W64)} (h : ValM (n : Int) val rel) {i x y : Nat} (hr : Rl (rel.getD i []) x y) : i < rel.length ∧ x < n ∧ y < n := by
  have hi : i < rel.length := by
    rcases Nat.lt_or_ge i rel.length with h1 | h1
    · exact h1
    · have : rel.getD i [] = [] := by simp [List.getD_eq_getElem?_getD, List.getElem?_eq_none h1]
      rw [this] at hr; have := hr.dom; simp at this
  have hm : rel.getD i [] ∈ rel := by simp [List.getD_eq_getElem?_getD, hi]
  have h1 := h.len _ hm
  have h2 := (h.rels _ hm).lt _ _ hr
  have h3 := hr.dom
  exact ⟨hi, by omega, by omega⟩
structure Two (na nb : Nat) (va vb : List W64) (ra rb : List (List W64)) : Prop where
  a : ValM (na : Int) va ra
  b : ValM (nb : Int) vb rb
  rl : ra.length = rb.length
  vl : va.length = vb.length
  le : na + nb ≤ 64
end
end Go.Proofs.Wit
namespace Go.Proofs.Wit
open Go Go.RowKit
/-! soundness: the models of the program -/
section
variable {n : Nat} {val : List W64} {rel : List (List W64)}
def kmOf (hv : ValM (n : Int) val rel) : KM where
  n := n
  R := fun k w u => if k < rel.length then Rl (rel.getD k []) w u else w = u
  V := fun i w => (val.getD i 0#64).getLsbD w = true
  lt := fun k w u hw h => by
    split at h
    · exact (hv.rl h).2.2
    · exact h ▸ hw
theorem kmOf_r (hv : ValM (n : Int) val rel) {k w u : Nat} (hk : k < rel.length) : (kmOf hv).R k w u ↔ Rl (rel.getD k []) w u := by
  show (if k < rel.length then _ else _) ↔ _
  rw [if_pos hk]
theorem kmOf_id (hv : ValM (n : Int) val rel) {k w u : Nat} (hk : ¬ k < rel.length) : (kmOf hv).R k w u ↔ w = u := by
  show (if k < rel.length then _ else _) ↔ _
  rw [if_neg hk]
theorem propsL_has {l p : Int} (h : inM (n : Int) val rel l = true) (hp : p ∈ propsL l) {k : Nat} (hk : k < rel.length) : PropR p (rel.getD k []) := by
  obtain ⟨_, _, h3⟩ := inM_true.1 h
  have hm : rel.getD k [] ∈ rel := by rw [List.getD_eq_getElem?_getD, List.getElem?_eq_getElem hk]; exact List.getElem_mem hk
  exact (hasL_true.1 (h3 _ hm)).2.2 p hp
theorem frK_of {l : Int} (hv : ValM (n : Int) val rel) (h : inM (n : Int) val rel l = true) : FrK (kmOf hv) l := by
  have hlen : ∀ k, k < rel.length → (rel.getD k []).length = n := fun k hk => by
    have hm : rel.getD k [] ∈ rel := by rw [List.getD_eq_getElem?_getD, List.getElem?_eq_getElem hk]; exact List.getElem_mem hk
    have := hv.len _ hm; omega
  refine ⟨fun h3 k w hw => ?_, fun h4 k w u v hw h1 h2 => ?_, fun h5 k w u v hw h1 h2 => ?_, fun h6 k w hw => ?_⟩
  · by_cases hk : k < rel.length
    · have hl : l = 2 ∨ l = 4 ∨ l = 6 := by simpa [hasL49] using h3
      have : PropR 2 (rel.getD k []) := propsL_has h (by rcases hl with e | e | e <;> subst e <;> decide) hk
      exact (kmOf_r hv hk).2 ((show reflR _ from this) w (by rw [hlen k hk]; exact hw))
    · exact (kmOf_id hv hk).2 rfl
  · by_cases hk : k < rel.length
    · have hl : 3 ≤ l := by simpa [hasL49] using h4
      have hp0 := (inM_true.1 h).1
      have hl6 : l ≤ 6 := by unfold propsE at hp0; split at hp0 <;> first | omega | (exact absurd hp0 (by decide))
      have : PropR 4 (rel.getD k []) := propsL_has h (by rcases (by omega : l = 3 ∨ l = 4 ∨ l = 5 ∨ l = 6) with e | e | e | e <;> subst e <;> decide) hk
      exact (kmOf_r hv hk).2 ((show tranR _ from this) w u v ((kmOf_r hv hk).1 h1) ((kmOf_r hv hk).1 h2))
    · rw [kmOf_id hv hk] at h1 h2 ⊢; exact h1.trans h2
  · by_cases hk : k < rel.length
    · have hl : 5 ≤ l := by simpa [hasL49] using h5
      have hp0 := (inM_true.1 h).1
      have hl6 : l ≤ 6 := by unfold propsE at hp0; split at hp0 <;> first | omega | (exact absurd hp0 (by decide))
      have : PropR 5 (rel.getD k []) := propsL_has h (by rcases (by omega : l = 5 ∨ l = 6) with e | e <;> subst e <;> decide) hk
      exact (kmOf_r hv hk).2 ((show euclR _ from this) w u v ((kmOf_r hv hk).1 h1) ((kmOf_r hv hk).1 h2))
    · rw [kmOf_id hv hk] at h1 h2 ⊢; exact h1.symm.trans h2
  · by_cases hk : k < rel.length
    · have hl : l = 1 ∨ l = 5 := by simpa [hasL49] using h6
      have : PropR 1 (rel.getD k []) := propsL_has h (by rcases hl with e | e <;> subst e <;> decide) hk
      have hs : serR (rel.getD k []) := this
      have hwl : w < (rel.getD k []).length := by rw [hlen k hk]; exact hw
      refine Classical.byContradiction (fun hno => hs ?_)
      have hz : (rel.getD k []).getD w 0#64 = 0#64 := by
        refine BitVec.eq_of_getLsbD_eq (fun i hi => ?_)
        rw [BitVec.getLsbD_zero]
        cases e : ((rel.getD k []).getD w 0#64).getLsbD i with
        | false => rfl
        | true => exact absurd ⟨i, (kmOf_r hv hk).2 e⟩ hno
      rw [List.getD_eq_getElem?_getD (l := rel.getD k []), List.getElem?_eq_getElem hwl, Option.getD_some] at hz
      rw [← hz]; exact List.getElem_mem hwl
    · exact ⟨w, (kmOf_id hv hk).2 rfl⟩
def PrL (A B : Nat) (op i g : Int) : Prop := StatL A B op i g ∧ op ≠ 12
theorem gr_iff (hv : ValM (n : Int) val rel) {g : Nat} (hg : g < 2 ^ rel.length) {w u : Nat} (hw : w < n) : (kmOf hv).Gr g w u ↔ Rl (joinL n rel g) w u := by
  rw [joinL_bit]
  constructor
  · rintro ⟨k, hk, hgk, hr⟩
    have hkl : k < rel.length := by
      refine Classical.byContradiction (fun hno => ?_)
      have h1 : g < 2 ^ k := Nat.lt_of_lt_of_le hg (Nat.pow_le_pow_right (by decide) (by omega))
      have h2 : g / 2 ^ k = 0 := Nat.div_eq_of_lt h1
      have h3 : gb g k = 1 := hgk
      unfold gb at h3
      rw [h2] at h3; exact absurd h3 (by decide)
    exact ⟨hw, k, hkl, hgk, (kmOf_r hv hkl).1 hr⟩
  · rintro ⟨_, k, hk, hgk, hr⟩
    have := hv.agents
    exact ⟨k, by omega, hgk, (kmOf_r hv hk).2 hr⟩
theorem rch_iff (hv : ValM (n : Int) val rel) {g : Nat} (hg : g < 2 ^ rel.length) {c : W64} {C : Nat → Bool} (hc : ∀ u, u < n → (c.getLsbD u = true ↔ C u = true)) {w u : Nat} (hw : w < n) : (kmOf hv).Rch g C w u ↔ RchC (joinL n rel g) c w u := by
  have hlt : ∀ a b, Rl (joinL n rel g) a b → b < n := fun a b => joinL_lt (fun r hr => val_lt hv rfl r hr)
  constructor
  · intro h
    induction h with
    | one h1 h2 => exact .one ((gr_iff hv hg hw).1 h1) ((hc _ (Gr_lt (M := kmOf hv) hw h1)).2 h2)
    | step h0 h1 h2 ih =>
      have h3 := KM.Rch.lt (M := kmOf hv) hw h0
      exact .step ih ((gr_iff hv hg h3).1 h1) ((hc _ (Gr_lt (M := kmOf hv) h3 h1)).2 h2)
  · intro h
    induction h with
    | one h1 h2 => exact .one ((gr_iff hv hg hw).2 h1) ((hc _ (hlt _ _ h1)).1 h2)
    | step h0 h1 h2 ih => exact .step ih ((gr_iff hv hg (h0.lt hlt)).2 h1) ((hc _ (hlt _ _ h1)).1 h2)
open Classical in
theorem one_sat (hv : ValM (n : Int) val rel) {op i g : Int} {x y : W64} {A B : Nat → Bool} (ho : 1 ≤ op) (h : PrL rel.length val.length op i g) (hA : ∀ w, w < n → (x.getLsbD w = true ↔ A w = true)) (hB : ∀ w, w < n → (y.getLsbD w = true ↔ B w = true)) {w : Nat} (hw : w < n) (h3 : op ≠ 3) :
    (oneW n val rel op i g x y).getLsbD w = true ↔ (if lfB op = true then modB (kmOf hv) op i g A B w else cmbB op (A w) (B w)) = true := by
  have hn64 : n ≤ 64 := by have := hv.n64; omega
  obtain ⟨⟨h13, hfi, hff, hfg⟩, h12⟩ := h
  have hAe : x.getLsbD w = A w := by have := hA w hw; revert this; cases x.getLsbD w <;> cases A w <;> simp
  have hBe : y.getLsbD w = B w := by have := hB w hw; revert this; cases y.getLsbD w <;> cases B w <;> simp
  have hall := allW_has hn64 hw
  have hw64 : w < 64 := by omega
  by_cases h8 : op ≤ 8
  · have hlf : ¬ lfB op = true := by unfold lfB; simp; omega
    rw [if_neg hlf]
    unfold oneW
    rw [if_neg h3, if_pos h8]
    unfold boolW cmbB
    rcases (by omega : op = 1 ∨ op = 2 ∨ op = 4 ∨ op = 5 ∨ op = 6 ∨ op = 7 ∨ op = 8) with e | e | e | e | e | e | e <;> subst e <;> simp only [Int.reduceEq, reduceIte, BitVec.getLsbD_and, BitVec.getLsbD_or, BitVec.getLsbD_xor, BitVec.getLsbD_not, BitVec.getLsbD_zero, hAe, hBe, hall, hw64, decide_true]
    all_goals cases A w <;> cases B w <;> decide
  · have hlf : lfB op = true := by unfold lfB; simp; omega
    rw [if_pos hlf]
    unfold oneW modB
    rw [if_neg h3, if_neg h8]
    rcases (by omega : op = 9 ∨ op = 10 ∨ op = 11 ∨ op = 13) with e | e | e | e
    · subst e
      have hi := hfi rfl
      rw [if_pos rfl, if_pos rfl, boxW_bit hn64, decide_eq_true_eq]
      exact ⟨fun h u hu => (hA u ((kmOf hv).lt _ _ _ hw hu)).1 (h.2 u ((kmOf_r hv hi).1 hu)), fun h => ⟨hw, fun u hu => (hA u (hv.rl hu).2.2).2 (h u ((kmOf_r hv hi).2 hu))⟩⟩
    · subst e
      have hi := hfi rfl
      rw [if_neg (by decide), if_pos rfl, if_neg (by decide), if_pos rfl, bit_not hn64 hw, decide_eq_true_eq, Bool.not_eq_true', ← Bool.not_eq_true, boxW_bit hn64]
      constructor
      · intro h
        refine Classical.byContradiction (fun hno => h ⟨hw, fun u hu => ?_⟩)
        have hun := (hv.rl hu).2.2
        rw [bit_not hn64 hun]
        cases e : x.getLsbD u with
        | false => rfl
        | true => exact absurd ⟨u, (kmOf_r hv hi).2 hu, (hA u hun).1 e⟩ hno
      · rintro ⟨u, hu, hau⟩ ⟨_, hall2⟩
        have hu' := (kmOf_r hv hi).1 hu
        have hun := (hv.rl hu').2.2
        have := hall2 u hu'
        rw [bit_not hn64 hun, (hA u hun).2 hau] at this
        exact absurd this (by decide)
    · subst e
      rw [if_neg (by decide), if_neg (by decide), if_pos rfl, if_neg (by decide), if_neg (by decide), if_pos rfl, boxW_bit hn64, decide_eq_true_eq]
      exact ⟨fun h u hu => (hA u (Gr_lt (M := kmOf hv) hw hu)).1 (h.2 u ((gr_iff hv hfg hw).1 hu)), fun h => ⟨hw, fun u hu => (hA u (joinL_lt (fun r hr => val_lt hv rfl r hr) hu)).2 (h u ((gr_iff hv hfg hw).2 hu))⟩⟩
    · subst e
      have hlt : ∀ a b, Rl (joinL n rel g.toNat) a b → b < n := fun a b => joinL_lt (fun r hr => val_lt hv rfl r hr)
      rw [if_neg (by decide), if_neg (by decide), if_neg (by decide), if_neg (by decide), if_neg (by decide), if_neg (by decide), if_neg (by decide), if_pos rfl, comW_bit hn64 hlt, decide_eq_true_eq]
      exact ⟨fun h u hu => (hB u (KM.Rch.lt (M := kmOf hv) hw hu)).1 (h.2 u ((rch_iff hv hfg hA hw).1 hu)), fun h => ⟨hw, fun u hu => (hB u (hu.lt hlt)).2 (h u ((rch_iff hv hfg hA hw).2 hu))⟩⟩
open Classical in
theorem sem_sat (hv : ValM (n : Int) val rel) : ∀ {t : Tr}, t.ok → allL (PrL rel.length val.length) t → ∀ {w : Nat}, w < n → ((semT n val rel t).getLsbD w = true ↔ sat (kmOf hv) t w = true)
  | .leaf op i e g, hok, h, w, hw => by
    have hX := hok.2.1
    rw [usX_ge hok.1, decide_eq_false_iff_not] at hX
    by_cases h3 : op = 3
    · subst h3
      show (oneW n val rel 3 i g _ _).getLsbD w = true ↔ (if lfB 3 = true then (if (3 : Int) = 3 then _ else _) else _) = true
      rw [oneW, if_pos rfl, if_pos (by decide), if_pos rfl, decide_eq_true_eq]
      exact Iff.rfl
    · have hz : ∀ u, u < n → ((0#64 : W64).getLsbD u = true ↔ (fun _ : Nat => false) u = true) := fun u _ => by simp
      have := one_sat hv hok.1.1 h hz hz hw h3
      rw [show semT n val rel (.leaf op i e g) = oneW n val rel op i g 0#64 0#64 from rfl, this]
      unfold sat
      have hlf : ¬ lfB op = true := by unfold lfB; simp; omega
      rw [if_neg hlf, if_neg hlf]
  | .un op i e g a, hok, h, w, hw => by
    have hX := hok.2.1
    rw [usX_ge hok.1, decide_eq_true_eq] at hX
    have hz : ∀ u, u < n → ((0#64 : W64).getLsbD u = true ↔ (fun _ : Nat => false) u = true) := fun u _ => by simp
    exact one_sat hv hok.1.1 h.1 (fun u hu => sem_sat hv hok.2.2.2.2 h.2 hu) hz hw (by omega)
  | .bin op i e g a b, hok, h, w, hw => by
    have hX := usY_X hok.2.1
    rw [usX_ge hok.1, decide_eq_true_eq] at hX
    exact one_sat hv hok.1.1 h.1 (fun u hu => sem_sat hv hok.2.2.2.1 h.2.1 hu) (fun u hu => sem_sat hv hok.2.2.2.2 h.2.2 hu) hw (by omega)
theorem frO_11b {op : Int} (ho : 1 ≤ op ∧ op ≤ 21) : andN (frO op).toNat 11 = 0 ↔ op ≤ 11 ∨ op = 13 :=
  op_cases (p := fun op => andN (frO op).toNat 11 = 0 ↔ op ≤ 11 ∨ op = 13) (by decide) ho
theorem formE_zero {f : List NV} : formE f = 0 ↔ chkF f = 0 ∧ allL (fun op _ _ => op ≤ 11 ∨ op = 13) (topT f) := by
  unfold formE
  by_cases h1 : chkF f = 0
  · rw [if_neg (by simp [h1]), compF_eq h1, ← frg_has (chkF_zero.1 h1).top frO_11b]
    constructor
    · intro h
      refine ⟨h1, Classical.byContradiction (fun h2 => ?_)⟩
      rw [if_pos h2] at h; exact absurd h (by decide)
    · intro h; rw [if_neg (by simp [h.2])]
  · rw [if_pos h1]; exact ⟨fun h => absurd h h1, fun h => absurd h.1 h1⟩
theorem hold_form {m : Int} {f : List NV} (hv : ValM m val rel) (h1 : formE f = 0) (h2 : fitB f rel.length val.length = true) : holdE m val rel f = 0 := by
  obtain ⟨h3, h4⟩ := formE_zero.1 h1
  exact holdE_zero.2 ⟨hv, h3, allL_and (h4.mono (fun op _ _ h => by omega)) (fitB_iff.1 h2).2⟩
theorem sem_all (hv : ValM (n : Int) val rel) {f : List NV} (h1 : formE f = 0) (h2 : holdE (n : Int) val rel f = 0) (h : ValK (kmOf hv) (topT f)) : semT n val rel (topT f) = allW n := by
  have hn64 : n ≤ 64 := by have := hv.n64; omega
  obtain ⟨h3, h4⟩ := formE_zero.1 h1
  obtain ⟨_, _, h5⟩ := holdE_zero.1 h2
  have hok := (chkF_zero.1 h3).top
  have hL : allL (PrL rel.length val.length) (topT f) := (allL_and h5 h4).mono (fun op i g h => ⟨h.1, by have := h.2; omega⟩)
  refine bits_ext (fun i hi => sem_lt hv _ _ hi) (fun i hi => (allW_iff hn64).1 hi) (fun i hi => ⟨fun _ => (allW_iff hn64).2 hi, fun _ => (sem_sat hv hok hL hi).2 (h i hi)⟩)
end
/-! more logics -/
def morePs : List (Int × Int) := [(0, 1), (0, 2), (0, 3), (1, 5), (2, 4), (3, 4), (3, 5), (4, 6)]
theorem lineE_more {l l' : Int} {ls : List LV} {i : Nat} {x : LV} (h : ∀ r, hasL49 l r = true → hasL49 l' r = true) (h0 : lineE l ls i x = 0) : lineE l' ls i x = 0 := by
  unfold lineE at h0 ⊢
  by_cases h1 : formE x.f.f ≠ 0
  · rw [if_pos h1] at h0 ⊢; exact h0
  rw [if_neg h1] at h0 ⊢
  by_cases h2 : x.r < 1 ∨ 12 < x.r
  · rw [if_pos h2] at h0 ⊢; exact h0
  rw [if_neg h2] at h0 ⊢
  by_cases h3 : numE i x ≠ 0
  · rw [if_pos h3] at h0 ⊢; exact h0
  rw [if_neg h3] at h0 ⊢
  by_cases h4 : hasL49 l x.r = false
  · rw [if_pos h4] at h0; exact absurd h0 (by decide)
  rw [if_neg h4] at h0
  rw [if_neg (by rw [h x.r (by simpa using h4)]; simp)]
  exact h0
theorem checkH_zero {l : Int} {ls : List LV} : checkH l ls = 0 ↔ (0 ≤ l ∧ l ≤ 6) ∧ 0 < ls.length ∧ ls.length ≤ 400 ∧ ∀ (k : Nat) (hk : k < ls.length), lineE l ls k ls[k] = 0 := by
  have hs : ∀ {k : Nat}, linesE l ls k = 0 → ∀ hk : k < ls.length, linesE l ls (k + 1) = lineE l ls k ls[k] := fun {k} h hk => by
    show (if linesE l ls k ≠ 0 then linesE l ls k else match ls[k]? with | some x => lineE l ls k x | none => 0) = _
    rw [if_neg (by simp [h]), List.getElem?_eq_getElem hk]
  have hb : ∀ {k : Nat}, linesE l ls k ≠ 0 → linesE l ls (k + 1) = linesE l ls k := fun {k} h => by
    show (if linesE l ls k ≠ 0 then linesE l ls k else _) = _
    rw [if_pos h]
  have key : ∀ k, k ≤ ls.length → (linesE l ls k = 0 ↔ ∀ (j : Nat) (hj : j < ls.length), j < k → lineE l ls j ls[j] = 0) := by
    intro k
    induction k with
    | zero => exact fun _ => ⟨fun _ j _ h => absurd h (Nat.not_lt_zero _), fun _ => rfl⟩
    | succ k ih =>
      intro hk
      have ih := ih (by omega)
      constructor
      · intro h
        have h0 : linesE l ls k = 0 := Classical.byContradiction (fun hne => hne (by rw [← hb hne]; exact h))
        intro j hj hjk
        by_cases e : j = k
        · subst e; rw [← hs h0 hj]; exact h
        · exact ih.1 h0 j hj (by omega)
      · intro h
        have h0 := ih.2 (fun j hj hjk => h j hj (by omega))
        rw [hs h0 (by omega)]
        exact h k (by omega) (by omega)
  unfold checkH
  by_cases h1 : ¬ (0 ≤ l ∧ l ≤ 6)
  · rw [if_pos h1]; exact ⟨fun h => absurd h (by decide), fun h => absurd h.1 h1⟩
  rw [if_neg h1]
  by_cases h2 : ls.length = 0
  · rw [if_pos h2]; exact ⟨fun h => absurd h (by decide), fun h => absurd h.2.1 (by omega)⟩
  rw [if_neg h2]
  by_cases h3 : 400 < ls.length
  · rw [if_pos h3]; exact ⟨fun h => absurd h (by decide), fun h => absurd h.2.2.1 (by omega)⟩
  rw [if_neg h3, key _ (Nat.le_refl _)]
  exact ⟨fun h => ⟨Classical.not_not.1 h1, by omega, by omega, fun k hk => h k hk hk⟩, fun h j hj _ => h.2.2.2 j hj⟩
theorem more_ok {p : Int × Int} (hp : p ∈ morePs) {ls : List LV} (h : checkH p.1 ls = 0) : checkH p.2 ls = 0 := by
  have key : (∀ r, hasL49 p.1 r = true → hasL49 p.2 r = true) ∧ 0 ≤ p.2 ∧ p.2 ≤ 6 := by
    unfold morePs at hp
    simp only [List.mem_cons, List.not_mem_nil, or_false] at hp
    have hh : ∀ a b : Int, (∀ r : Int, r = 3 ∨ r = 4 ∨ r = 5 ∨ r = 6 → hasL49 a r = true → hasL49 b r = true) → ∀ r, hasL49 a r = true → hasL49 b r = true := fun a b h r hr => by
      by_cases e : r = 3 ∨ r = 4 ∨ r = 5 ∨ r = 6
      · exact h r e hr
      · unfold hasL49; rw [if_neg (by omega), if_neg (by omega), if_neg (by omega), if_neg (by omega)]
    rcases hp with rfl | rfl | rfl | rfl | rfl | rfl | rfl | rfl <;> refine ⟨hh _ _ (fun r hr => ?_), by decide, by decide⟩ <;> rcases hr with rfl | rfl | rfl | rfl <;> decide
  obtain ⟨_, h2, h3, h4⟩ := checkH_zero.1 h
  exact checkH_zero.2 ⟨key.2, h2, h3, fun k hk => lineE_more key.1 (h4 k hk)⟩
theorem sound {l : Int} {ls : List LV} {M : KM} (hF : FrK M l) (h : checkH l ls = 0) : ∀ (k : Nat) (hk : k < ls.length), ValK M (topT ls[k].f.f) := by
  obtain ⟨_, _, _, h4⟩ := checkH_zero.1 h
  intro k
  induction k using Nat.strongRecOn with
  | _ k ih => exact fun hk => line_val hF hk rfl (h4 k hk) (fun j hj hjk => ih j hjk hj)
theorem line_form {l : Int} {ls : List LV} (h : checkH l ls = 0) (k : Nat) (hk : k < ls.length) : formE ls[k].f.f = 0 := by
  have h4 := (checkH_zero.1 h).2.2.2 k hk
  unfold lineE at h4
  by_cases h1 : formE ls[k].f.f = 0
  · exact h1
  · rw [if_pos h1] at h4; exact h4
end Go.Proofs.Wit
