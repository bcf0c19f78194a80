/- Laws of a calculus of walks, proved for any program: no condition beyond those that each theorem states. -/
import Derived.Test.YtcljmlnnfdaljaaDoorS38
namespace Go.Proofs.Wit
/-! partitions whose worlds agree on a set -/
structure Agr (n : Nat) (P : List Int) (s : W64) : Prop where
  len : P.length = n
  ok : OkP P
  inv : IvX n P s
theorem shr_eq {s : W64} {i j : Nat} (h : s.getLsbD i = s.getLsbD j) : (s >>> i) &&& 1#64 = (s >>> j) &&& 1#64 := by
  apply BitVec.eq_of_getLsbD_eq
  intro k hk
  rw [BitVec.getLsbD_and, BitVec.getLsbD_and, BitVec.getLsbD_ushiftRight, BitVec.getLsbD_ushiftRight]
  by_cases h0 : k = 0
  · subst h0; rw [Nat.add_zero, Nat.add_zero, h]
  · rw [show (1#64).getLsbD k = false from by rw [BitVec.getLsbD_one]; simp [h0]]; simp
theorem Agr.at {n : Nat} {P : List Int} {s : W64} (h : Agr n P s) {w : Nat} (hw : w < n) : 0 ≤ P.getD w 0 ∧ P.getD w 0 ≤ w ∧ (s >>> w) &&& 1#64 = (s >>> (P.getD w 0).toNat) &&& 1#64 := by
  have hl := h.len
  obtain ⟨h1, h2, h3⟩ := h.ok.low w (by omega)
  exact ⟨h1, h2, shr_eq (h.inv.iff hw (by omega) h3.symm)⟩
theorem val_lt {n : Int} {val : List W64} {rel : List (List W64)} (hv : ValM n val rel) {k : Nat} (hn : n = (k : Int)) : ∀ r ∈ rel, ∀ a b, Rl r a b → b < k := fun r hr a b h => by
  have h1 := (hv.rels r hr).lt a b h
  have h2 := hv.len r hr
  omega
theorem stat_ix {rl vl : Nat} {op i g : Int} (h : StatL rl vl op i g) : op = 9 ∨ op = 10 → i.toNat < rl := fun e => h.2.1 (by rcases e with rfl | rfl <;> rfl)
section
variable {m : Int} {n : Nat} {val : List W64} {rel : List (List W64)} {t : Tr}
theorem agr_psq (hv : ValM m val rel) (hn : m = (n : Int)) {rels : List (List W64)} (hsub : ∀ r ∈ rel, r ∈ rels) (hlt : ∀ r ∈ rels, ∀ a b, Rl r a b → b < n) (hs : allL (fun op i g => StatL rel.length val.length op i g ∧ (op = 12 → meetL n rel g.toNat ∈ rels)) t) : Agr n (psq n val rels (dep n val rels)) (semT n val rel t) := by
  have h1 := hv.n1
  have h64 := hv.n64
  exact ⟨psq_len _, psq_ok (by omega) _, sem_inv (by omega) hsub hlt (dep_spec (by omega) (by omega)).2.1 (hs.mono (fun _ _ _ h => ⟨stat_ix h.1, h.2⟩))⟩
theorem agr_crs (hv : ValM m val rel) (hn : m = (n : Int)) (hs : allL (fun op i g => StatL rel.length val.length op i g ∧ op ≠ 12) t) : Agr n (crs m val rel) (semT n val rel t) := by
  rw [crs_ok (checkM_zero.2 hv), hn, Int.toNat_natCast]
  exact agr_psq hv hn (fun _ h => h) (val_lt hv hn) (hs.mono (fun _ _ _ h => ⟨h.1, fun e => absurd e h.2⟩))
theorem ivx_rnds (hv : ValM m val rel) (hn : m = (n : Int)) (hw : t.wf) (hs : allL (fun op i g => StatL rel.length val.length op i g ∧ op ≤ 10) t) {k : Nat} (hk : depT t ≤ k) : IvX n (psq n val rel (min k n)) (semT n val rel t) := by
  have h1 := hv.n1
  have h64 := hv.n64
  have hq := hs.mono (q' := fun op i _ => op ≤ 10 ∧ (op = 9 ∨ op = 10 → i.toNat < rel.length)) (fun _ _ _ h => ⟨h.2, stat_ix h.1⟩)
  by_cases hd : depT t ≤ n
  · exact sem_dep (by omega) (val_lt hv hn) hw hq (by omega)
  · obtain ⟨h2, h3, _⟩ := dep_spec (val := val) (rels := rel) (n := n) (by omega) (by omega)
    have h4 := sem_dep (n := n) (val := val) (rel := rel) (by omega) (val_lt hv hn) hw hq (Nat.le_refl (depT t))
    have e1 := psq_stable h3 (n - dep n val rel)
    have e2 := psq_stable h3 (depT t - dep n val rel)
    rw [show dep n val rel + (n - dep n val rel) = n by omega] at e1
    rw [show dep n val rel + (depT t - dep n val rel) = depT t by omega] at e2
    rw [show min k n = n by omega, e1, ← e2]
    exact h4
theorem agr_rnds (hv : ValM m val rel) (hn : m = (n : Int)) (hw : t.wf) (hs : allL (fun op i g => StatL rel.length val.length op i g ∧ op ≤ 10) t) : Agr n (rnds m val rel (depT t)) (semT n val rel t) := by
  have h64 := hv.n64
  have hE : rndsE m val rel (depT t) = 0 := by rw [rndsE, if_neg (by simp [checkM_zero.2 hv]), if_neg (by omega)]
  have hr := ivx_rnds hv hn hw hs (Nat.le_refl (depT t))
  rw [rnds_ok hE, hn, Int.toNat_natCast, Int.toNat_natCast]
  exact ⟨psq_len _, psq_ok (by omega) _, hr⟩
end
/-! the groups of a formula's distributed knowledge -/
structure Grps (c : List NV) (k : Nat) (gs : List Int) : Prop where
  has : ∀ (i : Nat) (hi : i < c.length), i < k → c[i].op = 12 → c[i].g ∈ gs
  of : ∀ g ∈ gs, ∃ n ∈ c, n.op = 12 ∧ n.g = g
  nd : gs.Nodup
theorem Grps.nil {c : List NV} : Grps c 0 [] := ⟨fun _ _ h => absurd h (Nat.not_lt_zero _), fun _ h => (by cases h), List.nodup_nil⟩
theorem Grps.skip {c : List NV} {k : Nat} {gs : List Int} (h : Grps c k gs) (hk : k < c.length) (hs : c[k].op = 12 → c[k].g ∈ gs) : Grps c (k + 1) gs :=
  ⟨fun i hi hlt ho => by
    rcases Nat.lt_succ_iff_lt_or_eq.1 hlt with h1 | rfl
    · exact h.has i hi h1 ho
    · exact hs ho, h.of, h.nd⟩
theorem Grps.add {c : List NV} {k : Nat} {gs : List Int} (h : Grps c k gs) (hk : k < c.length) (ho : c[k].op = 12) (hn : c[k].g ∉ gs) : Grps c (k + 1) (gs ++ [c[k].g]) :=
  ⟨fun i hi hlt ho => by
    rcases Nat.lt_succ_iff_lt_or_eq.1 hlt with h1 | rfl
    · exact List.mem_append_left _ (h.has i hi h1 ho)
    · simp, fun g hg => by
    rcases List.mem_append.1 hg with h1 | h1
    · exact h.of g h1
    · rw [List.mem_singleton.1 h1]; exact ⟨_, List.getElem_mem hk, ho, rfl⟩, by
    rw [List.nodup_append]
    exact ⟨h.nd, by simp, fun a ha b hb => by rw [List.mem_singleton.1 hb]; rintro rfl; exact hn ha⟩⟩
def depL (c : List NV) (k : Nat) : List Int := (List.range k).map (fun i => (depT (treeAt c i) : Int))
theorem depL_len {c : List NV} {k : Nat} : (depL c k).length = k := by simp [depL]
theorem depL_succ {c : List NV} {k : Nat} : depL c (k + 1) = depL c k ++ [(depT (treeAt c k) : Int)] := by simp [depL, List.range_succ]
theorem depL_get {c : List NV} {i k : Nat} (h : i < k) : (depL c k).getD i 0 = depT (treeAt c i) := by simp [depL, List.getD_eq_getElem?_getD, h]
theorem depT_node {g : List NV} (ho : NodesOk g) {k : Nat} (hk : k < g.length) :
    depT (treeAt g k) = max (if usX g[k].op = true then depT (treeAt g g[k].x.toNat) else 0) (if usY g[k].op = true then depT (treeAt g g[k].y.toNat) else 0) + mdO g[k].op := by
  have ho2 := ho.ord k hk
  rw [treeAt_node hk (fun h => by have := ho2.1 h; omega) (fun h => by have := ho2.2 h; omega)]
  by_cases h1 : usY g[k].op = true
  · rw [mkT_bin h1, if_pos (usY_X h1), if_pos h1]; rfl
  · by_cases h2 : usX g[k].op = true
    · rw [mkT_un h2 (by simpa using h1), if_pos h2, if_neg h1]
      show _ + _ = _
      rw [Nat.max_zero]
    · rw [mkT_leaf (by simpa using h2), if_neg h2, if_neg h1]
      have h3 : mdO g[k].op = 0 := by
        have hop := (ho k hk).op
        have hx : usX g[k].op = false := by simpa using h2
        unfold mdO
        rw [if_neg]
        intro hc
        rw [show usX g[k].op = true from by simp only [usX, Bool.and_eq_true, decide_eq_true_eq]; omega] at hx
        cases hx
      rw [h3]; exact h3
theorem depT_at {g : List NV} (ho : NodesOk g) : ∀ {k : Nat}, k < g.length → depT (treeAt g k) ≤ k + 1 := by
  intro k
  induction k using Nat.strongRecOn with
  | _ k ih =>
    intro hk
    have ho2 := ho.ord k hk
    rw [depT_node ho hk]
    have hm : mdO g[k].op ≤ 1 := by unfold mdO; split <;> omega
    by_cases h1 : usX g[k].op = true
    · have hx := ho2.1 h1
      have i1 := ih g[k].x.toNat (by omega) (by omega)
      rw [if_pos h1]
      by_cases h2 : usY g[k].op = true
      · have hy := ho2.2 h2
        have i2 := ih g[k].y.toNat (by omega) (by omega)
        rw [if_pos h2]; omega
      · rw [if_neg h2]; omega
    · rw [if_neg h1, if_neg (fun h => h1 (usY_X h))]; omega
theorem blt_max {P : Program} {t ty : TypeId} {a b c : Int} (h : c = max a b) : Blt P .max #[t, t] ty [.int .i64 a, .int .i64 b] (.int .i64 c) := by
  intro cs w
  have e : (if b > a then b else a) = c := by rw [h]; split <;> omega
  simp [builtin, Builtin.max_, Builtin.max2, e]
/-- the modal depth that the reference says -/
def depF (f : List NV) : Int := if chkF f = 0 then (depT (topT f) : Int) else -1
end Go.Proofs.Wit
