/- Laws of a calculus of walks, proved for any program: no condition beyond those that each theorem states. -/
import Derived.Test.YtcljmlnnfdaljaaDoorS38
namespace Go.Proofs.Wit
/-! partitions whose worlds agree on a set -/
structure Agr (n : Nat) (P : List Int) (s : W64) : Prop where
  len : P.length = n
  ok : OkP P
  inv : IvX n P s
theorem shr_eq {s : W64} {i j : Nat} (h : s.getLsbD i = s.getLsbD j) : (s >>> i) &&& 1#64 = (s >>> j) &&& 1#64 := by
  apply BitVec.eq_of_getLsbD_eq
  intro k hk
  rw [BitVec.getLsbD_and, BitVec.getLsbD_and, BitVec.getLsbD_ushiftRight, BitVec.getLsbD_ushiftRight]
  by_cases h0 : k = 0
  · subst h0; rw [Nat.add_zero, Nat.add_zero, h]
  · rw [show (1#64).getLsbD k = false from by rw [BitVec.getLsbD_one]; simp [h0]]; simp
theorem Agr.at {n : Nat} {P : List Int} {s : W64} (h : Agr n P s) {w : Nat} (hw : w < n) : 0 ≤ P.getD w 0 ∧ P.getD w 0 ≤ w ∧ (s >>> w) &&& 1#64 = (s >>> (P.getD w 0).toNat) &&& 1#64 := by
  have hl := h.len
  obtain ⟨h1, h2, h3⟩ := h.ok.low w (by omega)
  exact ⟨h1, h2, shr_eq (h.inv.iff hw (by omega) h3.symm)⟩
theorem val_lt {n : Int} {val : List W64} {rel : List (List W64)} (hv : ValM n val rel) {k : Nat} (hn : n = (k : Int)) : ∀ r ∈ rel, ∀ a b, Rl r a b → b < k := fun r hr a b h => by
  have h1 := (hv.rels r hr).lt a b h
  have h2 := hv.len r hr
  omega
theorem stat_ix {rl vl : Nat} {op i g : Int} (h : StatL rl vl op i g) : op = 9 ∨ op = 10 → i.toNat < rl := fun e => h.2.1 (by rcases e with rfl | rfl <;> rfl)
section
variable {m : Int} {n : Nat} {val : List W64} {rel : List (List W64)} {t : Tr}
theorem agr_psq (hv : ValM m val rel) (hn : m = (n : Int)) {rels : List (List W64)} (hsub : ∀ r ∈ rel, r ∈ rels) (hlt : ∀ r ∈ rels, ∀ a b, Rl r a b → b < n) (hs : allL (fun op i g => StatL rel.length val.length op i g ∧ (op = 12 → meetL n rel g.toNat ∈ rels)) t) : Agr n (psq n val rels (dep n val rels)) (semT n val rel t) := by
  have h1 := hv.n1
  have h64 := hv.n64
  exact ⟨psq_len _, psq_ok (by omega) _, sem_inv (by omega) hsub hlt (dep_spec (by omega) (by omega)).2.1 (hs.mono (fun _ _ _ h => ⟨stat_ix h.1, h.2⟩))⟩
end
/-! the groups of a formula's distributed knowledge -/
structure Grps (c : List NV) (k : Nat) (gs : List Int) : Prop where
  has : ∀ (i : Nat) (hi : i < c.length), i < k → c[i].op = 12 → c[i].g ∈ gs
  of : ∀ g ∈ gs, ∃ n ∈ c, n.op = 12 ∧ n.g = g
  nd : gs.Nodup
theorem Grps.nil {c : List NV} : Grps c 0 [] := ⟨fun _ _ h => absurd h (Nat.not_lt_zero _), fun _ h => (by cases h), List.nodup_nil⟩
theorem Grps.skip {c : List NV} {k : Nat} {gs : List Int} (h : Grps c k gs) (hk : k < c.length) (hs : c[k].op = 12 → c[k].g ∈ gs) : Grps c (k + 1) gs :=
  ⟨fun i hi hlt ho => by
    rcases Nat.lt_succ_iff_lt_or_eq.1 hlt with h1 | rfl
    · exact h.has i hi h1 ho
    · exact hs ho, h.of, h.nd⟩
theorem Grps.add {c : List NV} {k : Nat} {gs : List Int} (h : Grps c k gs) (hk : k < c.length) (ho : c[k].op = 12) (hn : c[k].g ∉ gs) : Grps c (k + 1) (gs ++ [c[k].g]) :=
  ⟨fun i hi hlt ho => by
    rcases Nat.lt_succ_iff_lt_or_eq.1 hlt with h1 | rfl
    · exact List.mem_append_left _ (h.has i hi h1 ho)
    · simp, fun g hg => by
    rcases List.mem_append.1 hg with h1 | h1
    · exact h.of g h1
    · rw [List.mem_singleton.1 h1]; exact ⟨_, List.getElem_mem hk, ho, rfl⟩, by
    rw [List.nodup_append]
    exact ⟨h.nd, by simp, fun a ha b hb => by rw [List.mem_singleton.1 hb]; rintro rfl; exact hn ha⟩⟩
theorem agr_grp {m : Int} {n : Nat} {val : List W64} {rel : List (List W64)} {t : Tr} (hv : ValM m val rel) (hn : m = (n : Int)) (hok : t.ok) (hs : allL (StatL rel.length val.length) t) {gs : List Int} (hg : Grps (canT t) (canT t).length gs) :
    grpE m val rel gs = 0 ∧ Agr n (grpP m val rel gs) (semT n val rel t) := by
  have h64 := hv.n64
  have hag := hv.agents
  have hrng : ∀ g ∈ gs, 1 ≤ g ∧ g < (2 ^ rel.length : Nat) := fun g h => by
    obtain ⟨nd, h1, h2, rfl⟩ := hg.of g h
    have hf := (canT_nodes hok).fld nd h1
    have hs2 := (allL_can.1 hs nd h1).2.2.2
    have hgr : grO nd.op = true := by rw [h2]; rfl
    have := hf.gr hgr
    omega
  have hp4 : (2 : Nat) ^ rel.length ≤ 2 ^ 4 := Nat.pow_le_pow_right (by decide) hag
  have h16 : (2 : Nat) ^ 4 = 16 := by decide
  have hlen : gs.length ≤ 15 := by
    have hsub : gs ⊆ (List.range 15).map (fun i : Nat => ((i : Int) + 1)) := fun g h => by
      have := hrng g h
      rw [List.mem_map]
      exact ⟨(g - 1).toNat, by rw [List.mem_range]; omega, by omega⟩
    have := hg.nd.length_le_of_subset hsub
    simpa using this
  have hE : grpE m val rel gs = 0 := by
    rw [grpE, if_neg (by simp [checkM_zero.2 hv]), if_neg (by omega), if_neg (by rw [gbad_none (fun k hk => hrng _ (List.getElem_mem hk))]; simp)]
  refine ⟨hE, ?_⟩
  rw [grpP_ok hE, hn, Int.toNat_natCast]
  refine agr_psq hv hn (fun r h => List.mem_append_left _ h) (fun r hr a b h => ?_) (allL_can.2 (fun nd hnd => ⟨allL_can.1 hs nd hnd, fun e => ?_⟩))
  · rcases List.mem_append.1 hr with h1 | h1
    · exact val_lt hv hn r h1 a b h
    · obtain ⟨g, _, rfl⟩ := List.mem_map.1 h1
      have := (meetTo_val (n := n) (rel := rel) (g := g.toNat) (k := rel.length) (by omega)).lt a b h
      rwa [meetTo_len] at this
  · obtain ⟨i, hi, rfl⟩ := List.mem_iff_getElem.1 hnd
    exact List.mem_append_right _ (List.mem_map.2 ⟨_, hg.has i hi hi e, rfl⟩)
end Go.Proofs.Wit
