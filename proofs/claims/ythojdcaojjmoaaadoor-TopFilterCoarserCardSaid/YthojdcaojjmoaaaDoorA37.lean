/- Laws of walks, for any program, under the conditions that each theorem states. -/
import Derived.Test.YthojdcaojjmoaaaDoorA35
namespace Go.Proofs.Wit
open Go Go.RowKit
/-! worlds that are together agree on every set of a formula -/
theorem depT_kid {t c : Tr} (h : c ∈ kids t) : depT c ≤ depT t := by
  cases t with
  | leaf => cases h
  | un op i e g a =>
    rw [List.mem_singleton.1 h]
    show depT a ≤ depT a + mdO op
    omega
  | bin op i e g a b =>
    simp only [kids, List.mem_cons, List.not_mem_nil, or_false] at h
    show depT c ≤ max (depT a) (depT b) + mdO op
    rcases h with rfl | rfl <;> omega
theorem depT_sub {t u : Tr} (h : u ∈ subT t) : depT u ≤ depT t :=
  visit_all (p := fun u => depT u ≤ depT t) (fun _ ht _ hc => Nat.le_trans (depT_kid hc) ht) t (Nat.le_refl _) (fun u hu => by cases hu) u h
section
variable {m : Int} {n : Nat} {val : List W64} {rel : List (List W64)} {f : List NV} {s : W64}
/-- what a set of the list is: nothing, or the set of a formula that fits -/
theorem setsP_cases (hck : chkF f = 0) (hfr : andN (frgL (compF f)) 1 = 0) (hs : s ∈ setsP n val rel (compF f)) :
    s = 0#64 ∨ ∃ t : Tr, s = semT n val rel t ∧ t.wf ∧ allL (fun op i g => StatL rel.length val.length op i g ∧ op ≤ 10) t ∧ depT t ≤ depT (topT f) := by
  have hC := CanF.compF hck
  have htop := topT_comp hck
  obtain ⟨k, hk, rfl⟩ := List.mem_map.1 hs
  rw [List.mem_range] at hk
  have hok := (chkF_zero.1 hck).top
  by_cases h : finB rel.length val.length (treeAt (compF f) k) = true
  · refine .inr ⟨treeAt (compF f) k, if_pos h, (hC.nodes.tree k hk).wf, ?_, ?_⟩
    · have h1 : allL (fun op _ _ => op ≤ 10) (topT f) := (frg_has hok frO_1).1 (by rw [← compF_eq hck]; exact hfr)
      have h2 := hC.all (q := fun op _ _ => op ≤ 10) (by rw [htop]; exact h1) hk
      exact allL_and (finB_iff.1 h) h2
    · rw [← htop]; exact depT_sub (hC.mem hk)
  · exact .inl (if_neg h)
theorem setsP_crs (hv : ValM m val rel) (hn : m = (n : Int)) (hck : chkF f = 0) (hfr : andN (frgL (compF f)) 1 = 0) : ∀ s ∈ setsP n val rel (compF f), IvX n (crs m val rel) s := fun s hs => by
  rcases setsP_cases hck hfr hs with rfl | ⟨t, rfl, _, h2, _⟩
  · exact .zero
  · exact (agr_crs hv hn (h2.mono (fun op _ _ h => ⟨h.1, fun e => by have := h.2; omega⟩))).inv
theorem setsP_rnds (hv : ValM m val rel) (hn : m = (n : Int)) (hck : chkF f = 0) (hfr : andN (frgL (compF f)) 1 = 0) : ∀ s ∈ setsP n val rel (compF f), IvX n (rnds m val rel (depF f)) s := fun s hs => by
  have hd : depF f = (depT (topT f) : Int) := if_pos hck
  have hE : rndsE m val rel (depF f) = 0 := by rw [rndsE, if_neg (by simp [checkM_zero.2 hv]), hd, if_neg (by omega)]
  rw [rnds_ok hE, hd, hn, Int.toNat_natCast, Int.toNat_natCast]
  rcases setsP_cases hck hfr hs with rfl | ⟨t, rfl, h1, h2, h3⟩
  · exact .zero
  · exact ivx_rnds hv hn h1 h2 h3
end
theorem ClsP.refine {sets : List W64} {n : Nat} {p q : List Int} (h : ClsP (keyB sets) n p) (hq : OkP q) (hl : q.length = n) (hi : ∀ s ∈ sets, IvX n q s) : ∀ i, i < q.length → p.getD (q.getD i 0).toNat 0 = p.getD i 0 := fun i hi' => by
  obtain ⟨h1, h2, h3⟩ := hq.low i hi'
  exact h.eq _ _ (by omega) (by omega) (keyB_iff.2 (fun s hs => (hi s hs).iff (by omega) (by omega) h3))
theorem crs_okP {m : Int} {val : List W64} {rel : List (List W64)} (hv : ValM m val rel) : OkP (crs m val rel) := by
  have h1 := hv.n1
  have h64 := hv.n64
  rw [crs_ok (checkM_zero.2 hv)]
  exact psq_ok (by omega) _
theorem rnds_okP {m : Int} {val : List W64} {rel : List (List W64)} {k : Int} (hv : ValM m val rel) (hE : rndsE m val rel k = 0) : OkP (rnds m val rel k) := by
  have h1 := hv.n1
  have h64 := hv.n64
  rw [rnds_ok hE]
  exact psq_ok (by omega) _
theorem NewH.none2 {w w' : World} {o o' : Obj} : NewH w w' [(none, o), (none, o')] :=
  have h : ∀ p ∈ [((none : Option Nat), o), (none, o')], ∀ b, p.1 = some b → False := fun p hp b hb => by
    simp only [List.mem_cons, List.not_mem_nil, or_false] at hp
    rcases hp with rfl | rfl <;> cases hb
  ⟨fun p hp b hb => (h p hp b hb).elim, List.pairwise_cons.2 ⟨fun _ _ _ hb => (by cases hb), List.pairwise_cons.2 ⟨fun _ hp => (by cases hp), List.Pairwise.nil⟩⟩⟩
theorem NewH.one2 {w w' : World} {b : Nat} {o o' : Obj} (h1 : w.heap.size ≤ b) (h2 : w'.heap[b]? = some o) (h3 : isSys o = false) : NewH w w' [(some b, o), (none, o')] :=
  ⟨fun p hp c hb => by
    simp only [List.mem_cons, List.not_mem_nil, or_false] at hp
    rcases hp with rfl | rfl
    · obtain rfl := Option.some.inj hb
      exact ⟨h2, h3, h1⟩
    · exact absurd hb (by simp), List.pairwise_cons.2 ⟨fun p hp b hb hq => (by rw [List.mem_singleton.1 hp] at hq; cases hq), List.pairwise_cons.2 ⟨fun _ hp => (by cases hp), List.Pairwise.nil⟩⟩⟩
/-! the example -/
abbrev d12V : List W64 := [1#64]
abbrev d12R : List (List W64) := [[2#64, 2#64]]
abbrev d12F : List NV := canT (.leaf 3 0 0 0)
theorem d12_chk : checkM 2 d12V d12R = 0 := by decide
theorem d12_F : chkF d12F = 0 ∧ andN (frgL (compF d12F)) 1 = 0 ∧ holdE 2 d12V d12R (compF d12F) = 0 := by decide +kernel
theorem d12_S : setsP 2 d12V d12R (compF d12F) = [1#64] := by decide +kernel
end Go.Proofs.Wit
