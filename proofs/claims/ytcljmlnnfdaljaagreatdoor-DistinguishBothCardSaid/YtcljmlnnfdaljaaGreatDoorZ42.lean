/- Laws of walks, for any program, under the conditions that each theorem states. -/
import Derived.Test.YtcljmlnnfdaljaaGreatDoorZ40
namespace Go.Proofs.Wit
open Go Go.RowKit
theorem selW_add {q : Nat → Bool} {k : Nat} (hk : k < 64) : selW q k + 1#64 <<< k = selW q k ||| 1#64 <<< k := by
  apply BitVec.add_eq_or_of_and_eq_zero
  apply BitVec.eq_of_getLsbD_eq
  intro i hi
  rw [BitVec.getLsbD_and]
  cases h : (selW q k).getLsbD i with
  | false => simp
  | true =>
    have h1 := ((selW_bit (by omega)).1 h).1
    cases h2 : (1#64 <<< k).getLsbD i with
    | false => simp
    | true => have := (one_has hk).1 h2; omega
section
variable {n : Nat} {val : List W64} {rel : List (List W64)}
theorem dst_upto (hn : 1 ≤ n) (h64 : n ≤ 64) {v x : Nat} (h : ∀ i, i < n + 1 → apB n val rel v x i = false) : dst n val rel v x = none := by
  have hd := (dep_spec (val := val) (rels := rel) hn h64).1
  rw [← dst_eq (val := val) (rel := rel) hn h64 (v := v) (w := x) (N := n + 1) (by omega)]
  exact fst_none.2 h
theorem dst_at (hn : 1 ≤ n) (h64 : n ≤ 64) {v x k : Nat} (h : ∀ i, i < k → apB n val rel v x i = false) (hk : apB n val rel v x k = true) : dst n val rel v x = some k := by
  refine (dst_some hn h64).2 ⟨fun e => (by rw [apB_false.2 e] at hk; cases hk), fun i hi => apB_false.1 (h i hi)⟩
/-- what a formula of Know and Poss tells apart takes its depth -/
theorem dep_least (hv : ValM (n : Int) val rel) {t : Tr} (ht : t.ok) (hp : Pln rel.length val.length t) {v x : Nat} (hvn : v < n) (hxn : x < n) (h : ∀ k, dst n val rel v x = some k → depT t < k) : (semT n val rel t).getLsbD v = (semT n val rel t).getLsbD x := by
  have h1 := hv.n1
  have h64 := hv.n64
  have hq := hp.mono (q' := fun op i _ => op ≤ 10 ∧ (op = 9 ∨ op = 10 → i.toNat < rel.length)) (fun _ _ _ h => ⟨h.2, stat_ix h.1⟩)
  have hi := sem_dep (n := n) (val := val) (rel := rel) (by omega) (val_lt hv rfl) ht.wf hq (Nat.le_refl (depT t))
  refine hi.iff hvn hxn ?_
  cases hd : dst n val rel v x with
  | none => exact (dst_none (by omega) (by omega)).1 hd _
  | some k => exact ((dst_some (by omega) (by omega)).1 hd).2 _ (h k hd)
/-- what the deep of the law is -/
def deepN (n : Nat) (val : List W64) (rel : List (List W64)) (v x : Nat) : Nat := (dst n val rel v x).getD (n + 1)
theorem deep_self (hn : 1 ≤ n) (h64 : n ≤ 64) {v : Nat} : deepN n val rel v v = n + 1 := by rw [deepN, dst_self hn h64]; rfl
theorem deep_symm (hn : 1 ≤ n) (h64 : n ≤ 64) {v x : Nat} : deepN n val rel v x = deepN n val rel x v := by rw [deepN, deepN, dst_symm hn h64]
theorem deep_lt (hn : 1 ≤ n) (h64 : n ≤ 64) {v x i : Nat} (h : i < deepN n val rel v x) (_hi : i ≤ n) : PEq (psq n val rel i) v x := by
  unfold deepN at h
  cases hd : dst n val rel v x with
  | none => exact (dst_none hn h64).1 hd i
  | some k => rw [hd] at h; exact ((dst_some hn h64).1 hd).2 i h
theorem deep_tri (hn : 1 ≤ n) (h64 : n ≤ 64) {a b c : Nat} : min (deepN n val rel a b) (deepN n val rel b c) ≤ deepN n val rel a c := by
  have hd := (dep_spec (val := val) (rels := rel) hn h64).1
  refine Classical.byContradiction (fun hc => ?_)
  have h3 : deepN n val rel a c < min (deepN n val rel a b) (deepN n val rel b c) := by omega
  have hle : ∀ v x, deepN n val rel v x ≤ n + 1 := fun v x => by
    unfold deepN
    cases h : dst n val rel v x with
    | none => exact Nat.le_refl _
    | some k => have := dst_lt hn h64 h; simp only [Option.getD_some]; omega
  have h4 := hle a b
  have hk : deepN n val rel a c ≤ n := by omega
  have e1 := deep_lt (val := val) (rel := rel) hn h64 (i := deepN n val rel a c) (v := a) (x := b) (by omega) hk
  have e2 := deep_lt (val := val) (rel := rel) hn h64 (i := deepN n val rel a c) (v := b) (x := c) (by omega) hk
  have e3 : PEq (psq n val rel (deepN n val rel a c)) a c := e1.trans e2
  cases h : dst n val rel a c with
  | none =>
    have : deepN n val rel a c = n + 1 := by rw [deepN, h]; rfl
    omega
  | some k =>
    have : deepN n val rel a c = k := by rw [deepN, h]; rfl
    rw [this] at e3
    exact ((dst_some hn h64).1 h).1 e3
end
end Go.Proofs.Wit
