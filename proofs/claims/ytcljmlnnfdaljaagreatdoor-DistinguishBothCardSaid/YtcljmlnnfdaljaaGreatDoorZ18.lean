/- Laws of walks, for any program, under the conditions that each theorem states. -/
import Derived.Test.YtcljmlnnfdaljaaGreatDoorZ12
namespace Go.Proofs.Wit
theorem rch_bit {p : List Int} (hp : OkP p) {s : W64} {b : Nat} : (rch p s).getLsbD b = true ↔ ∃ x, x < p.length ∧ s.getLsbD x = true ∧ p.getD x 0 = (b : Int) := by
  have hl := hp.len
  have hbit : ∀ x, Rl (bitsP p) x b ↔ x < p.length ∧ p.getD x 0 = (b : Int) := fun x => by
    constructor
    · intro h
      have hx := h.dom
      rw [show (bitsP p).length = p.length from by simp [bitsP]] at hx
      obtain ⟨h1, h2, h3⟩ := hp.low x hx
      unfold Rl at h
      rw [show (bitsP p).getD x 0#64 = 1#64 <<< (p.getD x 0).toNat from by simp [bitsP, List.getD_eq_getElem?_getD, hx], one_bit (by omega)] at h
      have : b = (p.getD x 0).toNat := by simpa using h
      exact ⟨hx, by omega⟩
    · rintro ⟨hx, e⟩
      obtain ⟨h1, h2, h3⟩ := hp.low x hx
      unfold Rl
      rw [show (bitsP p).getD x 0#64 = 1#64 <<< (p.getD x 0).toNat from by simp [bitsP, List.getD_eq_getElem?_getD, hx], one_bit (by omega)]
      simp only [decide_eq_true_eq]
      omega
  rw [rch, mapR_bit]
  constructor
  · rintro ⟨x, h1, h2⟩
    obtain ⟨h3, h4⟩ := (hbit x).1 h2
    exact ⟨x, h3, h1, h4⟩
  · rintro ⟨x, h1, h2, h3⟩
    exact ⟨x, h2, (hbit x).2 ⟨h1, h3⟩⟩
section
variable {n : Nat} {val : List W64} {rel : List (List W64)}
end
end Go.Proofs.Wit
namespace Go.Proofs.Wit
open Go Go.RowKit
/-! groups: the meet of the relations of a group -/
section
variable {P : Program} {t : TypeId}
theorem bShrN {x j : Nat} {b : Int} {k : IntKind} (h : b = j) (_hx : x < 9223372036854775808) (hj : j ≤ 64) : Bin P .shr t (.int .i64 x) (.int k b) (.int .i64 ((x / 2 ^ j : Nat) : Int)) := by
  subst h
  refine bin_pure (fun p q => eqg_int _ _ _ _ _ _ _ _) ?_
  show Op.shift .shr .i64 (x : Int) k (j : Int) = _
  unfold Op.shift
  rw [if_neg (by omega), Int.toNat_natCast]
  show pure (Value.int .i64 ((x : Int).fdiv (2 ^ (min j 64)))) = _
  rw [Nat.min_eq_left hj]
  have e1 : ((2 : Int) ^ j) = ((2 ^ j : Nat) : Int) := by norm_cast
  rw [e1, ← Int.ofNat_fdiv]
theorem bRem2N {x : Nat} : Bin P .rem t (.int .i64 x) (.int .i64 2) (.int .i64 ((x % 2 : Nat) : Int)) := bI _ (by
  show Op.intDiv .rem .i64 (x : Int) 2 = _
  unfold Op.intDiv
  rw [if_neg (by decide)]
  rfl)
end
def gb (g k : Nat) : Nat := g / 2 ^ k % 2
theorem gb_cases (g k : Nat) : gb g k = 0 ∨ gb g k = 1 := by unfold gb; omega
def meetW (n : Nat) (rel : List (List W64)) (g w : Nat) (k : Nat) : W64 := upTo (fun a (o : W64) => if gb g a = 1 then o &&& (rel.getD a []).getD w 0#64 else o) (allW n) k
def meetTo (n : Nat) (rel : List (List W64)) (g k : Nat) : List W64 := (List.range n).map (fun w => meetW n rel g w k)
def meetL (n : Nat) (rel : List (List W64)) (g : Nat) : List W64 := meetTo n rel g rel.length
section
variable {n : Nat} {rel : List (List W64)} {g k w : Nat}
theorem meetW_succ : meetW n rel g w (k + 1) = if gb g k = 1 then meetW n rel g w k &&& (rel.getD k []).getD w 0#64 else meetW n rel g w k := rfl
theorem meetTo_len : (meetTo n rel g k).length = n := by simp [meetTo]
end
section
variable {P : Program} {r : Option Nat} {f : FuncId} {R : Value → World → Prop} {w0 : World} {S : List Nat} {Y : List (Nat × Obj)} {n : Nat} {k : List Item} {l : Fl} {h : Hl}
variable {ops : Array Oper} {i d : Nat} {rest : List Nat} {ty : TypeId} {pos : String} {aft : Array Edge} {g : Option (Nat × Bool)}
end
end Go.Proofs.Wit
