/- Laws of walks, for any program, under the conditions that each theorem states. -/
import Derived.Test.YtlihcmknfdckdaaDoorS03
import Derived.Test.YtlihcmknfdckdaaDoorS16
namespace Go.Proofs.Wit
open Go Go.RowKit
/-! a region that draws its order: the reads are those of a list rs, c turns memory, those of ls come behind both -/
def reachD (ops : Array Oper) : Nat → Nat → Nat → Bool
 | 0, _, _ => false
 | f + 1, i, j => (dirs ops i).any (fun e => Nat.beq e j || reachD ops f e j)
structure DrawXFacts (ops : Array Oper) (rs : List Nat) (c : Nat) (ls : List Nat) : Prop where
  size : c < ops.size
  rsz : ∀ i ∈ rs, i < ops.size ∧ i ≠ c
  inc : ∀ q p, q < p → p < rs.length → rs.getD q 0 < rs.getD p 0
  lt : ∀ i, i < ops.size → ∀ j ∈ dirs ops i, j < i
  rdir : ∀ i ∈ rs, ∀ j ∈ dirs ops i, j ∈ rs
  cdir : ∀ j ∈ dirs ops c, j ∈ rs
  sel : ∀ i, (i = c ∨ i ∈ rs) → ∀ o, ops[i]? = some o → notSel o.op = true
  inj : ∀ i j d, (i = c ∨ i ∈ rs) → (j = c ∨ j ∈ rs) → dstOf ops i = some d → dstOf ops j = some d → i = j
  eye : ∀ i, (i = c ∨ i ∈ rs) → ∀ o, ops[i]? = some o → ∀ s ∈ eyes ops o, ∀ j, (j = c ∨ j ∈ rs) → dstOf ops j = some s → j ∈ dirs ops i
  late : ∀ i, i < ops.size → ¬ (i = c ∨ i ∈ rs) → (∃ j ∈ dirs ops i, ¬ (j = c ∨ j ∈ rs)) ∨ ∀ j, (j = c ∨ j ∈ rs) → reachD ops ops.size i j = true
  forc : forced ops (c :: rs) ls = true
section
variable {P : Program} {r : Option Nat} {f : FuncId} {R : Value → World → Prop} {w0 : World} {S : List Nat} {Y : List (Nat × Obj)} {n : Nat} {k : List Item} {l : Fl} {h : Hl} {ops : Array Oper}
end
end Go.Proofs.Wit
namespace Go.Proofs.Wit
open Go Go.RowKit
/-! the memo of negation normal forms: two maps -/
abbrev Nm := List (Int × FV)
section
variable {P : Program} {r : Option Nat} {f : FuncId} {R : Value → World → Prop} {w0 : World} {S : List Nat} {Y : List (Nat × Obj)} {n : Nat} {k : List Item} {l : Fl} {hb : Option Nat × Obj} {ht : Hl} {ops : Array Oper} {c : Nat} {ls : List Nat}
end
abbrev nmH (m0 : Nat) (L0 : Nm) (m1 : Nat) (L1 : Nm) : Hl := [(some m0, mobj (Value.int .i64) FV.v L0), (some m1, mobj (Value.int .i64) FV.v L1)]
abbrev nmBk (na : Option Addr) (nl nc m0 m1 : Nat) : Array Value := #[.slice na nl nc, .map (some m0), .map (some m1)]
structure NMemo (c : List NV) (L0 L1 : Nm) : Prop where
  e0 : ∀ e ∈ L0, ∃ k : Nat, e.1 = (k : Int) ∧ e.2.f = bT (nnT (treeAt c k)).1
  e1 : ∀ e ∈ L1, ∃ k : Nat, e.1 = (k : Int) ∧ e.2.f = bT (nnT (treeAt c k)).2
def Held (t : TypeId) (L0 L1 : Nm) (F : Hl) (x : FV) : Prop := x.In t F ∨ (∃ k, (k, x) ∈ L0) ∨ ∃ k, (k, x) ∈ L1
structure NGrew (t : TypeId) (c : List NV) (d : Nat) (L0 L1 L0' L1' : Nm) (F : Hl) : Prop where
  memo : NMemo c L0' L1'
  s0 : L0 ⊆ L0'
  s1 : L1 ⊆ L1'
  n0 : ∀ e ∈ L0', e ∈ L0 ∨ (e.1 < (d : Int) ∧ Held t L0 L1 F e.2)
  n1 : ∀ e ∈ L1', e ∈ L1 ∨ (e.1 < (d : Int) ∧ Held t L0 L1 F e.2)
section
variable {t : TypeId} {c : List NV}
structure NPre (t tn : TypeId) (c : List NV) (na : Option Addr) (nc bk m0 m1 : Nat) (w : World) (L0 L1 : Nm) : Prop where
  has : HasH w (nmH m0 L0 m1 L1)
  blk : w.heap[bk]? = some (.cells (nmBk na c.length nc m0 m1) tn (0, 0))
  fa : FA w na c
  f0 : ∀ e ∈ L0, FA w e.2.a e.2.f
  f1 : ∀ e ∈ L1, FA w e.2.a e.2.f
  memo : NMemo c L0 L1
variable {tn : TypeId} {na : Option Addr} {nc bk m0 m1 : Nat} {w : World} {L0 L1 : Nm}
end
section
variable {P : Program} {r : Option Nat} {f : FuncId} {R : Value → World → Prop} {w0 : World} {Y : List (Nat × Obj)} {n : Nat} {k : List Item} {l : Fl} {hb : Option Nat × Obj} {ops : Array Oper} {i d : Nat} {rest : List Nat} {ty : TypeId} {pos : String} {aft : Array Edge} {g : Option (Nat × Bool)}
variable {az : Array Operand} {ts : Array TypeId} {cal : Operand} {gf : FuncId} {vs : List Value} {t tn : TypeId} {c : List NV} {na : Option Addr} {nc bk m0 m1 D D' : Nat} {L0 L1 La Lb : Nm} {F : Hl} {u : Tr}
end
theorem bT_max {f : List NV} {t : Tr} (h : f = bT t) : f.length ≤ maxLen := by
 rw [h]; have := bT_le t; unfold maxLen; omega
end Go.Proofs.Wit
