/- Laws of walks, for any program, under the conditions that each theorem states. -/
import Derived.Test.YtcljmlnnfdaljaaDoorF02
namespace Go.Proofs.Wit
open Go Go.RowKit
/-! plain facts on closures -/
theorem Rl.toBit {r : List W64} {w v : Nat} : Rl r w v ↔ (r.getD w 0#64).getLsbD v = true := Iff.rfl
/-- the same size, and contained -/
structure Le (r s : List W64) : Prop where
  len : r.length = s.length
  sub : ∀ u v, Rl r u v → Rl s u v
theorem Le.refl (r : List W64) : Le r r := ⟨rfl, fun _ _ h => h⟩
theorem Le.trans {r s t : List W64} (h : Le r s) (k : Le s t) : Le r t := ⟨h.len.trans k.len, fun u v x => k.sub u v (h.sub u v x)⟩
theorem list_ext {r s : List W64} (hl : r.length = s.length) (h : ∀ u v, Rl r u v ↔ Rl s u v) : r = s := by
  apply List.ext_getElem hl
  intro i h1 h2
  refine eq_of_bits (fun j _ => ?_)
  have := h i j
  unfold Rl at this
  simp only [List.getD_eq_getElem?_getD, List.getElem?_eq_getElem h1, List.getElem?_eq_getElem h2, Option.getD_some] at this
  exact Bool.eq_iff_iff.2 this
theorem Le.antisymm {r s : List W64} (h : Le r s) (k : Le s r) : r = s := list_ext h.len (fun u v => ⟨h.sub u v, k.sub u v⟩)
theorem Le.bits {r s : List W64} (h : Le r s) (i : Nat) : r.getD i 0#64 &&& ~~~(s.getD i 0#64) = 0#64 := andNot_zero.2 (fun j hj => h.sub i j hj)
theorem Rl.set {l : List W64} {w u v : Nat} {x : W64} (hw : w < l.length) : Rl (l.set w x) u v ↔ if u = w then x.getLsbD v = true else Rl l u v := by
  unfold Rl
  by_cases e : u = w
  · subst e; simp [List.getD_eq_getElem?_getD, hw]
  · rw [if_neg e]; simp [List.getD_eq_getElem?_getD, Ne.symm e]
/-- a step that grows a relation; F says of a relation that the step leaves it -/
structure GoodS (g : List W64 → List W64) (F : List W64 → Prop) : Prop where
  val : ∀ {l}, Val l → Val (g l)
  infl : ∀ {l}, Val l → Le l (g l)
  mono : ∀ {l m}, Val l → Val m → Le l m → Le (g l) (g m)
  fix : ∀ {l}, Val l → (g l = l ↔ F l)
theorem GoodS.ofBits {g : List W64 → List W64} (A : List W64 → Nat → Nat → Prop) (hlen : ∀ l, (g l).length = l.length) (hbit : ∀ l, Val l → ∀ u v, Rl (g l) u v ↔ Rl l u v ∨ A l u v)
    (hdom : ∀ l, Val l → ∀ u v, A l u v → v < l.length) (hmono : ∀ l m, Val l → Val m → Le l m → ∀ u v, A l u v → A m u v) : GoodS g (fun l => ∀ u v, A l u v → Rl l u v) where
  val {l} h := ⟨by rw [hlen]; exact h.len, fun u v x => by
    rw [hlen]
    rcases (hbit l h u v).1 x with x | x
    · exact h.lt u v x
    · exact hdom l h u v x⟩
  infl {l} h := ⟨(hlen l).symm, fun u v x => (hbit l h u v).2 (.inl x)⟩
  mono {l m} h k hle := ⟨by rw [hlen, hlen]; exact hle.len, fun u v x => (hbit m k u v).2 (by
    rcases (hbit l h u v).1 x with x | x
    · exact .inl (hle.sub u v x)
    · exact .inr (hmono l m h k hle u v x))⟩
  fix {l} h := ⟨fun e u v x => by
      have := (hbit l h u v).2 (.inr x)
      rwa [e] at this, fun hF => list_ext (hlen l) (fun u v => ⟨fun x => by
        rcases (hbit l h u v).1 x with x | x
        · exact x
        · exact hF u v x, fun x => (hbit l h u v).2 (.inl x)⟩)⟩
theorem GoodS.id : GoodS (fun l => l) (fun _ => True) := ⟨fun h => h, fun _ => .refl _, fun _ _ h => h, fun _ => ⟨fun _ => trivial, fun _ => rfl⟩⟩
theorem GoodS.comp {g g' : List W64 → List W64} {F F' : List W64 → Prop} (h : GoodS g F) (h' : GoodS g' F') : GoodS (fun l => g' (g l)) (fun l => F l ∧ F' l) where
  val v := h'.val (h.val v)
  infl v := (h.infl v).trans (h'.infl (h.val v))
  mono v k le := h'.mono (h.val v) (h.val k) (h.mono v k le)
  fix {l} v := by
    constructor
    · intro e
      have e1 : g l = l := by
        have := h'.infl (h.val v)
        rw [e] at this
        exact this.antisymm (h.infl v)
      rw [e1] at e
      exact ⟨(h.fix v).1 e1, (h'.fix v).1 e⟩
    · rintro ⟨a, b⟩
      rw [(h.fix v).2 a, (h'.fix v).2 b]
theorem GoodS.upTo {st : Nat → List W64 → List W64} {F : Nat → List W64 → Prop} (h : ∀ k, GoodS (st k) (F k)) : ∀ n, GoodS (fun l => upTo st l n) (fun l => ∀ k, k < n → F k l)
  | 0 => ⟨fun h => h, fun _ => .refl _, fun _ _ h => h, fun _ => ⟨fun _ k hk => by omega, fun _ => rfl⟩⟩
  | n + 1 => by
    have := (GoodS.upTo h n).comp (h n)
    refine ⟨this.val, this.infl, this.mono, fun v => (this.fix v).trans ⟨fun ⟨a, b⟩ k hk => ?_, fun a => ⟨fun k hk => a k (by omega), a n (by omega)⟩⟩⟩
    rcases Nat.lt_succ_iff_lt_or_eq.1 hk with h1 | rfl
    · exact a k h1
    · exact b
theorem GoodS.iff {g : List W64 → List W64} {F G : List W64 → Prop} (h : GoodS g F) (hi : ∀ {l}, Val l → (F l ↔ G l)) : GoodS g G := ⟨h.val, h.infl, h.mono, fun v => (h.fix v).trans (hi v)⟩
/-- out is the least valid relation above r with F -/
structure Least (F : List W64 → Prop) (r out : List W64) : Prop where
  val : Val out
  le : Le r out
  has : F out
  least : ∀ c, Val c → Le r c → F c → Le out c
def tranR (l : List W64) : Prop := ∀ u v x, Rl l u v → Rl l v x → Rl l u x
def euclR (l : List W64) : Prop := ∀ u v x, Rl l u v → Rl l u x → Rl l v x
theorem set_bit {l : List W64} {w : Nat} {x : W64} {u v : Nat} : Rl (l.set w (l.getD w 0#64 ||| x)) u v ↔ Rl l u v ∨ (u = w ∧ w < l.length ∧ x.getLsbD v = true) := by
  rcases Nat.lt_or_ge w l.length with h | h
  · rw [Rl.set h]
    split
    · rename_i e; subst e
      rw [BitVec.getLsbD_or, Bool.or_eq_true, Rl.toBit]
      simp [h]
    · rename_i e; simp [e]
  · rw [List.set_eq_of_length_le h]
    exact ⟨.inl, fun x => x.elim (fun x => x) (fun x => absurd x.2.1 (by omega))⟩
end Go.Proofs.Wit
namespace Go.Proofs.Wit
end Go.Proofs.Wit
namespace Go.Proofs.Wit
open Go Go.RowKit
/-! calls that turn one block of the caller's -/
/-- a callee that turns the block q at most -/
def CnT (P : Program) (gf : FuncId) (args : List Value) (w : World) (q : Option Nat) (Rc : Value → World → Prop) : Prop :=
  Calls P gf args.toArray w fun e w' => ∃ v, e = .returned v ∧ Ex q.toList w w' ∧ Rc v w'
section
variable {w0 w w' : World} {S : List Nat} {h : Hl} {Y : List (Nat × Obj)}
theorem St.noneSet (s : St w0 S w h Y) (j : Nat) (o : Obj) : St w0 S w (h.set j ((Option.none : Option Nat), o)) Y := by
  refine ⟨s.ext, fun p hp c hc => ?_, ?_, s.sys, s.ynd⟩
  · obtain ⟨i, hi⟩ := List.mem_iff_getElem?.1 hp
    rw [List.getElem?_set] at hi
    split at hi
    · simp at hi; obtain ⟨_, rfl⟩ := hi; cases hc
    · exact s.own p (List.mem_of_getElem? hi) c hc
  · rw [List.pairwise_iff_getElem]
    intro i i' hi hi' hlt c hc hc'
    rw [List.length_set] at hi hi'
    rw [List.getElem_set] at hc hc'
    split at hc
    · cases hc
    · split at hc'
      · cases hc'
      · exact List.pairwise_iff_getElem.1 s.apart i i' hi hi' hlt c hc hc'
theorem St.turned (s : St w0 S w h Y) {j : Nat} {q : Option Nat} {o o' : Obj} (hj : h[j]? = some (q, o)) (ho : isSys o' = false) (e : Ex q.toList w w') (hb : ∀ b, q = some b → w'.heap[b]? = some o') : St w0 S w' (h.set j (q, o')) Y := by
  cases q with
  | none => exact (s.later e).noneSet j o'
  | some b => exact s.turn hj ho e.os e.tape e.output e.size (hb b rfl) (fun i hi hn => e.block i hi (by simpa using hn))
theorem st_one {w : World} {q : Option Nat} {o : Obj} (ho : isSys o = false) (hb : ∀ b, q = some b → w.heap[b]? = some o) : St w q.toList w [(q, o)] [] := by
  refine ⟨Ex.refl _ _, fun p hp b hpb => ?_, List.pairwise_singleton _ _, by simp, by simp⟩
  obtain rfl := List.mem_singleton.1 hp
  simp only at hpb; subst hpb
  exact ⟨hb b rfl, ho, .inr (by simp)⟩
variable {P : Program} {f : FuncId} {R : Value → World → Prop} {r : Option Nat} {n : Nat} {k : List Item} {l : Fl} {fn : Func}
theorem CnT.of {c : Code} {args : List Value} {q : Option Nat} {o : Obj} {Rc : Value → World → Prop} (hf : P.funcs[f]? = some fn) (hb : fn.body = some c) (hn : Nat.ble args.length fn.ntmps = true)
    (ho : isSys o = false) (hq : ∀ b, q = some b → w0.heap[b]? = some o)
    (hgo : GoH P none f (fun v w' => Ex q.toList w0 w' ∧ Rc v w') w0 q.toList [] fn.ntmps [.code c] (parL 0 args) [(q, o)]) : CnT P f args w0 q Rc := by
  unfold CnT; exact calls_of hf hb hn _ (st_one ho hq) hgo
variable {ops : Array Oper} {i d : Nat} {rest : List Nat} {ty : TypeId} {pos : String} {aft : Array Edge} {g : Option (Nat × Bool)}
end
end Go.Proofs.Wit
namespace Go.Proofs.Wit
open Go Go.RowKit
section
variable {P : Program} {r : Option Nat} {f : FuncId} {R : Value → World → Prop} {w0 : World} {S : List Nat} {Y : List (Nat × Obj)} {n : Nat} {k : List Item} {l : Fl} {h : Hl}
variable {ops : Array Oper} {i d : Nat} {rest : List Nat} {ty : TypeId} {pos : String} {aft : Array Edge} {g : Option (Nat × Bool)}
end
end Go.Proofs.Wit
namespace Go.Proofs.Wit
open Go Go.RowKit
/-- a nil slice's entry -/
theorem GoH.addNone {P : Program} {r : Option Nat} {f : FuncId} {R : Value → World → Prop} {w0 : World} {S : List Nat} {Y : List (Nat × Obj)} {n : Nat} {k : List Item} {l : Fl} {h : Hl} (o : Obj)
    (hg : GoH P r f R w0 S Y n k l ((none, o) :: h)) : GoH P r f R w0 S Y n k l h := fun t w Ds hF hS => hg t w Ds hF (hS.none o)
end Go.Proofs.Wit
namespace Go.Proofs.Wit
open Go Go.RowKit
section
variable {P : Program} {r : Option Nat} {f : FuncId} {R : Value → World → Prop} {w0 : World} {S : List Nat} {Y : List (Nat × Obj)} {n : Nat} {k : List Item} {l : Fl} {h : Hl}
variable {ops : Array Oper} {i d : Nat} {rest : List Nat} {ty : TypeId} {pos : String} {aft : Array Edge} {g : Option (Nat × Bool)}
end
section
variable {P : Program} {t : TypeId} {a b : Int} {x y : W64} {v : Bool}
theorem bEqV {k : IntKind} (e : (a == b) = v) : Bin P .eql t (.int k a) (.int k b) (.bool v) := e ▸ bEq
theorem bNeV {k : IntKind} (e : (a != b) = v) : Bin P .neq t (.int k a) (.int k b) (.bool v) := e ▸ bNe
theorem bLtV {k : IntKind} (e : decide (a < b) = v) : Bin P .lss t (.int k a) (.int k b) (.bool v) := e ▸ bLt
theorem bGtV {k : IntKind} (e : decide (a > b) = v) : Bin P .gtr t (.int k a) (.int k b) (.bool v) := e ▸ bGt
theorem bEqUV (e : (x == y) = v) : Bin P .eql t (U x) (U y) (.bool v) := e ▸ bEqU
theorem bNeUV (e : (x != y) = v) : Bin P .neq t (U x) (U y) (.bool v) := e ▸ bNeU
end
end Go.Proofs.Wit
