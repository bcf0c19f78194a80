/- Laws of a calculus of walks, proved for any program: no condition beyond those that each theorem states. -/
import Derived.Test.YtcljmlnnfdaljaaDoorS29
import Derived.Test.YtcljmlnnfdaljaaDoorS13
namespace Go.Proofs.Wit
open Go Go.RowKit
/-! nodes in memory: loads, equality, keys of maps -/
def NV.v (n : NV) : Value := .agg #[I64 n.op, I64 n.i, I64 n.e, I64 n.g, I64 n.x, I64 n.y]
/-- the nodes of a list in memory -/
structure FA (w : World) (a : Option Addr) (f : List NV) : Prop where
  at_ : Sl w a (f.flatMap NV.cells)
theorem FA.ex0 {w0 w : World} {a : Option Addr} {f : List NV} (h : FA w0 a f) {S : List Nat} (e : Ex S w0 w) (hS : ∀ b o, a = some ⟨b, o, none⟩ → b ∉ S := by simp) : FA w a f := ⟨Sl.ex h.at_ e hS⟩
abbrev obN (e : TypeId) (ns : List NV) (sp : List Value) : Obj := .cells (ns.flatMap NV.cells ++ sp).toArray e (0, 0)
theorem flatN {ns : List NV} : (ns.flatMap NV.cells).length = ns.length * 6 := flat_len (enc := NV.cells) (sz := 6) (fun _ => rfl)
theorem faAt {w0 w : World} {S : List Nat} {h : Hl} {Y : List (Nat × Obj)} (s : St w0 S w h Y) (j : Nat) {q : Option Nat} {ns : List NV} {e : TypeId} {sp : List Value} (hj : h[j]? = some (q, obN e ns sp)) (hq : q = none → ns.length = 0) : FA w (q.map (fun b => ⟨b, 0, none⟩)) ns := by
  cases q with
  | none => rw [List.eq_nil_of_length_eq_zero (hq rfl)]; exact ⟨Sl.nil _ _⟩
  | some b => exact ⟨Sl.blk (s.get hj)⟩
/-- a list in a block of one's own, or nil -/
def OwnN (e : TypeId) (w w' : World) (v : Value) (ns : List NV) : Prop :=
  ∃ q cap sp, v = osv q ns.length cap ∧ (q = none → ns.length = 0 ∧ cap = 0) ∧ (ns.flatMap NV.cells ++ sp).length = cap * 6 ∧ ∀ b, q = some b → w.heap.size ≤ b ∧ w'.heap[b]? = some (obN e ns sp)
theorem gainN {t : TypeId} {w0 w w' : World} {S : List Nat} {h : Hl} {Y : List (Nat × Obj)} (s : St w0 S w h Y) (e : Ex [] w w') {v : Value} {ns : List NV} (ho : OwnN t w w' v ns) :
    ∃ q cap sp, v = osv q ns.length cap ∧ (q = none → ns.length = 0 ∧ cap = 0) ∧ (ns.flatMap NV.cells ++ sp).length = cap * 6 ∧ St w0 S w' ((q, obN t ns sp) :: h) Y := by
  obtain ⟨q, cap, sp, h1, h2, h3, h4⟩ := ho
  refine ⟨q, cap, sp, h1, h2, h3, ?_⟩
  cases q with
  | none => exact (s.later e).none _
  | some b => exact s.gain e (h4 b rfl).2 rfl (h4 b rfl).1
theorem OwnN.mk {t : TypeId} {w0 w : World} {h : Hl} {Y : List (Nat × Obj)} (s : St w0 [] w h Y) (j : Nat) {q : Option Nat} {ns : List NV} {sp : List Value} {cap m : Nat} (hj : h[j]? = some (q, obN t ns sp)) (hm : m = ns.length)
    (hq : q = none → ns.length = 0 ∧ cap = 0) (hcap : (ns.flatMap NV.cells ++ sp).length = cap * 6) : OwnN t w0 w (osv q m cap) ns := by
  subst hm
  refine ⟨q, cap, sp, rfl, hq, hcap, fun b hb => ?_⟩
  subst hb
  exact ⟨s.fresh hj, s.get hj⟩
theorem OwnN.nil0 {t : TypeId} {w w' : World} : OwnN t w w' (.slice none 0 0) [] := ⟨none, 0, [], rfl, fun _ => ⟨rfl, rfl⟩, rfl, fun _ e => by cases e⟩
section
variable {P : Program} {r : Option Nat} {f : FuncId} {R : Value → World → Prop} {w0 : World} {S : List Nat} {Y : List (Nat × Obj)} {n : Nat} {k : List Item} {l : Fl} {h : Hl}
variable {ops : Array Oper} {i d : Nat} {rest : List Nat} {ty : TypeId} {pos : String} {aft : Array Edge} {g : Option (Nat × Bool)}
/-- a pointer that is not nil -/
theorem Vop.nilCk {x : Operand} {a : Addr} (ho : ops[i]? = some ⟨some d, .nilCheck x, ty, pos, aft, g⟩) (hw : wantL ops l g = true) (hx : opd l x = some (.pointer (some a))) (hd : Nat.blt d n = true) : Vop P w0 S n h ops i l d (.pointer (some a)) :=
  .of ho hw rfl rfl hd (fun t' w Ds _ hF hS => ⟨.value (.pointer (some a)), by simp only [execOp, hF.opd hx]; rfl, rfl⟩)
end
/-- the fields of a node, all of them of a type of ints -/
def nodeFs (fs : Array Field) (it : TypeId) : Prop := ∃ f0 f1 f2 f3 f4 f5 : Field, fs = #[f0, f1, f2, f3, f4, f5] ∧
  (f0.name ≠ "_" ∧ f0.type = it ∧ f0.offset = 0) ∧ (f1.name ≠ "_" ∧ f1.type = it ∧ f1.offset = 1) ∧ (f2.name ≠ "_" ∧ f2.type = it ∧ f2.offset = 2) ∧
  (f3.name ≠ "_" ∧ f3.type = it ∧ f3.offset = 3) ∧ (f4.name ≠ "_" ∧ f4.type = it ∧ f4.offset = 4) ∧ (f5.name ≠ "_" ∧ f5.type = it ∧ f5.offset = 5)
theorem eqIn_node {P : Program} {t it : TypeId} {fs : Array Field} (hu : P.underlying t = some (.struct fs)) (hfs : nodeFs fs it) (hi : P.underlying it = some (.int .i64)) (ha : ∀ w, (isAgg it).run P w = .ok false w) (hst : P.stoodInHeld t = false) (m : Nat) (a b : NV) (w : World) :
    (Op.equalIn (m + 2) t a.v b.v).run P w = .ok (a == b) w := by
  obtain ⟨f0, f1, f2, f3, f4, f5, rfl, ⟨n0, t0, o0⟩, ⟨n1, t1, o1⟩, ⟨n2, t2, o2⟩, ⟨n3, t3, o3⟩, ⟨n4, t4, o4⟩, ⟨n5, t5, o5⟩⟩ := hfs
  have hp : ∀ (c : NV) (w : World), (part it c.v.cells 0).run P w = .ok (I64 c.op) w ∧ (part it c.v.cells 1).run P w = .ok (I64 c.i) w ∧ (part it c.v.cells 2).run P w = .ok (I64 c.e) w ∧ (part it c.v.cells 3).run P w = .ok (I64 c.g) w ∧ (part it c.v.cells 4).run P w = .ok (I64 c.x) w ∧ (part it c.v.cells 5).run P w = .ok (I64 c.y) w := fun c w =>
    ⟨part1 ha rfl w, part1 ha rfl w, part1 ha rfl w, part1 ha rfl w, part1 ha rfl w, part1 ha rfl w⟩
  obtain ⟨a0, a1, a2, a3, a4, a5⟩ := hp a w
  obtain ⟨b0, b1, b2, b3, b4, b5⟩ := hp b w
  have hq : ∀ p q : Int, (Op.equalIn (m + 1) it (.int .i64 p) (.int .i64 q)).run P w = .ok (p == q) w := fun p q => eqIn_int m hi w
  have hv : ∀ c : NV, c.v = .agg c.v.cells := fun c => rfl
  rw [hv a, hv b, show m + 2 = (m + 1) + 1 from rfl, Op.equalIn]
  have hprog : (program : Sem Program).run P w = .ok P w := rfl
  simp only [Sem.run_bind, run_underlying hu, Result.andThen_ok, hprog, hst, ← Array.forIn_toList]
  have hab : (a == b) = (a.op == b.op && (a.i == b.i && (a.e == b.e && (a.g == b.g && (a.x == b.x && a.y == b.y))))) := by
    rw [Bool.eq_iff_iff]
    simp only [beq_iff_eq, Bool.and_eq_true]
    obtain ⟨_, _, _, _, _, _⟩ := a
    obtain ⟨_, _, _, _, _, _⟩ := b
    simp [NV.mk.injEq]
  rw [hab]
  cases h0 : a.op == b.op
  · simp [n0, t0, o0, a0, b0, hq, h0]
  cases h1 : a.i == b.i
  · simp [n0, t0, o0, a0, b0, hq, h0, n1, t1, o1, a1, b1, h1]
  cases h2 : a.e == b.e
  · simp [n0, t0, o0, a0, b0, hq, h0, n1, t1, o1, a1, b1, h1, n2, t2, o2, a2, b2, h2]
  cases h3 : a.g == b.g
  · simp [n0, t0, o0, a0, b0, hq, h0, n1, t1, o1, a1, b1, h1, n2, t2, o2, a2, b2, h2, n3, t3, o3, a3, b3, h3]
  cases h4 : a.x == b.x
  · simp [n0, t0, o0, a0, b0, hq, h0, n1, t1, o1, a1, b1, h1, n2, t2, o2, a2, b2, h2, n3, t3, o3, a3, b3, h3, n4, t4, o4, a4, b4, h4]
  cases h5 : a.y == b.y
  · simp [n0, t0, o0, a0, b0, hq, h0, n1, t1, o1, a1, b1, h1, n2, t2, o2, a2, b2, h2, n3, t3, o3, a3, b3, h3, n4, t4, o4, a4, b4, h4, n5, t5, o5, a5, b5, h5]
  · simp [n0, t0, o0, a0, b0, hq, h0, n1, t1, o1, a1, b1, h1, n2, t2, o2, a2, b2, h2, n3, t3, o3, a3, b3, h3, n4, t4, o4, a4, b4, h4, n5, t5, o5, a5, b5, h5]
theorem chk_node {P : Program} {t it : TypeId} {fs : Array Field} (hu : P.underlying t = some (.struct fs)) (hfs : nodeFs fs it) (hi : P.underlying it = some (.int .i64)) (ha : ∀ w, (isAgg it).run P w = .ok false w) (e : Bool) (m : Nat) (a : NV) (w : World) :
    (Instr.checkKey e (m + 2) t a.v).run P w = .ok () w := by
  obtain ⟨f0, f1, f2, f3, f4, f5, rfl, ⟨n0, t0, o0⟩, ⟨n1, t1, o1⟩, ⟨n2, t2, o2⟩, ⟨n3, t3, o3⟩, ⟨n4, t4, o4⟩, ⟨n5, t5, o5⟩⟩ := hfs
  have a0 : (part it a.v.cells 0).run P w = .ok (I64 a.op) w := part1 ha rfl w
  have a1 : (part it a.v.cells 1).run P w = .ok (I64 a.i) w := part1 ha rfl w
  have a2 : (part it a.v.cells 2).run P w = .ok (I64 a.e) w := part1 ha rfl w
  have a3 : (part it a.v.cells 3).run P w = .ok (I64 a.g) w := part1 ha rfl w
  have a4 : (part it a.v.cells 4).run P w = .ok (I64 a.x) w := part1 ha rfl w
  have a5 : (part it a.v.cells 5).run P w = .ok (I64 a.y) w := part1 ha rfl w
  have hk : ∀ p : Int, (Instr.checkKey e (m + 1) it (.int .i64 p)).run P w = .ok () w := fun p => Go.MapKept.run_checkKey hi (by simp [Go.MapKept.IsKey]) e m
  rw [show a.v = .agg a.v.cells from rfl, show m + 2 = (m + 1) + 1 from rfl, Instr.checkKey]
  simp only [Sem.run_bind, run_underlying hu, Result.andThen_ok, ← Array.forIn_toList]
  simp [n0, t0, o0, a0, hk, n1, t1, o1, a1, n2, t2, o2, a2, n3, t3, o3, a3, n4, t4, o4, a4, n5, t5, o5, a5]
theorem KeyOk.node {P : Program} {t it : TypeId} {fs : Array Field} (hu : P.underlying t = some (.struct fs)) (hfs : nodeFs fs it) (hi : P.underlying it = some (.int .i64)) (ha : ∀ w, (isAgg it).run P w = .ok false w) (hst : P.stoodInHeld t = false) : KeyOk P t NV.v (fun a b => a == b) := by
  refine ⟨fun e a w => chk_node hu hfs hi ha e 9998 a w, fun ev L k w => ?_⟩
  have hq : ∀ a b : NV, (Op.equal t a.v b.v).run P w = .ok (a == b) w := fun a b => eqIn_node hu hfs hi ha hst 9998 a b w
  simp only [Instr.findKey, Sem.run_bind, run_underlying hu, Result.andThen_ok]
  cases L with
  | nil => rfl
  | cons p L =>
    have h0 : Instr.findNow (.struct fs) k.v (ents NV.v ev (p :: L) 0) 0 = none := rfl
    rw [h0]
    exact findAsk_eq (q := fun a b : NV => a == b) hq
theorem bEqNode {P : Program} {t it : TypeId} {fs : Array Field} (hu : P.underlying t = some (.struct fs)) (hfs : nodeFs fs it) (hi : P.underlying it = some (.int .i64)) (ha : ∀ w, (isAgg it).run P w = .ok false w) (hst : P.stoodInHeld t = false) (hg : P.eqGuardType P.depth t = false) {a b : NV} :
    Bin P .eql t a.v b.v (.bool (a == b)) := by
  intro x y w
  have h1 : (Op.equal t a.v b.v).run P w = .ok (a == b) w := eqIn_node hu hfs hi ha hst 9998 a b w
  have hprog : (program : Sem Program).run P w = .ok P w := rfl
  have h2 : (eqGuard .eql t x y a.v b.v).run P w = .ok () w := by
    unfold eqGuard
    simp only [NV.v, Sem.run_bind, hprog, Result.andThen_ok]
    simp [hg]
  have h3 : (binOp .eql t a.v b.v).run P w = .ok (.bool (a == b)) w := by
    show (do pure (Value.bool (← Op.equal t a.v b.v)) : Sem Value).run P w = _
    simp only [Sem.run_bind, h1, Result.andThen_ok]; rfl
  simp only [Sem.run_bind, h2, Result.andThen_ok, h3]
end Go.Proofs.Wit
