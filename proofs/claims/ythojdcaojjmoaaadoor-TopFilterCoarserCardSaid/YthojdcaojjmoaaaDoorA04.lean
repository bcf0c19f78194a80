/- Laws of walks, for any program, under the conditions that each theorem states. -/
import Derived.Test.YthojdcaojjmoaaaDoorA03
import Derived.Test.YthojdcaojjmoaaaDoorA02
import Derived.MapKept
namespace Go.Proofs.Wit
open Go Go.RowKit
/-! maps -/
section
variable {κ ν : Type}
/-- the entries of a map that nothing was ever taken out of -/
def ents (ek : κ → Value) (ev : ν → Value) : List (κ × ν) → Nat → List MapEntry
  | [], _ => []
  | p :: L, i => ⟨ek p.1, ev p.2, i⟩ :: ents ek ev L (i + 1)
abbrev mobj (ek : κ → Value) (ev : ν → Value) (L : List (κ × ν)) : Obj := .map (ents ek ev L 0).toArray L.length
def mget (q : κ → κ → Bool) : List (κ × ν) → κ → Option ν
  | [], _ => none
  | p :: L, k => if q k p.1 = true then some p.2 else mget q L k
variable {ek : κ → Value} {ev : ν → Value} {q : κ → κ → Bool}
theorem ents_length : ∀ {L : List (κ × ν)} {i : Nat}, (ents ek ev L i).length = L.length
  | [], _ => rfl
  | p :: L, i => by rw [ents, List.length_cons, ents_length, List.length_cons]
theorem ents_append : ∀ {L : List (κ × ν)} {k : κ} {v : ν} {i : Nat}, ents ek ev (L ++ [(k, v)]) i = ents ek ev L i ++ [⟨ek k, ev v, i + L.length⟩]
  | [], k, v, i => rfl
  | p :: L, k, v, i => by rw [List.cons_append, ents, ents_append, ents, List.cons_append, List.length_cons, Nat.add_assoc, Nat.add_comm 1]
/-- a key is found by the first entry whose key is equal -/
def found (q : κ → κ → Bool) (ev : ν → Value) : List (κ × ν) → κ → Nat → Option (Nat × Value)
  | [], _, _ => none
  | p :: L, k, i => if q k p.1 = true then some (i, ev p.2) else found q ev L k (i + 1)
theorem found_mget : ∀ {L : List (κ × ν)} {k : κ} {i : Nat}, (found q ev L k i).map (·.2) = (mget q L k).map ev
  | [], _, _ => rfl
  | p :: L, k, i => by
    rw [found, mget]
    split
    · rfl
    · exact found_mget
theorem findNow_eq {kd : TypeDesc} (hs : ∀ a b : κ, Instr.sameNow kd (ek a) (ek b) = some (q a b)) : ∀ {L : List (κ × ν)} {k : κ} {i j : Nat}, Instr.findNow kd (ek k) (ents ek ev L j) i = some (found q ev L k i)
  | [], _, _, _ => rfl
  | p :: L, k, i, j => by
    rw [ents, Instr.findNow, hs, found]
    cases q k p.1 with
    | true => rfl
    | false => exact findNow_eq hs
theorem findAsk_eq {P : Program} {kt : TypeId} {w : World} (hs : ∀ a b : κ, (Op.equal kt (ek a) (ek b)).run P w = .ok (q a b) w) : ∀ {L : List (κ × ν)} {k : κ} {i j : Nat}, (Instr.findAsking kt (ek k) (ents ek ev L j) i).run P w = .ok (found q ev L k i) w
  | [], _, _, _ => rfl
  | p :: L, k, i, j => by
    rw [ents, Instr.findAsking, found]
    simp only [Sem.run_bind, hs, Result.andThen_ok]
    cases q k p.1 with
    | true => rfl
    | false => exact findAsk_eq hs
/-- what makes the keys of a map's type work -/
structure KeyOk (P : Program) (kt : TypeId) (ek : κ → Value) (q : κ → κ → Bool) : Prop where
  chk : ∀ (e : Bool) (a : κ) (w : World), (Instr.checkKey e 10000 kt (ek a)).run P w = .ok () w
  find : ∀ {ν : Type} (ev : ν → Value) (L : List (κ × ν)) (k : κ) (w : World), (Instr.findKey kt (ek k) (ents ek ev L 0)).run P w = .ok (found q ev L k 0) w
theorem KeyOk.now {P : Program} {kt : TypeId} {kd : TypeDesc} (hu : P.underlying kt = some kd) (hc : ∀ (e : Bool) (a : κ) (w : World), (Instr.checkKey e 10000 kt (ek a)).run P w = .ok () w) (hs : ∀ a b : κ, Instr.sameNow kd (ek a) (ek b) = some (q a b)) : KeyOk P kt ek q :=
  ⟨hc, fun ev L k w => by
    simp only [Instr.findKey, Sem.run_bind, run_underlying hu, Result.andThen_ok, findNow_eq hs]; rfl⟩
theorem KeyOk.int {P : Program} {kt : TypeId} {kd : IntKind} (hu : P.underlying kt = some (.int kd)) : KeyOk P kt (Value.int kd) (fun a b => a == b) :=
  .now hu (fun e a w => Go.MapKept.run_checkKey hu (by simp [Go.MapKept.IsKey]) e 9999) (fun a b => by simp [Instr.sameNow])
/-- an array's literal -/
theorem bldA {P : Program} {t et : TypeId} {n s : Nat} {z : Value} {ps : List (Nat × Value)} {c : List Value} (hu : P.underlying t = some (.array n et)) (hs : ∀ w, (sizeOf et).run P w = .ok s w) (hz : ∀ w, (zeroValue t).run P w = .ok z w)
    (hf : fillL (fun i => some (i * s, s)) z.cells.toList ps = some c) : Bld P t ps (.agg c.toArray) := by
  intro w
  have h1 := fill_eq hf
  rw [Array.toArray_toList] at h1
  simp only [Instr.build, Sem.run_bind, hz, Result.andThen_ok, run_underlying hu, hs]
  rw [h1]; rfl
theorem part1 {P : Program} {et : TypeId} (ha : ∀ w, (isAgg et).run P w = .ok false w) {cs : Array Value} {j : Nat} {v : Value} (hv : cs[j]? = some v) (w : World) : (part et cs j).run P w = .ok v w := by
  simp only [part, Sem.run_bind, ha, Result.andThen_ok, hv]; rfl
theorem range2 : List.range' 0 2 = [0, 1] := rfl
theorem chk2 {P : Program} {kt et : TypeId} {kd : IntKind} (hu : P.underlying kt = some (.array 2 et)) (he : P.underlying et = some (.int kd)) (hs : ∀ w, (sizeOf et).run P w = .ok 1 w) (ha : ∀ w, (isAgg et).run P w = .ok false w) (e : Bool) (m : Nat) (a b : Int) (w : World) :
    (Instr.checkKey e (m + 2) kt (.agg #[.int kd a, .int kd b])).run P w = .ok () w := by
  rw [show m + 2 = (m + 1) + 1 from rfl, Instr.checkKey]
  simp only [Sem.run_bind, run_underlying hu, Result.andThen_ok, Std.Legacy.Range.forIn_eq_forIn_range', Std.Legacy.Range.size, Nat.sub_zero, Nat.add_one_sub_one, Nat.div_one, range2, List.forIn_cons, List.forIn_nil, hs, Nat.zero_mul, Nat.one_mul,
    part1 ha (cs := #[.int kd a, .int kd b]) (j := 0) (v := .int kd a) rfl, part1 ha (cs := #[.int kd a, .int kd b]) (j := 1) (v := .int kd b) rfl, Go.MapKept.run_checkKey he (k := .int kd a) rfl, Go.MapKept.run_checkKey he (k := .int kd b) rfl, Sem.run_pure]
theorem eqIn_int {P : Program} {t : TypeId} {kd : IntKind} (dd : Nat) {p q : Int} (hu : P.underlying t = some (.int kd)) (w : World) : (Op.equalIn (dd + 1) t (.int kd p) (.int kd q)).run P w = .ok (p == q) w := by
  simp only [Op.equalIn, Sem.run_bind, run_underlying hu, Result.andThen_ok]; simp
theorem eqIn2 {P : Program} {kt et : TypeId} {kd : IntKind} (hu : P.underlying kt = some (.array 2 et)) (he : P.underlying et = some (.int kd)) (hs : ∀ w, (sizeOf et).run P w = .ok 1 w) (ha : ∀ w, (isAgg et).run P w = .ok false w) (m : Nat) (a b c d : Int) (w : World) :
    (Op.equalIn (m + 2) kt (.agg #[.int kd a, .int kd b]) (.agg #[.int kd c, .int kd d])).run P w = .ok (a == c && b == d) w := by
  rw [show m + 2 = (m + 1) + 1 from rfl, Op.equalIn]
  simp only [Sem.run_bind, run_underlying hu, Result.andThen_ok, Std.Legacy.Range.forIn_eq_forIn_range', Std.Legacy.Range.size, Nat.sub_zero, Nat.add_one_sub_one, Nat.div_one, range2, List.forIn_cons, List.forIn_nil, hs, Nat.zero_mul, Nat.one_mul,
    part1 ha (cs := #[.int kd a, .int kd b]) (j := 0) (v := .int kd a) rfl, part1 ha (cs := #[.int kd c, .int kd d]) (j := 0) (v := .int kd c) rfl, eqIn_int m he]
  have p1 := part1 ha (cs := #[.int kd a, .int kd b]) (j := 1) (v := .int kd b) rfl w
  have p2 := part1 ha (cs := #[.int kd c, .int kd d]) (j := 1) (v := .int kd d) rfl w
  have p3 := eqIn_int (P := P) m (p := b) (q := d) he w
  cases h1 : a == c <;> cases h2 : b == d <;> simp [p1, p2, p3, h2]
/-- two ints as an array -/
def arr2 (p : Int × Int) : Value := .agg #[I64 p.1, I64 p.2]
theorem KeyOk.arr2 {P : Program} {kt et : TypeId} (hu : P.underlying kt = some (.array 2 et)) (he : P.underlying et = some (.int .i64)) (hs : ∀ w, (sizeOf et).run P w = .ok 1 w) (ha : ∀ w, (isAgg et).run P w = .ok false w) : KeyOk P kt Wit.arr2 (fun a b => a.1 == b.1 && a.2 == b.2) := by
  refine ⟨fun e a w => chk2 hu he hs ha e 9998 a.1 a.2 w, fun ev L k w => ?_⟩
  have hq : ∀ a b : Int × Int, (Op.equal kt (Wit.arr2 a) (Wit.arr2 b)).run P w = .ok (a.1 == b.1 && a.2 == b.2) w := fun a b => eqIn2 hu he hs ha 9998 a.1 a.2 b.1 b.2 w
  simp only [Instr.findKey, Sem.run_bind, run_underlying hu, Result.andThen_ok]
  cases L with
  | nil => rfl
  | cons p L =>
    have h0 : Instr.findNow (.array 2 et) (Wit.arr2 k) (ents Wit.arr2 ev (p :: L) 0) 0 = none := rfl
    rw [h0]
    exact findAsk_eq (q := fun a b : Int × Int => a.1 == b.1 && a.2 == b.2) hq
end
section
variable {P : Program} {r : Option Nat} {f : FuncId} {R : Value → World → Prop} {w0 : World} {S : List Nat} {Y : List (Nat × Obj)} {n : Nat} {k : List Item} {l : Fl} {h : Hl}
variable {ops : Array Oper} {i d : Nat} {rest : List Nat} {ty : TypeId} {pos : String} {aft : Array Edge} {g : Option (Nat × Bool)}
variable {κ ν : Type} {ek : κ → Value} {ev : ν → Value} {q : κ → κ → Bool}
/-- map[K]V{} -/
theorem GoH.mkMap (ek : κ → Value) (ev : ν → Value) {t : TypeId} (ho : ops[i]? = some ⟨some d, .makeMap t none, ty, pos, aft, g⟩) (hw : wantL ops l g = true) (hd : Nat.blt d n = true)
    (hk : ∀ b, GoH P r f R w0 S Y n (.inRegion ops rest :: k) ((d, .map (some b)) :: l) ((some b, mobj ek ev []) :: h)) : GoH P r f R w0 S Y n (.inRegion ops (i :: rest) :: k) l h :=
  .mem ho hw rfl rfl hd (fun t' w Ds _ hF hS => ⟨.map (some w.heap.size), w.alloc (.map #[] 0), _, by
    simp [execOp, Instr.makeMap], hS.alloc rfl, hk _⟩)
/-- v, ok := m[x] -/
theorem Vop.lkup {t kt el : TypeId} (hK : KeyOk P kt ek q) {z : Value} {x ix : Operand} {b : Nat} {a : κ} {L : List (κ × ν)} (ho : ops[i]? = some ⟨some d, .lookup t x ix true, ty, pos, aft, g⟩) (hw : wantL ops l g = true)
    (hx : opd l x = some (.map (some b))) (hy : opd l ix = some (ek a)) (hd : Nat.blt d n = true) (hu : P.underlying t = some (.map kt el)) (hz : ∀ w, (zeroValue el).run P w = .ok z w) (j : Nat) (hj : h[j]? = some (some b, mobj ek ev L)) :
    Vop P w0 S n h ops i l d (.tuple #[((mget q L a).map ev).getD z, .bool (mget q L a).isSome]) :=
  .of ho hw rfl rfl hd (fun t' w Ds _ hF hS => ⟨.value (.tuple #[((mget q L a).map ev).getD z, .bool (mget q L a).isSome]), by
    have hg : (getObj b).run P w = .ok (mobj ek ev L) w := by simp [getObj, Sem.run, hS.get hj]
    have hf := hK.find ev L a w
    have e1 : (found q ev L a 0).map (·.2) = (mget q L a).map ev := found_mget
    simp only [execOp, hF.opd hx, hF.opd hy, Sem.run_bind, Instr.lookup, run_underlying hu, Result.andThen_ok, hg, hK.chk, Sem.run_pure, hf]
    cases hfo : found q ev L a 0 with
    | none =>
      rw [hfo] at e1
      cases ha : mget q L a with
      | none => simp [hz]
      | some v => rw [ha] at e1; cases e1
    | some y =>
      rw [hfo] at e1
      cases ha : mget q L a with
      | none => rw [ha] at e1; cases e1
      | some v => rw [ha] at e1; simp at e1 ⊢; exact e1, rfl⟩)
/-- m[x], x being in m -/
theorem Vop.lkup1 {t kt el : TypeId} (hK : KeyOk P kt ek q) {x ix : Operand} {b : Nat} {a : κ} {v : ν} {L : List (κ × ν)} (ho : ops[i]? = some ⟨some d, .lookup t x ix false, ty, pos, aft, g⟩) (hw : wantL ops l g = true)
    (hx : opd l x = some (.map (some b))) (hy : opd l ix = some (ek a)) (hd : Nat.blt d n = true) (hu : P.underlying t = some (.map kt el)) (j : Nat) (hj : h[j]? = some (some b, mobj ek ev L)) (hv : mget q L a = some v) :
    Vop P w0 S n h ops i l d (ev v) :=
  .of ho hw rfl rfl hd (fun t' w Ds _ hF hS => ⟨.value (ev v), by
    have hg : (getObj b).run P w = .ok (mobj ek ev L) w := by simp [getObj, Sem.run, hS.get hj]
    have hf := hK.find ev L a w
    have e1 : (found q ev L a 0).map (·.2) = (mget q L a).map ev := found_mget
    rw [hv] at e1
    simp only [execOp, hF.opd hx, hF.opd hy, Sem.run_bind, Instr.lookup, run_underlying hu, Result.andThen_ok, hg, hK.chk, Sem.run_pure, hf]
    cases hfo : found q ev L a 0 with
    | none => rw [hfo] at e1; cases e1
    | some y => rw [hfo] at e1; simp at e1 ⊢; exact e1, rfl⟩)
/-- len(m) -/
theorem Vop.lenM {t kt el : TypeId} {x : Operand} {b : Nat} {L : List (κ × ν)} (ho : ops[i]? = some ⟨some d, .call ⟨.builtin .len, #[x], #[t]⟩, ty, pos, aft, g⟩) (hw : wantL ops l g = true)
    (hx : opd l x = some (.map (some b))) (hd : Nat.blt d n = true) (hu : P.underlying t = some (.map kt el)) (j : Nat) (hj : h[j]? = some (some b, mobj ek ev L)) : Vop P w0 S n h ops i l d (.int .i64 (L.length : Int)) :=
  .of ho hw rfl rfl hd (fun t' w Ds _ hF hS => ⟨.value (.int .i64 (L.length : Int)), by
    have hg : (getObj b).run P w = .ok (mobj ek ev L) w := by simp [getObj, Sem.run, hS.get hj]
    have e1 : (#[x] : Array Operand).map (Act.eval ⟨t', Ds.map mark⟩) = #[.map (some b)] := by simp [hF.opd hx]
    simp only [execOp, resolve, e1, Sem.run_bind, Sem.run_pure, Result.andThen_ok, invoke, builtin, Builtin.len_]
    simp [run_underlying hu, hg, goInt, ents_length], rfl⟩)
theorem found_none : ∀ {L : List (κ × ν)} {a : κ} {i : Nat}, mget q L a = none → found q ev L a i = none
  | [], _, _, _ => rfl
  | p :: L, a, i, h => by
    rw [mget] at h
    rw [found]
    split at h
    · cases h
    · rename_i hq; rw [if_neg hq]; exact found_none h
theorem mapUpd_run {t kt el : TypeId} (hK : KeyOk P kt ek q) {b : Nat} {a : κ} {v : ν} {L : List (κ × ν)} {w : World} (hu : P.underlying t = some (.map kt el)) (hb : w.heap[b]? = some (mobj ek ev L)) (ha : mget q L a = none) :
    (Instr.mapUpdate t (.map (some b)) (ek a) (ev v)).run P w = .ok () { w with heap := w.heap.setIfInBounds b (mobj ek ev (L ++ [(a, v)])) } := by
  have hg : (getObj b).run P w = .ok (mobj ek ev L) w := by simp [getObj, Sem.run, hb]
  have hf := hK.find ev L a w
  rw [found_none ha] at hf
  simp only [Instr.mapUpdate, Sem.run_bind, run_underlying hu, Result.andThen_ok, hg, hK.chk, hf]
  have e1 : ((ents ek ev L 0).toArray.push ⟨ek a, ev v, L.length⟩) = (ents ek ev (L ++ [(a, v)]) 0).toArray := by rw [ents_append]; simp
  rw [e1]
  simp [setObj, Sem.run, hb, mobj]
/-- m[x] = v, x not being in m before -/
theorem GoH.mapIns {t kt el : TypeId} (hK : KeyOk P kt ek q) {m x y : Operand} {b : Nat} {a : κ} {v : ν} {L : List (κ × ν)} {o : Oper} (ho : ops[i]? = some o) (hop : o.op = .mapUpdate t m x y ∨ o.op = .insert t m x y) (hdst : o.dst = none) (hw : wantL ops l o.guard = true)
    (hm : opd l m = some (.map (some b))) (hx : opd l x = some (ek a)) (hy : opd l y = some (ev v)) (hu : P.underlying t = some (.map kt el)) (j : Nat) (hj : h[j]? = some (some b, mobj ek ev L)) (ha : mget q L a = none)
    (hk : GoH P r f R w0 S Y n (.inRegion ops rest :: k) l (h.set j (some b, mobj ek ev (L ++ [(a, v)])))) : GoH P r f R w0 S Y n (.inRegion ops (i :: rest) :: k) l h :=
  .eff ho hw hdst (by rcases hop with e | e <;> rw [e] <;> rfl) (fun t' w Ds _ hF hS => by
    have hb := hS.get hj
    refine ⟨{ w with heap := w.heap.setIfInBounds b (mobj ek ev (L ++ [(a, v)])) }, _, ?_, hS.turn hj (o' := mobj ek ev (L ++ [(a, v)])) rfl rfl rfl rfl (by simp) ?_ ?_, hk⟩
    · have hrun := mapUpd_run hK (v := v) hu hb ha
      unfold execOp
      rcases hop with e | e <;> rw [e] <;> simp only [hF.opd hm, hF.opd hx, hF.opd hy, Sem.run_bind, hrun] <;> rfl
    · have hlt := hS.lt hj
      simp [hlt]
    · intro q _ hq
      simp [Ne.symm hq])
end
end Go.Proofs.Wit
namespace Go.Proofs.Wit
open Go Go.RowKit
/-! nodes in memory: loads, equality, keys of maps -/
def NV.v (n : NV) : Value := .agg #[I64 n.op, I64 n.i, I64 n.e, I64 n.g, I64 n.x, I64 n.y]
/-- the nodes of a list in memory -/
structure FA (w : World) (a : Option Addr) (f : List NV) : Prop where
  at_ : Sl w a (f.flatMap NV.cells)
theorem FA.ex0 {w0 w : World} {a : Option Addr} {f : List NV} (h : FA w0 a f) {S : List Nat} (e : Ex S w0 w) (hS : ∀ b o, a = some ⟨b, o, none⟩ → b ∉ S := by simp) : FA w a f := ⟨Sl.ex h.at_ e hS⟩
abbrev obN (e : TypeId) (ns : List NV) (sp : List Value) : Obj := .cells (ns.flatMap NV.cells ++ sp).toArray e (0, 0)
theorem flatN {ns : List NV} : (ns.flatMap NV.cells).length = ns.length * 6 := flat_len (enc := NV.cells) (sz := 6) (fun _ => rfl)
theorem faAt {w0 w : World} {S : List Nat} {h : Hl} {Y : List (Nat × Obj)} (s : St w0 S w h Y) (j : Nat) {q : Option Nat} {ns : List NV} {e : TypeId} {sp : List Value} (hj : h[j]? = some (q, obN e ns sp)) (hq : q = none → ns.length = 0) : FA w (q.map (fun b => ⟨b, 0, none⟩)) ns := by
  cases q with
  | none => rw [List.eq_nil_of_length_eq_zero (hq rfl)]; exact ⟨Sl.nil _ _⟩
  | some b => exact ⟨Sl.blk (s.get hj)⟩
/-- a list in a block of one's own, or nil -/
def OwnN (e : TypeId) (w w' : World) (v : Value) (ns : List NV) : Prop :=
  ∃ q cap sp, v = osv q ns.length cap ∧ (q = none → ns.length = 0 ∧ cap = 0) ∧ (ns.flatMap NV.cells ++ sp).length = cap * 6 ∧ ∀ b, q = some b → w.heap.size ≤ b ∧ w'.heap[b]? = some (obN e ns sp)
theorem gainN {t : TypeId} {w0 w w' : World} {S : List Nat} {h : Hl} {Y : List (Nat × Obj)} (s : St w0 S w h Y) (e : Ex [] w w') {v : Value} {ns : List NV} (ho : OwnN t w w' v ns) :
    ∃ q cap sp, v = osv q ns.length cap ∧ (q = none → ns.length = 0 ∧ cap = 0) ∧ (ns.flatMap NV.cells ++ sp).length = cap * 6 ∧ St w0 S w' ((q, obN t ns sp) :: h) Y := by
  obtain ⟨q, cap, sp, h1, h2, h3, h4⟩ := ho
  refine ⟨q, cap, sp, h1, h2, h3, ?_⟩
  cases q with
  | none => exact (s.later e).none _
  | some b => exact s.gain e (h4 b rfl).2 rfl (h4 b rfl).1
theorem OwnN.mk {t : TypeId} {w0 w : World} {h : Hl} {Y : List (Nat × Obj)} (s : St w0 [] w h Y) (j : Nat) {q : Option Nat} {ns : List NV} {sp : List Value} {cap m : Nat} (hj : h[j]? = some (q, obN t ns sp)) (hm : m = ns.length)
    (hq : q = none → ns.length = 0 ∧ cap = 0) (hcap : (ns.flatMap NV.cells ++ sp).length = cap * 6) : OwnN t w0 w (osv q m cap) ns := by
  subst hm
  refine ⟨q, cap, sp, rfl, hq, hcap, fun b hb => ?_⟩
  subst hb
  exact ⟨s.fresh hj, s.get hj⟩
theorem OwnN.nil0 {t : TypeId} {w w' : World} : OwnN t w w' (.slice none 0 0) [] := ⟨none, 0, [], rfl, fun _ => ⟨rfl, rfl⟩, rfl, fun _ e => by cases e⟩
section
variable {P : Program} {r : Option Nat} {f : FuncId} {R : Value → World → Prop} {w0 : World} {S : List Nat} {Y : List (Nat × Obj)} {n : Nat} {k : List Item} {l : Fl} {h : Hl}
variable {ops : Array Oper} {i d : Nat} {rest : List Nat} {ty : TypeId} {pos : String} {aft : Array Edge} {g : Option (Nat × Bool)}
/-- a pointer that is not nil -/
theorem Vop.nilCk {x : Operand} {a : Addr} (ho : ops[i]? = some ⟨some d, .nilCheck x, ty, pos, aft, g⟩) (hw : wantL ops l g = true) (hx : opd l x = some (.pointer (some a))) (hd : Nat.blt d n = true) : Vop P w0 S n h ops i l d (.pointer (some a)) :=
  .of ho hw rfl rfl hd (fun t' w Ds _ hF hS => ⟨.value (.pointer (some a)), by simp only [execOp, hF.opd hx]; rfl, rfl⟩)
end
/-- the fields of a node, all of them of a type of ints -/
def nodeFs (fs : Array Field) (it : TypeId) : Prop := ∃ f0 f1 f2 f3 f4 f5 : Field, fs = #[f0, f1, f2, f3, f4, f5] ∧
  (f0.name ≠ "_" ∧ f0.type = it ∧ f0.offset = 0) ∧ (f1.name ≠ "_" ∧ f1.type = it ∧ f1.offset = 1) ∧ (f2.name ≠ "_" ∧ f2.type = it ∧ f2.offset = 2) ∧
  (f3.name ≠ "_" ∧ f3.type = it ∧ f3.offset = 3) ∧ (f4.name ≠ "_" ∧ f4.type = it ∧ f4.offset = 4) ∧ (f5.name ≠ "_" ∧ f5.type = it ∧ f5.offset = 5)
theorem eqIn_node {P : Program} {t it : TypeId} {fs : Array Field} (hu : P.underlying t = some (.struct fs)) (hfs : nodeFs fs it) (hi : P.underlying it = some (.int .i64)) (ha : ∀ w, (isAgg it).run P w = .ok false w) (hst : P.stoodInHeld t = false) (m : Nat) (a b : NV) (w : World) :
    (Op.equalIn (m + 2) t a.v b.v).run P w = .ok (a == b) w := by
  obtain ⟨f0, f1, f2, f3, f4, f5, rfl, ⟨n0, t0, o0⟩, ⟨n1, t1, o1⟩, ⟨n2, t2, o2⟩, ⟨n3, t3, o3⟩, ⟨n4, t4, o4⟩, ⟨n5, t5, o5⟩⟩ := hfs
  have hp : ∀ (c : NV) (w : World), (part it c.v.cells 0).run P w = .ok (I64 c.op) w ∧ (part it c.v.cells 1).run P w = .ok (I64 c.i) w ∧ (part it c.v.cells 2).run P w = .ok (I64 c.e) w ∧ (part it c.v.cells 3).run P w = .ok (I64 c.g) w ∧ (part it c.v.cells 4).run P w = .ok (I64 c.x) w ∧ (part it c.v.cells 5).run P w = .ok (I64 c.y) w := fun c w =>
    ⟨part1 ha rfl w, part1 ha rfl w, part1 ha rfl w, part1 ha rfl w, part1 ha rfl w, part1 ha rfl w⟩
  obtain ⟨a0, a1, a2, a3, a4, a5⟩ := hp a w
  obtain ⟨b0, b1, b2, b3, b4, b5⟩ := hp b w
  have hq : ∀ p q : Int, (Op.equalIn (m + 1) it (.int .i64 p) (.int .i64 q)).run P w = .ok (p == q) w := fun p q => eqIn_int m hi w
  have hv : ∀ c : NV, c.v = .agg c.v.cells := fun c => rfl
  rw [hv a, hv b, show m + 2 = (m + 1) + 1 from rfl, Op.equalIn]
  have hprog : (program : Sem Program).run P w = .ok P w := rfl
  simp only [Sem.run_bind, run_underlying hu, Result.andThen_ok, hprog, hst, ← Array.forIn_toList]
  have hab : (a == b) = (a.op == b.op && (a.i == b.i && (a.e == b.e && (a.g == b.g && (a.x == b.x && a.y == b.y))))) := by
    rw [Bool.eq_iff_iff]
    simp only [beq_iff_eq, Bool.and_eq_true]
    obtain ⟨_, _, _, _, _, _⟩ := a
    obtain ⟨_, _, _, _, _, _⟩ := b
    simp [NV.mk.injEq]
  rw [hab]
  cases h0 : a.op == b.op
  · simp [n0, t0, o0, a0, b0, hq, h0]
  cases h1 : a.i == b.i
  · simp [n0, t0, o0, a0, b0, hq, h0, n1, t1, o1, a1, b1, h1]
  cases h2 : a.e == b.e
  · simp [n0, t0, o0, a0, b0, hq, h0, n1, t1, o1, a1, b1, h1, n2, t2, o2, a2, b2, h2]
  cases h3 : a.g == b.g
  · simp [n0, t0, o0, a0, b0, hq, h0, n1, t1, o1, a1, b1, h1, n2, t2, o2, a2, b2, h2, n3, t3, o3, a3, b3, h3]
  cases h4 : a.x == b.x
  · simp [n0, t0, o0, a0, b0, hq, h0, n1, t1, o1, a1, b1, h1, n2, t2, o2, a2, b2, h2, n3, t3, o3, a3, b3, h3, n4, t4, o4, a4, b4, h4]
  cases h5 : a.y == b.y
  · simp [n0, t0, o0, a0, b0, hq, h0, n1, t1, o1, a1, b1, h1, n2, t2, o2, a2, b2, h2, n3, t3, o3, a3, b3, h3, n4, t4, o4, a4, b4, h4, n5, t5, o5, a5, b5, h5]
  · simp [n0, t0, o0, a0, b0, hq, h0, n1, t1, o1, a1, b1, h1, n2, t2, o2, a2, b2, h2, n3, t3, o3, a3, b3, h3, n4, t4, o4, a4, b4, h4, n5, t5, o5, a5, b5, h5]
theorem chk_node {P : Program} {t it : TypeId} {fs : Array Field} (hu : P.underlying t = some (.struct fs)) (hfs : nodeFs fs it) (hi : P.underlying it = some (.int .i64)) (ha : ∀ w, (isAgg it).run P w = .ok false w) (e : Bool) (m : Nat) (a : NV) (w : World) :
    (Instr.checkKey e (m + 2) t a.v).run P w = .ok () w := by
  obtain ⟨f0, f1, f2, f3, f4, f5, rfl, ⟨n0, t0, o0⟩, ⟨n1, t1, o1⟩, ⟨n2, t2, o2⟩, ⟨n3, t3, o3⟩, ⟨n4, t4, o4⟩, ⟨n5, t5, o5⟩⟩ := hfs
  have a0 : (part it a.v.cells 0).run P w = .ok (I64 a.op) w := part1 ha rfl w
  have a1 : (part it a.v.cells 1).run P w = .ok (I64 a.i) w := part1 ha rfl w
  have a2 : (part it a.v.cells 2).run P w = .ok (I64 a.e) w := part1 ha rfl w
  have a3 : (part it a.v.cells 3).run P w = .ok (I64 a.g) w := part1 ha rfl w
  have a4 : (part it a.v.cells 4).run P w = .ok (I64 a.x) w := part1 ha rfl w
  have a5 : (part it a.v.cells 5).run P w = .ok (I64 a.y) w := part1 ha rfl w
  have hk : ∀ p : Int, (Instr.checkKey e (m + 1) it (.int .i64 p)).run P w = .ok () w := fun p => Go.MapKept.run_checkKey hi (by simp [Go.MapKept.IsKey]) e m
  rw [show a.v = .agg a.v.cells from rfl, show m + 2 = (m + 1) + 1 from rfl, Instr.checkKey]
  simp only [Sem.run_bind, run_underlying hu, Result.andThen_ok, ← Array.forIn_toList]
  simp [n0, t0, o0, a0, hk, n1, t1, o1, a1, n2, t2, o2, a2, n3, t3, o3, a3, n4, t4, o4, a4, n5, t5, o5, a5]
theorem KeyOk.node {P : Program} {t it : TypeId} {fs : Array Field} (hu : P.underlying t = some (.struct fs)) (hfs : nodeFs fs it) (hi : P.underlying it = some (.int .i64)) (ha : ∀ w, (isAgg it).run P w = .ok false w) (hst : P.stoodInHeld t = false) : KeyOk P t NV.v (fun a b => a == b) := by
  refine ⟨fun e a w => chk_node hu hfs hi ha e 9998 a w, fun ev L k w => ?_⟩
  have hq : ∀ a b : NV, (Op.equal t a.v b.v).run P w = .ok (a == b) w := fun a b => eqIn_node hu hfs hi ha hst 9998 a b w
  simp only [Instr.findKey, Sem.run_bind, run_underlying hu, Result.andThen_ok]
  cases L with
  | nil => rfl
  | cons p L =>
    have h0 : Instr.findNow (.struct fs) k.v (ents NV.v ev (p :: L) 0) 0 = none := rfl
    rw [h0]
    exact findAsk_eq (q := fun a b : NV => a == b) hq
end Go.Proofs.Wit
namespace Go.Proofs.Wit
open Go Go.RowKit
/-! the steps of a walk, in short -/
section
variable {P : Program} {r : Option Nat} {f : FuncId} {R : Value → World → Prop} {w0 : World} {S : List Nat} {Y : List (Nat × Obj)} {n : Nat} {k : List Item} {l : Fl} {h : Hl} {ops : Array Oper} {i d m : Nat} {rest : List Nat} {ty : TypeId} {pos : String} {aft : Array Edge} {g : Option (Nat × Bool)}
theorem gE (hk : GoH P r f R w0 S Y n k l h) : GoH P r f R w0 S Y n (.inRegion ops [] :: k) l h := .regionEnd hk
theorem gS {x y : Code} (hk : GoH P r f R w0 S Y n (.code x :: .code y :: k) l h) : GoH P r f R w0 S Y n (.code (.seq x y) :: k) l h := .seq hk
theorem gR {id : Nat} (hk : GoH P r f R w0 S Y n (.inRegion ops (List.range' 0 ops.size) :: k) l h) : GoH P r f R w0 S Y n (.code (.region id ops false) :: k) l h := .region hk
theorem gK (hk : GoH P r f R w0 S Y n k l h) : GoH P r f R w0 S Y n (.code .skip :: k) l h := .skip hk
theorem gB {id : Nat} {c : Code} (hk : GoH P r f R w0 S Y n (.code c :: .inBlock id :: k) l h) : GoH P r f R w0 S Y n (.code (.block id c) :: k) l h := .block hk
theorem gIb {id : Nat} (hk : GoH P r f R w0 S Y n k l h) : GoH P r f R w0 S Y n (.inBlock id :: k) l h := .inBlock hk
theorem gMv {x : Operand} {v : Value} (hk : GoH P r f R w0 S Y n (.inRegion ops rest :: k) ((d, v) :: l) h) (ho : ops[i]? = some ⟨some d, .move x, ty, pos, aft, g⟩ := by exact rfl) (hw : wantL ops l g = true := by exact rfl) (hx : opd l x = some v := by exact rfl) (hd : Nat.blt d n = true := by exact rfl) : GoH P r f R w0 S Y n (.inRegion ops (i :: rest) :: k) l h := GoH.v (.mv ho hw hx hd) hk
theorem rMv {x : Operand} {v : Value} (hk : RdGo P r f R w0 S Y n k ops (i + 1) m ((d, v) :: l) h) (ho : ops[i]? = some ⟨some d, .move x, ty, pos, aft, g⟩ := by exact rfl) (hw : wantL ops l g = true := by exact rfl) (hx : opd l x = some v := by exact rfl) (hd : Nat.blt d n = true := by exact rfl) : RdGo P r f R w0 S Y n k ops i (m + 1) l h := RdGo.v (.mv ho hw hx hd) hk
theorem gAs {x : Operand} {v : Value} (hk : GoH P r f R w0 S Y n (.inRegion ops rest :: k) ((d, v) :: l) h) (ho : ops[i]? = some ⟨some d, .assign x, ty, pos, aft, g⟩ := by exact rfl) (hw : wantL ops l g = true := by exact rfl) (hx : opd l x = some v := by exact rfl) (hd : Nat.blt d n = true := by exact rfl) : GoH P r f R w0 S Y n (.inRegion ops (i :: rest) :: k) l h := GoH.v (.asg ho hw hx hd) hk
theorem rAs {x : Operand} {v : Value} (hk : RdGo P r f R w0 S Y n k ops (i + 1) m ((d, v) :: l) h) (ho : ops[i]? = some ⟨some d, .assign x, ty, pos, aft, g⟩ := by exact rfl) (hw : wantL ops l g = true := by exact rfl) (hx : opd l x = some v := by exact rfl) (hd : Nat.blt d n = true := by exact rfl) : RdGo P r f R w0 S Y n k ops i (m + 1) l h := RdGo.v (.asg ho hw hx hd) hk
theorem gPt {c x y : Operand} {u : Value} (hk : GoH P r f R w0 S Y n (.inRegion ops rest :: k) ((d, u) :: l) h) (ho : ops[i]? = some ⟨some d, .pick c x y, ty, pos, aft, g⟩ := by exact rfl) (hw : wantL ops l g = true := by exact rfl) (hc : opd l c = some (.bool true) := by exact rfl) (hx : opd l x = some u := by exact rfl) (hd : Nat.blt d n = true := by exact rfl) : GoH P r f R w0 S Y n (.inRegion ops (i :: rest) :: k) l h := GoH.v (.pickT ho hw hc hx hd) hk
theorem gPf {c x y : Operand} {u : Value} (hk : GoH P r f R w0 S Y n (.inRegion ops rest :: k) ((d, u) :: l) h) (ho : ops[i]? = some ⟨some d, .pick c x y, ty, pos, aft, g⟩ := by exact rfl) (hw : wantL ops l g = true := by exact rfl) (hc : opd l c = some (.bool false) := by exact rfl) (hx : opd l y = some u := by exact rfl) (hd : Nat.blt d n = true := by exact rfl) : GoH P r f R w0 S Y n (.inRegion ops (i :: rest) :: k) l h := GoH.v (.pickF ho hw hc hx hd) hk
theorem gNk {x : Operand} {a : Addr} (hk : GoH P r f R w0 S Y n (.inRegion ops rest :: k) ((d, .pointer (some a)) :: l) h) (ho : ops[i]? = some ⟨some d, .nilCheck x, ty, pos, aft, g⟩ := by exact rfl) (hw : wantL ops l g = true := by exact rfl) (hx : opd l x = some (.pointer (some a)) := by exact rfl) (hd : Nat.blt d n = true := by exact rfl) : GoH P r f R w0 S Y n (.inRegion ops (i :: rest) :: k) l h := GoH.v (.nilCk ho hw hx hd) hk
theorem gEx {x : Operand} {j : Nat} {vs : Array Value} {v : Value} (hk : GoH P r f R w0 S Y n (.inRegion ops rest :: k) ((d, v) :: l) h) (ho : ops[i]? = some ⟨some d, .extract x j, ty, pos, aft, g⟩ := by exact rfl) (hw : wantL ops l g = true := by exact rfl) (hx : opd l x = some (.tuple vs) := by exact rfl) (hb : vs[j]? = some v := by exact rfl) (hd : Nat.blt d n = true := by exact rfl) : GoH P r f R w0 S Y n (.inRegion ops (i :: rest) :: k) l h := GoH.v (.ext ho hw hx hb hd) hk
theorem gUn {o : UnOp} {tx : TypeId} {x : Operand} {a v : Value} (hb : Una P o a v) (hk : GoH P r f R w0 S Y n (.inRegion ops rest :: k) ((d, v) :: l) h) (ho : ops[i]? = some ⟨some d, .unOp o tx x, ty, pos, aft, g⟩ := by exact rfl) (hw : wantL ops l g = true := by exact rfl) (hx : opd l x = some a := by exact rfl) (hd : Nat.blt d n = true := by exact rfl) : GoH P r f R w0 S Y n (.inRegion ops (i :: rest) :: k) l h := GoH.v (.un ho hw hx hb hd) hk
theorem gBi {o : BinOp} {tx tyy : TypeId} {x y : Operand} {a b v : Value} (hb : Bin P o tx a b v) (hk : GoH P r f R w0 S Y n (.inRegion ops rest :: k) ((d, v) :: l) h) (ho : ops[i]? = some ⟨some d, .binOp o tx x y tyy, ty, pos, aft, g⟩ := by exact rfl) (hw : wantL ops l g = true := by exact rfl) (hx : opd l x = some a := by exact rfl) (hy : opd l y = some b := by exact rfl) (hd : Nat.blt d n = true := by exact rfl) : GoH P r f R w0 S Y n (.inRegion ops (i :: rest) :: k) l h := GoH.v (.bin ho hw hx hy hb hd) hk
theorem rBi {o : BinOp} {tx tyy : TypeId} {x y : Operand} {a b v : Value} (hb : Bin P o tx a b v) (hk : RdGo P r f R w0 S Y n k ops (i + 1) m ((d, v) :: l) h) (ho : ops[i]? = some ⟨some d, .binOp o tx x y tyy, ty, pos, aft, g⟩ := by exact rfl) (hw : wantL ops l g = true := by exact rfl) (hx : opd l x = some a := by exact rfl) (hy : opd l y = some b := by exact rfl) (hd : Nat.blt d n = true := by exact rfl) : RdGo P r f R w0 S Y n k ops i (m + 1) l h := RdGo.v (.bin ho hw hx hy hb hd) hk
theorem gLo {t : TypeId} {x : Operand} {b off : Nat} {cs : Array Value} {e : TypeId} {fr : Nat × Nat} {v : Value} (ha : ∀ w, (isAgg t).run P w = .ok false w) (j : Nat) (hk : GoH P r f R w0 S Y n (.inRegion ops rest :: k) ((d, v) :: l) h) (ho : ops[i]? = some ⟨some d, .load t x, ty, pos, aft, g⟩ := by exact rfl) (hw : wantL ops l g = true := by exact rfl) (hx : opd l x = some (.pointer (some ⟨b, off, none⟩)) := by exact rfl) (hd : Nat.blt d n = true := by exact rfl) (hj : h[j]? = some (some b, .cells cs e fr) := by exact rfl) (hv : cs[off]? = some v := by exact rfl) : GoH P r f R w0 S Y n (.inRegion ops (i :: rest) :: k) l h := GoH.v (.ldo ho hw hx hd ha j hj hv) hk
theorem rLo {t : TypeId} {x : Operand} {b off : Nat} {cs : Array Value} {e : TypeId} {fr : Nat × Nat} {v : Value} (ha : ∀ w, (isAgg t).run P w = .ok false w) (j : Nat) (hk : RdGo P r f R w0 S Y n k ops (i + 1) m ((d, v) :: l) h) (ho : ops[i]? = some ⟨some d, .load t x, ty, pos, aft, g⟩ := by exact rfl) (hw : wantL ops l g = true := by exact rfl) (hx : opd l x = some (.pointer (some ⟨b, off, none⟩)) := by exact rfl) (hd : Nat.blt d n = true := by exact rfl) (hj : h[j]? = some (some b, .cells cs e fr) := by exact rfl) (hv : cs[off]? = some v := by exact rfl) : RdGo P r f R w0 S Y n k ops i (m + 1) l h := RdGo.v (.ldo ho hw hx hd ha j hj hv) hk
theorem gFp {s tt : TypeId} {x : Operand} {b o q : Nat} {fs : Array Field} {fd : Field} {sz : Nat} (hu : P.underlying s = some (.struct fs)) (he : ∀ w, (sizeOf tt).run P w = .ok (sz + 1) w) (o' : Nat) (hk : GoH P r f R w0 S Y n (.inRegion ops rest :: k) ((d, .pointer (some ⟨b, o', none⟩)) :: l) h) (ho : ops[i]? = some ⟨some d, .fieldAddr s x q, ty, pos, aft, g⟩ := by exact rfl) (hw : wantL ops l g = true := by exact rfl) (hx : opd l x = some (.pointer (some ⟨b, o, none⟩)) := by exact rfl) (hd : Nat.blt d n = true := by exact rfl) (hq : fs[q]? = some fd := by exact rfl) (ht : fd.type = tt := by exact rfl) (hO : o + fd.offset = o' := by exact rfl) : GoH P r f R w0 S Y n (.inRegion ops (i :: rest) :: k) l h := GoH.v (.fldP ho hw hx hd hu hq (ht ▸ he) o' hO) hk
theorem rFp {s tt : TypeId} {x : Operand} {b o q : Nat} {fs : Array Field} {fd : Field} {sz : Nat} (hu : P.underlying s = some (.struct fs)) (he : ∀ w, (sizeOf tt).run P w = .ok (sz + 1) w) (o' : Nat) (hk : RdGo P r f R w0 S Y n k ops (i + 1) m ((d, .pointer (some ⟨b, o', none⟩)) :: l) h) (ho : ops[i]? = some ⟨some d, .fieldAddr s x q, ty, pos, aft, g⟩ := by exact rfl) (hw : wantL ops l g = true := by exact rfl) (hx : opd l x = some (.pointer (some ⟨b, o, none⟩)) := by exact rfl) (hd : Nat.blt d n = true := by exact rfl) (hq : fs[q]? = some fd := by exact rfl) (ht : fd.type = tt := by exact rfl) (hO : o + fd.offset = o' := by exact rfl) : RdGo P r f R w0 S Y n k ops i (m + 1) l h := RdGo.v (.fldP ho hw hx hd hu hq (ht ▸ he) o' hO) hk
theorem gBl {t e : TypeId} {az : Operand} {a : Option Addr} {q c : Nat} (hu : P.underlying t = some (.slice e)) (hk : GoH P r f R w0 S Y n (.inRegion ops rest :: k) ((d, .int .i64 q) :: l) h) (ho : ops[i]? = some ⟨some d, .call ⟨.builtin .len, #[az], #[t]⟩, ty, pos, aft, g⟩ := by exact rfl) (hw : wantL ops l g = true := by exact rfl) (hx : opds l [az] = some [.slice a q c] := by exact rfl) (hd : Nat.blt d n = true := by exact rfl) : GoH P r f R w0 S Y n (.inRegion ops (i :: rest) :: k) l h := GoH.v (.blt ho hw hx (blt_len_slice hu) hd) hk
theorem rBl {t e : TypeId} {az : Operand} {a : Option Addr} {q c : Nat} (hu : P.underlying t = some (.slice e)) (hk : RdGo P r f R w0 S Y n k ops (i + 1) m ((d, .int .i64 q) :: l) h) (ho : ops[i]? = some ⟨some d, .call ⟨.builtin .len, #[az], #[t]⟩, ty, pos, aft, g⟩ := by exact rfl) (hw : wantL ops l g = true := by exact rfl) (hx : opds l [az] = some [.slice a q c] := by exact rfl) (hd : Nat.blt d n = true := by exact rfl) : RdGo P r f R w0 S Y n k ops i (m + 1) l h := RdGo.v (.blt ho hw hx (blt_len_slice hu) hd) hk
theorem gNo {o : Oper} (hk : GoH P r f R w0 S Y n (.inRegion ops rest :: k) ((d, undef) :: l) h) (ho : ops[i]? = some o := by exact rfl) (hw : skipL ops l o.guard = true := by exact rfl) (hdst : o.dst = some d := by exact rfl) (hd : Nat.blt d n = true := by exact rfl) : GoH P r f R w0 S Y n (.inRegion ops (i :: rest) :: k) l h := GoH.no ho hw hdst hd hk
end
end Go.Proofs.Wit
