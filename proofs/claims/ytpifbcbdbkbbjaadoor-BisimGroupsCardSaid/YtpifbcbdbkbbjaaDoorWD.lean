/- Laws of a calculus of walks, proved for any program: no condition beyond those that each theorem states. -/
import Derived.Test.YtpifbcbdbkbbjaaDoorWB
import Derived.MapKept
import Derived.Test.YtpifbcbdbkbbjaaDoorWC
namespace Go.Proofs.Wit
open Go Go.RowKit
/-! maps -/
section
variable {κ ν : Type}
/-- the entries of a map that nothing was ever taken out of -/
def ents (ek : κ → Value) (ev : ν → Value) : List (κ × ν) → Nat → List MapEntry
  | [], _ => []
  | p :: L, i => ⟨ek p.1, ev p.2, i⟩ :: ents ek ev L (i + 1)
abbrev mobj (ek : κ → Value) (ev : ν → Value) (L : List (κ × ν)) : Obj := .map (ents ek ev L 0).toArray L.length
def mget (q : κ → κ → Bool) : List (κ × ν) → κ → Option ν
  | [], _ => none
  | p :: L, k => if q k p.1 = true then some p.2 else mget q L k
variable {ek : κ → Value} {ev : ν → Value} {q : κ → κ → Bool}
theorem ents_length : ∀ {L : List (κ × ν)} {i : Nat}, (ents ek ev L i).length = L.length
  | [], _ => rfl
  | p :: L, i => by rw [ents, List.length_cons, ents_length, List.length_cons]
theorem ents_append : ∀ {L : List (κ × ν)} {k : κ} {v : ν} {i : Nat}, ents ek ev (L ++ [(k, v)]) i = ents ek ev L i ++ [⟨ek k, ev v, i + L.length⟩]
  | [], k, v, i => rfl
  | p :: L, k, v, i => by rw [List.cons_append, ents, ents_append, ents, List.cons_append, List.length_cons, Nat.add_assoc, Nat.add_comm 1]
/-- a key is found by the first entry whose key is equal -/
def found (q : κ → κ → Bool) (ev : ν → Value) : List (κ × ν) → κ → Nat → Option (Nat × Value)
  | [], _, _ => none
  | p :: L, k, i => if q k p.1 = true then some (i, ev p.2) else found q ev L k (i + 1)
theorem found_mget : ∀ {L : List (κ × ν)} {k : κ} {i : Nat}, (found q ev L k i).map (·.2) = (mget q L k).map ev
  | [], _, _ => rfl
  | p :: L, k, i => by
    rw [found, mget]
    split
    · rfl
    · exact found_mget
theorem findNow_eq {kd : TypeDesc} (hs : ∀ a b : κ, Instr.sameNow kd (ek a) (ek b) = some (q a b)) : ∀ {L : List (κ × ν)} {k : κ} {i j : Nat}, Instr.findNow kd (ek k) (ents ek ev L j) i = some (found q ev L k i)
  | [], _, _, _ => rfl
  | p :: L, k, i, j => by
    rw [ents, Instr.findNow, hs, found]
    cases q k p.1 with
    | true => rfl
    | false => exact findNow_eq hs
theorem findAsk_eq {P : Program} {kt : TypeId} {w : World} (hs : ∀ a b : κ, (Op.equal kt (ek a) (ek b)).run P w = .ok (q a b) w) : ∀ {L : List (κ × ν)} {k : κ} {i j : Nat}, (Instr.findAsking kt (ek k) (ents ek ev L j) i).run P w = .ok (found q ev L k i) w
  | [], _, _, _ => rfl
  | p :: L, k, i, j => by
    rw [ents, Instr.findAsking, found]
    simp only [Sem.run_bind, hs, Result.andThen_ok]
    cases q k p.1 with
    | true => rfl
    | false => exact findAsk_eq hs
/-- what makes the keys of a map's type work -/
structure KeyOk (P : Program) (kt : TypeId) (ek : κ → Value) (q : κ → κ → Bool) : Prop where
  chk : ∀ (e : Bool) (a : κ) (w : World), (Instr.checkKey e 10000 kt (ek a)).run P w = .ok () w
  find : ∀ {ν : Type} (ev : ν → Value) (L : List (κ × ν)) (k : κ) (w : World), (Instr.findKey kt (ek k) (ents ek ev L 0)).run P w = .ok (found q ev L k 0) w
theorem KeyOk.now {P : Program} {kt : TypeId} {kd : TypeDesc} (hu : P.underlying kt = some kd) (hc : ∀ (e : Bool) (a : κ) (w : World), (Instr.checkKey e 10000 kt (ek a)).run P w = .ok () w) (hs : ∀ a b : κ, Instr.sameNow kd (ek a) (ek b) = some (q a b)) : KeyOk P kt ek q :=
  ⟨hc, fun ev L k w => by
    simp only [Instr.findKey, Sem.run_bind, run_underlying hu, Result.andThen_ok, findNow_eq hs]; rfl⟩
theorem KeyOk.int {P : Program} {kt : TypeId} {kd : IntKind} (hu : P.underlying kt = some (.int kd)) : KeyOk P kt (Value.int kd) (fun a b => a == b) :=
  .now hu (fun e a w => Go.MapKept.run_checkKey hu (by simp [Go.MapKept.IsKey]) e 9999) (fun a b => by simp [Instr.sameNow])
theorem KeyOk.str {P : Program} {kt : TypeId} (hu : P.underlying kt = some .string) : KeyOk P kt Value.string (fun a b => a == b) :=
  .now hu (fun e a w => Go.MapKept.run_checkKey hu (by simp [Go.MapKept.IsKey]) e 9999) (fun a b => rfl)
/-- an array's literal -/
theorem bldA {P : Program} {t et : TypeId} {n s : Nat} {z : Value} {ps : List (Nat × Value)} {c : List Value} (hu : P.underlying t = some (.array n et)) (hs : ∀ w, (sizeOf et).run P w = .ok s w) (hz : ∀ w, (zeroValue t).run P w = .ok z w)
    (hf : fillL (fun i => some (i * s, s)) z.cells.toList ps = some c) : Bld P t ps (.agg c.toArray) := by
  intro w
  have h1 := fill_eq hf
  rw [Array.toArray_toList] at h1
  simp only [Instr.build, Sem.run_bind, hz, Result.andThen_ok, run_underlying hu, hs]
  rw [h1]; rfl
theorem part1 {P : Program} {et : TypeId} (ha : ∀ w, (isAgg et).run P w = .ok false w) {cs : Array Value} {j : Nat} {v : Value} (hv : cs[j]? = some v) (w : World) : (part et cs j).run P w = .ok v w := by
  simp only [part, Sem.run_bind, ha, Result.andThen_ok, hv]; rfl
theorem range2 : List.range' 0 2 = [0, 1] := rfl
theorem chk2 {P : Program} {kt et : TypeId} {kd : IntKind} (hu : P.underlying kt = some (.array 2 et)) (he : P.underlying et = some (.int kd)) (hs : ∀ w, (sizeOf et).run P w = .ok 1 w) (ha : ∀ w, (isAgg et).run P w = .ok false w) (e : Bool) (m : Nat) (a b : Int) (w : World) :
    (Instr.checkKey e (m + 2) kt (.agg #[.int kd a, .int kd b])).run P w = .ok () w := by
  rw [show m + 2 = (m + 1) + 1 from rfl, Instr.checkKey]
  simp only [Sem.run_bind, run_underlying hu, Result.andThen_ok, Std.Legacy.Range.forIn_eq_forIn_range', Std.Legacy.Range.size, Nat.sub_zero, Nat.add_one_sub_one, Nat.div_one, range2, List.forIn_cons, List.forIn_nil, hs, Nat.zero_mul, Nat.one_mul,
    part1 ha (cs := #[.int kd a, .int kd b]) (j := 0) (v := .int kd a) rfl, part1 ha (cs := #[.int kd a, .int kd b]) (j := 1) (v := .int kd b) rfl, Go.MapKept.run_checkKey he (k := .int kd a) rfl, Go.MapKept.run_checkKey he (k := .int kd b) rfl, Sem.run_pure]
theorem eqIn_int {P : Program} {t : TypeId} {kd : IntKind} (dd : Nat) {p q : Int} (hu : P.underlying t = some (.int kd)) (w : World) : (Op.equalIn (dd + 1) t (.int kd p) (.int kd q)).run P w = .ok (p == q) w := by
  simp only [Op.equalIn, Sem.run_bind, run_underlying hu, Result.andThen_ok]; simp
theorem eqIn2 {P : Program} {kt et : TypeId} {kd : IntKind} (hu : P.underlying kt = some (.array 2 et)) (he : P.underlying et = some (.int kd)) (hs : ∀ w, (sizeOf et).run P w = .ok 1 w) (ha : ∀ w, (isAgg et).run P w = .ok false w) (m : Nat) (a b c d : Int) (w : World) :
    (Op.equalIn (m + 2) kt (.agg #[.int kd a, .int kd b]) (.agg #[.int kd c, .int kd d])).run P w = .ok (a == c && b == d) w := by
  rw [show m + 2 = (m + 1) + 1 from rfl, Op.equalIn]
  simp only [Sem.run_bind, run_underlying hu, Result.andThen_ok, Std.Legacy.Range.forIn_eq_forIn_range', Std.Legacy.Range.size, Nat.sub_zero, Nat.add_one_sub_one, Nat.div_one, range2, List.forIn_cons, List.forIn_nil, hs, Nat.zero_mul, Nat.one_mul,
    part1 ha (cs := #[.int kd a, .int kd b]) (j := 0) (v := .int kd a) rfl, part1 ha (cs := #[.int kd c, .int kd d]) (j := 0) (v := .int kd c) rfl, eqIn_int m he]
  have p1 := part1 ha (cs := #[.int kd a, .int kd b]) (j := 1) (v := .int kd b) rfl w
  have p2 := part1 ha (cs := #[.int kd c, .int kd d]) (j := 1) (v := .int kd d) rfl w
  have p3 := eqIn_int (P := P) m (p := b) (q := d) he w
  cases h1 : a == c <;> cases h2 : b == d <;> simp [p1, p2, p3, h2]
/-- two ints as an array -/
def arr2 (p : Int × Int) : Value := .agg #[I64 p.1, I64 p.2]
theorem KeyOk.arr2 {P : Program} {kt et : TypeId} (hu : P.underlying kt = some (.array 2 et)) (he : P.underlying et = some (.int .i64)) (hs : ∀ w, (sizeOf et).run P w = .ok 1 w) (ha : ∀ w, (isAgg et).run P w = .ok false w) : KeyOk P kt Wit.arr2 (fun a b => a.1 == b.1 && a.2 == b.2) := by
  refine ⟨fun e a w => chk2 hu he hs ha e 9998 a.1 a.2 w, fun ev L k w => ?_⟩
  have hq : ∀ a b : Int × Int, (Op.equal kt (Wit.arr2 a) (Wit.arr2 b)).run P w = .ok (a.1 == b.1 && a.2 == b.2) w := fun a b => eqIn2 hu he hs ha 9998 a.1 a.2 b.1 b.2 w
  simp only [Instr.findKey, Sem.run_bind, run_underlying hu, Result.andThen_ok]
  cases L with
  | nil => rfl
  | cons p L =>
    have h0 : Instr.findNow (.array 2 et) (Wit.arr2 k) (ents Wit.arr2 ev (p :: L) 0) 0 = none := rfl
    rw [h0]
    exact findAsk_eq (q := fun a b : Int × Int => a.1 == b.1 && a.2 == b.2) hq
end
section
variable {P : Program} {r : Option Nat} {f : FuncId} {R : Value → World → Prop} {w0 : World} {S : List Nat} {Y : List (Nat × Obj)} {n : Nat} {k : List Item} {l : Fl} {h : Hl}
variable {ops : Array Oper} {i d : Nat} {rest : List Nat} {ty : TypeId} {pos : String} {aft : Array Edge} {g : Option (Nat × Bool)}
variable {κ ν : Type} {ek : κ → Value} {ev : ν → Value} {q : κ → κ → Bool}
/-- map[K]V{} -/
theorem GoH.mkMap (ek : κ → Value) (ev : ν → Value) {t : TypeId} (ho : ops[i]? = some ⟨some d, .makeMap t none, ty, pos, aft, g⟩) (hw : wantL ops l g = true) (hd : Nat.blt d n = true)
    (hk : ∀ b, GoH P r f R w0 S Y n (.inRegion ops rest :: k) ((d, .map (some b)) :: l) ((some b, mobj ek ev []) :: h)) : GoH P r f R w0 S Y n (.inRegion ops (i :: rest) :: k) l h :=
  .mem ho hw rfl rfl hd (fun t' w Ds _ hF hS => ⟨.map (some w.heap.size), w.alloc (.map #[] 0), _, by
    simp [execOp, Instr.makeMap], hS.alloc rfl, hk _⟩)
/-- v, ok := m[x] -/
theorem Vop.lkup {t kt el : TypeId} (hK : KeyOk P kt ek q) {z : Value} {x ix : Operand} {b : Nat} {a : κ} {L : List (κ × ν)} (ho : ops[i]? = some ⟨some d, .lookup t x ix true, ty, pos, aft, g⟩) (hw : wantL ops l g = true)
    (hx : opd l x = some (.map (some b))) (hy : opd l ix = some (ek a)) (hd : Nat.blt d n = true) (hu : P.underlying t = some (.map kt el)) (hz : ∀ w, (zeroValue el).run P w = .ok z w) (j : Nat) (hj : h[j]? = some (some b, mobj ek ev L)) :
    Vop P w0 S n h ops i l d (.tuple #[((mget q L a).map ev).getD z, .bool (mget q L a).isSome]) :=
  .of ho hw rfl rfl hd (fun t' w Ds _ hF hS => ⟨.value (.tuple #[((mget q L a).map ev).getD z, .bool (mget q L a).isSome]), by
    have hg : (getObj b).run P w = .ok (mobj ek ev L) w := by simp [getObj, Sem.run, hS.get hj]
    have hf := hK.find ev L a w
    have e1 : (found q ev L a 0).map (·.2) = (mget q L a).map ev := found_mget
    simp only [execOp, hF.opd hx, hF.opd hy, Sem.run_bind, Instr.lookup, run_underlying hu, Result.andThen_ok, hg, hK.chk, Sem.run_pure, hf]
    cases hfo : found q ev L a 0 with
    | none =>
      rw [hfo] at e1
      cases ha : mget q L a with
      | none => simp [hz]
      | some v => rw [ha] at e1; cases e1
    | some y =>
      rw [hfo] at e1
      cases ha : mget q L a with
      | none => rw [ha] at e1; cases e1
      | some v => rw [ha] at e1; simp at e1 ⊢; exact e1, rfl⟩)
/-- m[x], x being in m -/
theorem Vop.lkup1 {t kt el : TypeId} (hK : KeyOk P kt ek q) {x ix : Operand} {b : Nat} {a : κ} {v : ν} {L : List (κ × ν)} (ho : ops[i]? = some ⟨some d, .lookup t x ix false, ty, pos, aft, g⟩) (hw : wantL ops l g = true)
    (hx : opd l x = some (.map (some b))) (hy : opd l ix = some (ek a)) (hd : Nat.blt d n = true) (hu : P.underlying t = some (.map kt el)) (j : Nat) (hj : h[j]? = some (some b, mobj ek ev L)) (hv : mget q L a = some v) :
    Vop P w0 S n h ops i l d (ev v) :=
  .of ho hw rfl rfl hd (fun t' w Ds _ hF hS => ⟨.value (ev v), by
    have hg : (getObj b).run P w = .ok (mobj ek ev L) w := by simp [getObj, Sem.run, hS.get hj]
    have hf := hK.find ev L a w
    have e1 : (found q ev L a 0).map (·.2) = (mget q L a).map ev := found_mget
    rw [hv] at e1
    simp only [execOp, hF.opd hx, hF.opd hy, Sem.run_bind, Instr.lookup, run_underlying hu, Result.andThen_ok, hg, hK.chk, Sem.run_pure, hf]
    cases hfo : found q ev L a 0 with
    | none => rw [hfo] at e1; cases e1
    | some y => rw [hfo] at e1; simp at e1 ⊢; exact e1, rfl⟩)
/-- len(m) -/
theorem Vop.lenM {t kt el : TypeId} {x : Operand} {b : Nat} {L : List (κ × ν)} (ho : ops[i]? = some ⟨some d, .call ⟨.builtin .len, #[x], #[t]⟩, ty, pos, aft, g⟩) (hw : wantL ops l g = true)
    (hx : opd l x = some (.map (some b))) (hd : Nat.blt d n = true) (hu : P.underlying t = some (.map kt el)) (j : Nat) (hj : h[j]? = some (some b, mobj ek ev L)) : Vop P w0 S n h ops i l d (.int .i64 (L.length : Int)) :=
  .of ho hw rfl rfl hd (fun t' w Ds _ hF hS => ⟨.value (.int .i64 (L.length : Int)), by
    have hg : (getObj b).run P w = .ok (mobj ek ev L) w := by simp [getObj, Sem.run, hS.get hj]
    have e1 : (#[x] : Array Operand).map (Act.eval ⟨t', Ds.map mark⟩) = #[.map (some b)] := by simp [hF.opd hx]
    simp only [execOp, resolve, e1, Sem.run_bind, Sem.run_pure, Result.andThen_ok, invoke, builtin, Builtin.len_]
    simp [run_underlying hu, hg, goInt, ents_length], rfl⟩)
theorem found_none : ∀ {L : List (κ × ν)} {a : κ} {i : Nat}, mget q L a = none → found q ev L a i = none
  | [], _, _, _ => rfl
  | p :: L, a, i, h => by
    rw [mget] at h
    rw [found]
    split at h
    · cases h
    · rename_i hq; rw [if_neg hq]; exact found_none h
theorem mapUpd_run {t kt el : TypeId} (hK : KeyOk P kt ek q) {b : Nat} {a : κ} {v : ν} {L : List (κ × ν)} {w : World} (hu : P.underlying t = some (.map kt el)) (hb : w.heap[b]? = some (mobj ek ev L)) (ha : mget q L a = none) :
    (Instr.mapUpdate t (.map (some b)) (ek a) (ev v)).run P w = .ok () { w with heap := w.heap.setIfInBounds b (mobj ek ev (L ++ [(a, v)])) } := by
  have hg : (getObj b).run P w = .ok (mobj ek ev L) w := by simp [getObj, Sem.run, hb]
  have hf := hK.find ev L a w
  rw [found_none ha] at hf
  simp only [Instr.mapUpdate, Sem.run_bind, run_underlying hu, Result.andThen_ok, hg, hK.chk, hf]
  have e1 : ((ents ek ev L 0).toArray.push ⟨ek a, ev v, L.length⟩) = (ents ek ev (L ++ [(a, v)]) 0).toArray := by rw [ents_append]; simp
  rw [e1]
  simp [setObj, Sem.run, hb, mobj]
/-- m[x] = v, x not being in m before -/
theorem GoH.mapIns {t kt el : TypeId} (hK : KeyOk P kt ek q) {m x y : Operand} {b : Nat} {a : κ} {v : ν} {L : List (κ × ν)} {o : Oper} (ho : ops[i]? = some o) (hop : o.op = .mapUpdate t m x y ∨ o.op = .insert t m x y) (hdst : o.dst = none) (hw : wantL ops l o.guard = true)
    (hm : opd l m = some (.map (some b))) (hx : opd l x = some (ek a)) (hy : opd l y = some (ev v)) (hu : P.underlying t = some (.map kt el)) (j : Nat) (hj : h[j]? = some (some b, mobj ek ev L)) (ha : mget q L a = none)
    (hk : GoH P r f R w0 S Y n (.inRegion ops rest :: k) l (h.set j (some b, mobj ek ev (L ++ [(a, v)])))) : GoH P r f R w0 S Y n (.inRegion ops (i :: rest) :: k) l h :=
  .eff ho hw hdst (by rcases hop with e | e <;> rw [e] <;> rfl) (fun t' w Ds _ hF hS => by
    have hb := hS.get hj
    refine ⟨{ w with heap := w.heap.setIfInBounds b (mobj ek ev (L ++ [(a, v)])) }, _, ?_, hS.turn hj (o' := mobj ek ev (L ++ [(a, v)])) rfl rfl rfl rfl (by simp) ?_ ?_, hk⟩
    · have hrun := mapUpd_run hK (v := v) hu hb ha
      unfold execOp
      rcases hop with e | e <;> rw [e] <;> simp only [hF.opd hm, hF.opd hx, hF.opd hy, Sem.run_bind, hrun] <;> rfl
    · have hlt := hS.lt hj
      simp [hlt]
    · intro q _ hq
      simp [Ne.symm hq])
end
end Go.Proofs.Wit
namespace Go.Proofs.Wit
open Go Go.RowKit
/-! an iterator without an end: it makes a list of ints, hands it out, and goes on till a round says no -/
/-- the blocks that it has handed out, the last one first -/
def Hist (e : TypeId) (pf : Nat → List Int) : List Nat → Hl
  | [] => []
  | b :: t => (some b, ob I64 e (pf t.length) []) :: Hist e pf t
def pV (pf : Nat → List Int) (b : Nat) (t : List Nat) : Value := .slice (some ⟨b, 0, none⟩) (pf t.length).length (pf t.length).length
def IterE (P : Program) (w0 : World) (S : List Nat) (gf : FuncId) (lb : List Value) (e : TypeId) (pf : Nat → List Int) (cap : Hl) : Prop :=
  ∀ (Y : List (Nat × Obj)) (σ : Type) (Hc : σ → Hl) (N : Nat) (I : List Nat → σ → Prop) (X : List Nat → σ → Prop) (Yx : σ → List (Nat × Obj)) (L : Nat),
    (∀ t s, I t s → t.length ≤ N) →
    (∀ (b : Nat) (t : List Nat) (s : σ), I t s → ∀ (hi : Hl) (w : World) (Y1 : List (Nat × Obj)), St w0 S w (hi ++ (Hist e pf (b :: t) ++ Hc s)) (Y1 ++ Y) →
      Rnd P L #[pV pf b t] w (fun v w' => (v = .bool true ∧ ∃ s', I (b :: t) s' ∧ St w0 S w' (hi ++ (Hist e pf (b :: t) ++ Hc s')) (Y1 ++ Y)) ∨ (v = .bool false ∧ ∃ s', X (b :: t) s' ∧ St w0 S w' (hi ++ (Hist e pf (b :: t) ++ Hc s')) (Y1 ++ Yx s')))) →
    ∀ s0 w, I [] s0 → St w0 S w (cap ++ Hc s0) Y →
      Calls P gf ((Value.func (.yield L) #[] #[] :: lb).toArray) w fun e' w' => ∃ v, e' = .returned v ∧ ∃ t s, X t s ∧ St w0 S w' (Hist e pf t ++ Hc s) (Yx s)
section
variable {P : Program} {f : FuncId} {R : Value → World → Prop} {w0 : World} {S : List Nat} {Y : List (Nat × Obj)} {n : Nat} {k k' : List Item} {l l' : Fl} {h h' : Hl}
/-- **for .. := range g { .. }**, outermost -/
theorem GoH.rangeE {g : Operand} {ps : Array Tmp} {assign body : Code} {gf : FuncId} {lb : List Value} {e : TypeId} {pf : Nat → List Int} {cap : Hl} {σ : Type} (Hc : σ → Hl) (N : Nat) (I : List Nat → σ → Prop) (X : Code → List Nat → σ → Prop) (s0 : σ)
    (hg : opd l g = some (.func (.func gf) #[] lb.toArray)) (hcf : ∀ args w, (callFunc gf args).run P w = .ok (.enter gf args) w) (it : IterE P w0 S gf lb e pf cap)
    (hps : ps.size = 1) (hpn : ps.toList.all (fun p => Nat.blt p n) = true) (hN : ∀ t s, I t s → t.length ≤ N) (h0 : I [] s0) (hh : (cap ++ Hc s0).Sublist h)
    (hround : ∀ (L : Nat) (Y' : List (Nat × Obj)) (rec : Loop) (hi : Hl) (b : Nat) (t : List Nat) (s : σ), I t s → rec.state = .ready →
      GoH P (some L) f (RoundR w0 S (fun x : List Nat × σ => Hc x.2 ++ Hist e pf x.1) (fun _ x => x.1 = b :: t ∧ I x.1 x.2) (fun c x => x.1 = b :: t ∧ X c x.1 x.2) L rec Y' hi 0) w0 S ((L, .loop rec) :: Y') n [.code assign, .beginRound, .code body] (bindL ps.toList [pV pf b t] l) (Hc s ++ Hist e pf (b :: t) ++ hi))
    (_hdone : False → False) (hstop : ∀ c t s, X c t s → GoH P none f R w0 S Y n (.code c :: k) l (Hc s ++ Hist e pf t)) :
    GoH P none f R w0 S Y n (.code (.rangeFunc g ps assign body) :: k) l h := by
  intro t w Ds hF hS cs hcs
  -- the two blocks of book-keeping
  obtain ⟨rec, hrec⟩ : ∃ rec : Loop, rec = { state := .ready, pending := none, fn := f, tmps := t, params := ps, assign, body, defers := w.heap.size } := ⟨_, rfl⟩
  have hS1 := (hS.newY (o := .deferred (some [])) rfl).newY (o := .loop rec) rfl
  rw [World.size_alloc] at hS1
  obtain ⟨w2, hw2⟩ : ∃ w2, (w.alloc (.deferred (some []))).alloc (.loop rec) = w2 := ⟨_, rfl⟩
  rw [hw2] at hS1
  have henter : (Instr.enterLoop f t ps assign body none).run P w = .ok (w.heap.size + 1, [mark w.heap.size]) w2 := by
    rw [← hw2, hrec]
    exact run_enterLoop_outer _ _ _ _ _
  have hinv : (invoke (.fn (.func gf) lb.toArray) #[Value.func (.yield (w.heap.size + 1)) #[] #[]]).run P w2 = .ok (.enter gf ((Value.func (.yield (w.heap.size + 1)) #[] #[] :: lb).toArray)) w2 := by
    simp only [invoke, hcf]
    congr 2
    simp
  have hres : (resolve (Act.eval ⟨t, Ds.map mark⟩) (rangeCall g (w.heap.size + 1)) 0).run P w2 = .ok { target := .fn (.func gf) lb.toArray, args := #[Value.func (.yield (w.heap.size + 1)) #[] #[]] } w2 := by
    have e1 := hF.opd hg (Ds.map mark)
    simp only [resolve, e1, Deferred.ofValue]
    simp [Act.eval]
  have hstep := stepR_rangeFunc (P := P) (b := mkF f none #[] [] []) (a := ⟨t, Ds.map mark⟩) (k := k) (cs := cs) (w := w) (ps := ps) (assign := assign) (body := body) (g := g) henter hres hinv
  -- the iterator's contract
  obtain ⟨Yr, hYr⟩ : ∃ Yr, (w.heap.size, (.deferred (some []) : Obj)) :: (mkY Ds ++ Y) = Yr := ⟨_, rfl⟩
  have hcall := it ((w.heap.size + 1, .loop rec) :: Yr) (σ × Option Code) (fun s => Hc s.1) N (fun t s => I t s.1 ∧ s.2 = none) (fun t s => ∃ c, s.2 = some c ∧ X c t s.1)
    (fun s => (w.heap.size + 1, .loop { rec with state := .done, pending := s.2 }) :: Yr) (w.heap.size + 1) (fun t s hs => hN t s.1 hs.1) (by
      rintro b ti ⟨s, c⟩ ⟨hI, hc⟩ hi W Y1 hSt
      simp only at hc hSt
      subst hc
      have hSt1 := (hSt.perm ((List.perm_append_comm).trans (List.perm_append_comm.append_right hi))).permY (List.perm_middle (l₁ := Y1) (a := (w.heap.size + 1, Obj.loop rec)) (l₂ := Yr))
      have hL := (hSt1.sys _ (List.mem_cons_self ..)).2.1
      simp only at hL
      refine ⟨f, (ps.zip [pV pf b ti].toArray).foldl (fun t (p : Tmp × Value) => t.setIfInBounds p.1 p.2) t, assign, body, ?_, fun c cs => ?_⟩
      · simp only [Instr.yield, Instr.getLoop, getObj, Sem.run, hL, bind, Sem.bind, pure]
        rw [hrec]
        simp [hps]
      · have hg1 := hround (w.heap.size + 1) (Y1 ++ Yr) rec hi b ti s hI (by rw [hrec])
        have hfr : Frm n ((ps.zip [pV pf b ti].toArray).foldl (fun t (p : Tmp × Value) => t.setIfInBounds p.1 p.2) t) (bindL ps.toList [pV pf b ti] l) := by
          have := frm_bind (ps := ps.toList) (az := [pV pf b ti]) hF (List.all_eq_true.1 hpn)
          rw [← Array.foldl_toList, Array.toList_zip]; exact this
        obtain ⟨v, w', m, hR, hst, htg⟩ := hg1 _ W [] hfr (by simpa [mkY] using hSt1) (c :: cs) (by simp)
        obtain ⟨c', cs', hcc, rfl⟩ := htg
        cases hcc
        refine ⟨v, w', ?_, hst⟩
        rcases hR with ⟨hv, ⟨t', s'⟩, ⟨ht, hI'⟩, hS'⟩ | ⟨hv, c2, ⟨t', s'⟩, ⟨ht, hX⟩, hS'⟩
        · dsimp only at ht; subst ht
          refine .inl ⟨hv, (s', none), ⟨hI', rfl⟩, ?_⟩
          have e1 : ({ rec with state := .ready, pending := none } : Loop) = rec := by rw [hrec]
          rw [e1] at hS'
          exact (hS'.perm ((List.perm_append_comm.append_right hi).trans List.perm_append_comm)).permY (List.perm_middle (l₁ := Y1) (a := (w.heap.size + 1, Obj.loop rec)) (l₂ := Yr)).symm
        · dsimp only at ht; subst ht
          refine .inr ⟨hv, (s', some c2), ⟨c2, rfl, hX⟩, ?_⟩
          exact (hS'.perm ((List.perm_append_comm.append_right hi).trans List.perm_append_comm)).permY (List.perm_middle (l₁ := Y1) (l₂ := Yr)).symm)
    (s0, none) w2 ⟨h0, rfl⟩ ((hYr ▸ hS1).subH hh)
  obtain ⟨e', w3, fr, ⟨v, rfl, hpost⟩, hcomes, hfn, hleave⟩ := hcall ((mkF f none #[] [] []).atR ⟨t, [mark w.heap.size] ++ Ds.map mark⟩ (.inRangeFunc (w.heap.size + 1) :: k) :: cs)
  have hback := step_leave_returned (c := (mkF f none #[] [] []).atR ⟨t, [mark w.heap.size] ++ Ds.map mark⟩ (.inRangeFunc (w.heap.size + 1) :: k)) (cs := cs) hleave
  rw [finish_atR_inRangeFunc] at hback
  have fin : ∀ (H : Hl) (rc : Loop) (jump : Option Code), rc.state ≠ .busy → rc.pending = jump → St w0 S w3 H ((w.heap.size + 1, .loop rc) :: Yr) →
      (∀ w4, St w0 S w4 H (mkY (w.heap.size :: Ds) ++ Y) → Gos P none f R ((jump.map Item.code).toList ++ k) t ((w.heap.size :: Ds).map mark) w4) →
      ∃ v w' m, R v w' ∧ Steps P (lone (mkF f none t (Ds.map mark) (.code (.rangeFunc g ps assign body) :: k)) cs w) m ∧ Tgt P none f cs v w' m := by
    intro H rc jump hnb hj hS3 hgo
    have hL := (hS3.sys _ (List.mem_cons_self ..)).2.1
    simp only at hL
    have hend : (Instr.endLoop (w.heap.size + 1)).run P w3 = .ok jump { w3 with heap := w3.heap.setIfInBounds (w.heap.size + 1) (.loop { rc with state := .exhausted }) } := by
      simp [Instr.endLoop, Instr.getLoop, getObj, setObj, Sem.run, hL, bind, Sem.bind, pure, hj]
      exact fun hx => absurd hx hnb
    have hS4 := (hS3.turnY (o' := .loop { rc with state := .exhausted }) rfl).subY (List.sublist_cons_self ..)
    obtain ⟨v', w', m, hR, hst, htg⟩ := hgo _ (by rw [← hYr] at hS4; exact hS4) cs hcs
    refine ⟨v', w', m, hR, .head hstep (Steps.trans hcomes (.head hback (.head (stepR_endRangeFunc hend) ?_))), htg⟩
    exact hst
  obtain ⟨t', ⟨s, c⟩, ⟨c', hc, hX⟩, hS3⟩ := hpost
  simp only at hc; subst hc
  exact fin _ _ (some c') (by simp) rfl hS3 (fun w4 hS4 => hstop c' t' s hX t w4 (w.heap.size :: Ds) hF (hS4.perm List.perm_append_comm))
/-- an endless iterator's contract out of its body -/
theorem IterE.of {gf : FuncId} {lb : List Value} {e : TypeId} {pf : Nat → List Int} {cap : Hl} {c : Code} {fn : Func} (hf : P.funcs[gf]? = some fn) (hb : fn.body = some c) (hn : Nat.ble (lb.length + 1) fn.ntmps = true)
    (hgo : ∀ (Y : List (Nat × Obj)) (σ : Type) (Hc : σ → Hl) (N : Nat) (I : List Nat → σ → Prop) (X : List Nat → σ → Prop) (Yx : σ → List (Nat × Obj)) (L : Nat),
      (∀ t s, I t s → t.length ≤ N) →
      (∀ (b : Nat) (t : List Nat) (s : σ), I t s → ∀ (hi : Hl) (w : World) (Y1 : List (Nat × Obj)), St w0 S w (hi ++ (Hist e pf (b :: t) ++ Hc s)) (Y1 ++ Y) →
        Rnd P L #[pV pf b t] w (fun v w' => (v = .bool true ∧ ∃ s', I (b :: t) s' ∧ St w0 S w' (hi ++ (Hist e pf (b :: t) ++ Hc s')) (Y1 ++ Y)) ∨ (v = .bool false ∧ ∃ s', X (b :: t) s' ∧ St w0 S w' (hi ++ (Hist e pf (b :: t) ++ Hc s')) (Y1 ++ Yx s')))) →
      ∀ s0, I [] s0 → GoH P none gf (fun _ w' => ∃ t s, X t s ∧ St w0 S w' (Hist e pf t ++ Hc s) (Yx s)) w0 S Y fn.ntmps [.code c] (parL 0 (Value.func (.yield L) #[] #[] :: lb)) (cap ++ Hc s0)) :
    IterE P w0 S gf lb e pf cap := by
  intro Y σ Hc N I X Yx L hN hy s0 w hI hS cs
  obtain ⟨v, w', m, hR, hst, fr, rfl, hfn, hl⟩ := hgo Y σ Hc N I X Yx L hN hy s0 hI _ w [] (frm_enter (by simpa using Nat.le_of_ble_eq_true hn)) hS cs (by simp)
  refine ⟨.returned v, w', fr, ⟨v, rfl, hR⟩, ?_, hfn, hl⟩
  have henter : Frame.enter P gf (Value.func (.yield L) #[] #[] :: lb).toArray .normal = mkF gf none ((Value.func (.yield L) #[] #[] :: lb).toArray ++ Array.replicate (fn.ntmps - (Value.func (.yield L) #[] #[] :: lb).toArray.size) undef) [] [.code c] := by
    simp [Frame.enter, hf, hb, mkF]
  show Steps P _ _
  rw [henter]; exact hst
end
end Go.Proofs.Wit
namespace Go.Proofs.Wit
/-! partitions as lists of lowest points; the rounds of a refinement -/
section
variable {κ κ' : Type} [DecidableEq κ] [DecidableEq κ']
/-- the first of the first n points that has the key k -/
def ldr (key : Nat → κ) (k : κ) (n : Nat) : Option Nat := firstTo (fun j => if key j = k then some j else none) n
theorem ldr_zero (key : Nat → κ) (k : κ) : ldr key k 0 = none := rfl
theorem ldr_some {key : Nat → κ} {k : κ} {n j : Nat} (h : ldr key k n = some j) : j < n ∧ key j = k ∧ ∀ i, i < j → key i ≠ k := by
  obtain ⟨q, h1, h2, h3⟩ := firstTo_some h
  split at h2
  · rename_i hk
    cases h2
    refine ⟨h1, hk, fun i hi e => ?_⟩
    have := h3 i hi
    rw [if_pos e] at this; cases this
  · cases h2
theorem ldr_none {key : Nat → κ} {k : κ} {n : Nat} (h : ldr key k n = none) : ∀ i, i < n → key i ≠ k := fun i hi e => by
  have := firstTo_none.1 h i hi
  rw [if_pos e] at this; cases this
theorem ldr_hit {key : Nat → κ} {k : κ} {n : Nat} (h : ldr key k n = none) (hk : key n = k) : ldr key k (n + 1) = some n := firstTo_hit h (by rw [if_pos hk]) _ (Nat.lt_succ_self n)
theorem ldr_keep {key : Nat → κ} {k : κ} {n j : Nat} (h : ldr key k n = some j) : ldr key k (n + 1) = some j := by
  unfold ldr at h ⊢; rw [firstTo, h]
theorem ldr_skip {key : Nat → κ} {k : κ} {n : Nat} (hk : key n ≠ k) : ldr key k (n + 1) = ldr key k n := by
  cases h : ldr key k n with
  | some j => exact ldr_keep h
  | none => exact firstTo_step h (by rw [if_neg hk])
/-- the first point with the key of i -/
def led (key : Nat → κ) (i : Nat) : Nat := (ldr key (key i) (i + 1)).getD 0
theorem led_spec (key : Nat → κ) (i : Nat) : led key i ≤ i ∧ key (led key i) = key i ∧ ∀ j, key j = key i → led key i ≤ j := by
  unfold led
  cases h : ldr key (key i) (i + 1) with
  | none => exact absurd rfl (ldr_none h i (Nat.lt_succ_self i))
  | some j =>
    obtain ⟨h1, h2, h3⟩ := ldr_some h
    refine ⟨Nat.le_of_lt_succ h1, h2, fun q hq => ?_⟩
    rcases Nat.lt_or_ge q j with hlt | hge
    · exact absurd hq (h3 q hlt)
    · exact hge
theorem led_at {key : Nat → κ} {i j : Nat} (h : ldr key (key i) (i + 1) = some j) : led key i = j := by rw [led, h]; rfl
theorem led_old {key : Nat → κ} {i j : Nat} (h : ldr key (key i) i = some j) : led key i = j := led_at (ldr_keep h)
theorem led_new {key : Nat → κ} {i : Nat} (h : ldr key (key i) i = none) : led key i = i := led_at (ldr_hit h rfl)
theorem led_iff {key : Nat → κ} {i j : Nat} : led key i = led key j ↔ key i = key j := by
  refine ⟨fun e => ?_, fun e => ?_⟩
  · rw [← (led_spec key i).2.1, e, (led_spec key j).2.1]
  · exact Nat.le_antisymm ((led_spec key i).2.2 _ ((led_spec key j).2.1.trans e.symm)) ((led_spec key j).2.2 _ ((led_spec key i).2.1.trans e))
theorem led_idem (key : Nat → κ) (i : Nat) : led key (led key i) = led key i := led_iff.2 (led_spec key i).2.1
theorem led_congr {key : Nat → κ} {key' : Nat → κ'} {n : Nat} (h : ∀ i j, i < n → j < n → (key i = key j ↔ key' i = key' j)) {i : Nat} (hi : i < n) : led key i = led key' i := by
  have a := led_spec key i; have b := led_spec key' i
  exact Nat.le_antisymm (a.2.2 _ ((h _ _ (by omega) hi).2 b.2.1)) (b.2.2 _ ((h _ _ (by omega) hi).1 a.2.1))
/-- the partition of n points by their keys -/
def ker (n : Nat) (key : Nat → κ) : List Int := (List.range n).map (fun i => (led key i : Int))
theorem ker_len {n : Nat} {key : Nat → κ} : (ker n key).length = n := by simp [ker]
theorem ker_get {n : Nat} {key : Nat → κ} {i : Nat} (hi : i < n) : (ker n key).getD i 0 = (led key i : Int) := by simp [ker, List.getD_eq_getElem?_getD, hi]
theorem ker_getE {n : Nat} {key : Nat → κ} {i : Nat} (hi : i < (ker n key).length) : (ker n key)[i] = (led key i : Int) := by simp [ker]
theorem ker_congr {key : Nat → κ} {key' : Nat → κ'} {n : Nat} (h : ∀ i j, i < n → j < n → (key i = key j ↔ key' i = key' j)) : ker n key = ker n key' := by
  unfold ker
  refine List.map_congr_left (fun i hi => ?_)
  rw [led_congr h (List.mem_range.1 hi)]
theorem ker_eq_iff {n : Nat} {key : Nat → κ} {i j : Nat} (hi : i < n) (hj : j < n) : (ker n key).getD i 0 = (ker n key).getD j 0 ↔ key i = key j := by
  rw [ker_get hi, ker_get hj, Int.ofNat_inj, led_iff]
end
/-- a partition -/
structure OkP (p : List Int) : Prop where
  len : p.length ≤ 64
  low : ∀ i, i < p.length → 0 ≤ p.getD i 0 ∧ p.getD i 0 ≤ i ∧ p.getD (p.getD i 0).toNat 0 = p.getD i 0
theorem ker_ok {κ : Type} [DecidableEq κ] {n : Nat} {key : Nat → κ} (hn : n ≤ 64) : OkP (ker n key) := by
  refine ⟨by rw [ker_len]; exact hn, fun i hi => ?_⟩
  rw [ker_len] at hi
  have h := led_spec key i
  rw [ker_get hi, Int.toNat_natCast, ker_get (by omega), led_idem]
  exact ⟨by omega, by omega, rfl⟩
theorem okP_zero {n : Nat} (hn : n ≤ 64) : OkP (List.replicate n (0 : Int)) := by
  refine ⟨by simpa using hn, fun i hi => ?_⟩
  simp only [List.length_replicate] at hi
  have e : ∀ j, (List.replicate n (0 : Int)).getD j 0 = 0 := fun j => by
    rw [List.getD_eq_getElem?_getD, List.getElem?_replicate]; split <;> rfl
  rw [e, e]; simp
/-- points are put together that have equal elements in both lists -/
def divP (a b : List Int) : List Int := ker a.length (fun i => (a.getD i 0, b.getD i 0))
/-- the blocks that a set meets -/
def bitsP (p : List Int) : List W64 := p.map (fun x => 1#64 <<< x.toNat)
def rch (p : List Int) (s : W64) : W64 := mapR (bitsP p) s
/-- the next round -/
def nxt (rels : List (List W64)) (p : List Int) : List Int := ker p.length (fun w => (p.getD w 0, rels.map (fun r => rch p (r.getD w 0#64))))
/-- the facts of a world, as a number -/
def fmTo (val : List W64) (w : Nat) : Nat → Nat
  | 0 => 0
  | k + 1 => fmTo val w k + (if (val.getD k 0#64).getLsbD w = true then 2 ^ k else 0)
def fm (val : List W64) (w : Nat) : Nat := fmTo val w val.length
theorem fmTo_lt (val : List W64) (w : Nat) : ∀ k, fmTo val w k < 2 ^ k
  | 0 => by simp [fmTo]
  | k + 1 => by have := fmTo_lt val w k; rw [fmTo, Nat.pow_succ]; split <;> omega
/-- the partition after i rounds -/
def psq (n : Nat) (val : List W64) (rels : List (List W64)) : Nat → List Int
  | 0 => ker n (fun w => fm val w)
  | i + 1 => nxt rels (psq n val rels i)
theorem psq_len {n : Nat} {val : List W64} {rels : List (List W64)} : ∀ i, (psq n val rels i).length = n
  | 0 => ker_len
  | i + 1 => by rw [psq, nxt, ker_len, psq_len i]
theorem psq_ok {n : Nat} {val : List W64} {rels : List (List W64)} (hn : n ≤ 64) : ∀ i, OkP (psq n val rels i)
  | 0 => ker_ok hn
  | i + 1 => by rw [psq, nxt]; exact ker_ok (by rw [psq_len]; exact hn)
theorem nxt_eq_iff {rels : List (List W64)} {p : List Int} {i j : Nat} (hi : i < p.length) (hj : j < p.length) :
    (nxt rels p).getD i 0 = (nxt rels p).getD j 0 ↔ p.getD i 0 = p.getD j 0 ∧ ∀ r ∈ rels, rch p (r.getD i 0#64) = rch p (r.getD j 0#64) := by
  rw [nxt, ker_eq_iff hi hj]; simp
/-- a list that is being filled -/
def fillI (n : Nat) (f : Nat → Int) (k : Nat) : List Int := (List.range n).map (fun i => if i < k then f i else 0)
theorem fillI_len {n : Nat} {f : Nat → Int} {k : Nat} : (fillI n f k).length = n := by simp [fillI]
theorem fillI_zero {n : Nat} {f : Nat → Int} : fillI n f 0 = List.replicate n 0 := by
  apply List.ext_getElem (by simp [fillI])
  intro i h1 h2; simp [fillI]
theorem fillI_set {n : Nat} {f : Nat → Int} {k : Nat} (_hk : k < n) : (fillI n f k).set k (f k) = fillI n f (k + 1) := by
  apply List.ext_getElem (by simp [fillI])
  intro i h1 h2
  simp [fillI, List.getElem_set]
  by_cases e : k = i
  · subst e; simp
  · rw [if_neg e]
    by_cases h3 : i < k
    · rw [if_pos h3, if_pos (by omega)]
    · rw [if_neg h3, if_neg (by omega)]
theorem fillI_all {n : Nat} {f : Nat → Int} : fillI n f n = (List.range n).map f := by
  unfold fillI
  refine List.map_congr_left (fun i hi => ?_)
  rw [if_pos (List.mem_range.1 hi)]
theorem fillI_get {n : Nat} {f : Nat → Int} {k i : Nat} (hi : i < k) (hn : i < n) : (fillI n f k).getD i 0 = f i := by simp [fillI, List.getD_eq_getElem?_getD, hi, hn]
/-! the rounds end -/
def fixN (p : List Int) : Nat := (List.range p.length).countP (fun i => p.getD i 0 == (i : Int))
theorem cntR_lt {n : Nat} {f g : Nat → Bool} (h : ∀ i, i < n → f i = true → g i = true) {j : Nat} (hj : j < n) (h1 : f j = false) (h2 : g j = true) : (List.range n).countP f < (List.range n).countP g := by
  induction n with
  | zero => omega
  | succ n ih =>
    rw [List.range_succ, List.countP_append, List.countP_append]
    have hle : ∀ m, m ≤ n → (List.range m).countP f ≤ (List.range m).countP g := fun m hm => by
      refine List.countP_mono_left (fun i hi e => h i (by have := List.mem_range.1 hi; omega) e)
    simp only [List.countP_singleton]
    rcases Nat.lt_or_ge j n with hlt | hge
    · have := ih (fun i hi => h i (by omega)) hlt
      have h3 := h n (by omega)
      cases hf : f n with
      | false => rw [if_neg (by simp)]; split <;> omega
      | true => rw [h3 hf]; simp; omega
    · obtain rfl : j = n := by omega
      have := hle j (Nat.le_refl _)
      rw [h1, h2]; simp; omega
theorem fix_lt {rels : List (List W64)} {p : List Int} (hp : OkP p) (hne : nxt rels p ≠ p) : fixN p < fixN (nxt rels p) := by
  have hl : (nxt rels p).length = p.length := by rw [nxt, ker_len]
  -- the first point at which they differ
  have hex : ∃ j, j < p.length ∧ (nxt rels p).getD j 0 ≠ p.getD j 0 := by
    by_cases h : ∃ j, j < p.length ∧ (nxt rels p).getD j 0 ≠ p.getD j 0
    · exact h
    · exfalso; apply hne
      apply List.ext_getElem hl
      intro i h1 h2
      by_cases e : (nxt rels p).getD i 0 = p.getD i 0
      · simpa [List.getD_eq_getElem?_getD, h1, h2] using e
      · exact absurd ⟨i, h2, e⟩ h
  obtain ⟨j, hj, hd⟩ := hex
  let key : Nat → Int × List W64 := fun w => (p.getD w 0, rels.map (fun r => rch p (r.getD w 0#64)))
  have hq : ∀ i, i < p.length → (nxt rels p).getD i 0 = (led key i : Int) := fun i hi => by rw [nxt, ker_get hi]
  have hle := led_spec key j
  have hlt : led key j < p.length := by omega
  -- the leader in the new one
  have hk : p.getD (led key j) 0 = p.getD j 0 := congrArg Prod.fst hle.2.1
  unfold fixN
  rw [hl]
  refine cntR_lt (fun i hi e => ?_) hlt ?_ ?_
  · simp only [beq_iff_eq] at e ⊢
    rw [hq i hi]
    have h := led_spec key i
    have hk2 : p.getD (led key i) 0 = p.getD i 0 := congrArg Prod.fst h.2.1
    have := (hp.low (led key i) (by omega)).2.1
    omega
  · rw [beq_eq_false_iff_ne, hk]
    intro e
    apply hd
    rw [hq j hj, e]
  · rw [beq_iff_eq, hq _ hlt, led_idem]
theorem fix_le (p : List Int) : fixN p ≤ p.length := by
  have := List.countP_le_length (p := fun i : Nat => p.getD i 0 == (i : Int)) (l := List.range p.length)
  simpa [fixN] using this
section
variable {n : Nat} {val : List W64} {rels : List (List W64)}
theorem fix_psq (hn : 1 ≤ n) (h64 : n ≤ 64) : ∀ i, (∀ j, j < i → psq n val rels j ≠ psq n val rels (j + 1)) → i + 1 ≤ fixN (psq n val rels i)
  | 0, _ => by
    unfold fixN
    rw [psq_len]
    refine List.countP_pos_iff.2 ⟨0, by simp; omega, ?_⟩
    have := ((psq_ok (val := val) (rels := rels) h64 0).low 0 (by rw [psq_len]; omega))
    simp only [beq_iff_eq]
    have h := this.1; have h2 := this.2.1
    exact Int.le_antisymm h2 h
  | i + 1, h => by
    have := fix_psq hn h64 i (fun j hj => h j (by omega))
    have h2 := fix_lt (rels := rels) (psq_ok h64 i) (fun e => h i (by omega) (by rw [psq, e]))
    rw [psq]; omega
/-- after how many rounds nothing changes any more -/
def depO (n : Nat) (val : List W64) (rels : List (List W64)) : Option Nat := ldr (fun d => decide (psq n val rels d = psq n val rels (d + 1))) true n
def dep (n : Nat) (val : List W64) (rels : List (List W64)) : Nat := (depO n val rels).getD 0
theorem dep_spec (hn : 1 ≤ n) (h64 : n ≤ 64) : dep n val rels < n ∧ psq n val rels (dep n val rels) = psq n val rels (dep n val rels + 1) ∧ ∀ j, j < dep n val rels → psq n val rels j ≠ psq n val rels (j + 1) := by
  unfold dep depO
  cases h : ldr (fun d => decide (psq n val rels d = psq n val rels (d + 1))) true n with
  | some d =>
    obtain ⟨h1, h2, h3⟩ := ldr_some h
    refine ⟨h1, by simpa using h2, fun j hj => ?_⟩
    have := h3 j hj
    simpa using this
  | none =>
    exfalso
    have h1 := ldr_none h
    have := fix_psq (val := val) (rels := rels) hn h64 n (fun j hj => by have := h1 j hj; simpa using this)
    have h2 := fix_le (psq n val rels n)
    rw [psq_len] at h2; omega
theorem dep_uniq (hn : 1 ≤ n) (h64 : n ≤ 64) {d : Nat} (h1 : psq n val rels d = psq n val rels (d + 1)) (h2 : ∀ j, j < d → psq n val rels j ≠ psq n val rels (j + 1)) : d = dep n val rels := by
  have := dep_spec (val := val) (rels := rels) hn h64
  rcases Nat.lt_trichotomy d (dep n val rels) with h | h | h
  · exact absurd h1 (this.2.2 d h)
  · exact h
  · exact absurd this.2.1 (h2 _ h)
theorem psq_stable {d : Nat} (h : psq n val rels d = psq n val rels (d + 1)) : ∀ k, psq n val rels (d + k) = psq n val rels d
  | 0 => rfl
  | k + 1 => by rw [← Nat.add_assoc, psq, psq_stable h k, ← psq, ← h]
end
/-- what Coarsest, Depth and Rounds return -/
def crs (n : Int) (val : List W64) (rel : List (List W64)) : List Int := if checkM n val rel ≠ 0 then [] else psq n.toNat val rel (dep n.toNat val rel)
def dpt (n : Int) (val : List W64) (rel : List (List W64)) : Int := if checkM n val rel ≠ 0 then 0 else (dep n.toNat val rel : Int)
def rndsE (n : Int) (val : List W64) (rel : List (List W64)) (k : Int) : Int := if checkM n val rel ≠ 0 then checkM n val rel else if k < 0 then 2 else 0
def rnds (n : Int) (val : List W64) (rel : List (List W64)) (k : Int) : List Int := if rndsE n val rel k ≠ 0 then [] else psq n.toNat val rel (min k.toNat n.toNat)
theorem crs_bad {n : Int} {val : List W64} {rel : List (List W64)} (h : checkM n val rel ≠ 0) : crs n val rel = [] := if_pos h
theorem crs_ok {n : Int} {val : List W64} {rel : List (List W64)} (h : checkM n val rel = 0) : crs n val rel = psq n.toNat val rel (dep n.toNat val rel) := if_neg (by simp [h])
theorem crs_len {n : Int} {val : List W64} {rel : List (List W64)} (h : checkM n val rel = 0) : (crs n val rel).length = n.toNat := by rw [crs_ok h, psq_len]
theorem rnds_bad {n : Int} {val : List W64} {rel : List (List W64)} {k : Int} (h : rndsE n val rel k ≠ 0) : rnds n val rel k = [] := if_pos h
theorem rnds_ok {n : Int} {val : List W64} {rel : List (List W64)} {k : Int} (h : rndsE n val rel k = 0) : rnds n val rel k = psq n.toNat val rel (min k.toNat n.toNat) := if_neg (by simp [h])
theorem rnds_len {n : Int} {val : List W64} {rel : List (List W64)} {k : Int} (h : rndsE n val rel k = 0) : (rnds n val rel k).length = n.toNat := by rw [rnds_ok h, psq_len]
theorem OwnS.nil0 {α : Type} {enc : α → Value} {t : TypeId} {w w' : World} : OwnS enc t w w' (.slice none 0 0) ([] : List α) := ⟨none, 0, [], rfl, fun _ => ⟨rfl, rfl⟩, rfl, fun _ e => by cases e⟩
theorem OwnS.one {α : Type} {enc : α → Value} {t : TypeId} {w0 w : World} {h : Hl} {Y : List (Nat × Obj)} (s : St w0 [] w h Y) (j : Nat) {b : Nat} {xs : List α} {m : Nat} (hj : h[j]? = some (some b, ob enc t xs [])) (hm : m = xs.length) : OwnS enc t w0 w (.slice (some ⟨b, 0, none⟩) m m) xs :=
  OwnS.mk s j (q := some b) hj hm (fun e => by cases e) (by rw [hm]; simp)
end Go.Proofs.Wit
namespace Go.Proofs.Wit
open Go Go.RowKit
/-! strings; numbers in hexadecimal -/
def digL : List UInt8 := [48, 49, 50, 51, 52, 53, 54, 55, 56, 57, 97, 98, 99, 100, 101, 102, 103, 104, 105, 106, 107, 108, 109, 110, 111, 112, 113, 114, 115, 116, 117, 118, 119, 120, 121, 122]
def dig (i : Nat) : UInt8 := digL.getD i 0
abbrev I8 (x : UInt8) : Value := .int .u8 (x.toNat : Int)
def bstr (l : List UInt8) : Value := .string ⟨l.toArray⟩
def hexN (n : Nat) : List UInt8 := if n < 16 then [dig n] else hexN (n / 16) ++ [dig (n % 16)]
termination_by n
theorem hexN_lo {n : Nat} (h : n < 16) : hexN n = [dig n] := by rw [hexN, if_pos h]
theorem hexN_hi {n : Nat} (h : ¬ n < 16) : hexN n = hexN (n / 16) ++ [dig (n % 16)] := by rw [hexN, if_neg h]
theorem hexN_len : ∀ (k n : Nat), n < 16 ^ (k + 1) → (hexN n).length ≤ k + 1
  | 0, n, h => by rw [hexN_lo (by simpa using h)]; simp
  | k + 1, n, h => by
    by_cases h1 : n < 16
    · rw [hexN_lo h1]; simp
    · rw [hexN_hi h1, List.length_append]
      have := hexN_len k (n / 16) (by rw [Nat.pow_succ] at h; omega)
      simp; omega
def undig (c : UInt8) : Nat := if c.toNat < 58 then c.toNat - 48 else c.toNat - 87
def valL (l : List UInt8) : Nat := l.foldl (fun a c => 16 * a + undig c) 0
theorem undig_dig : ∀ i : Fin 16, undig (dig i.val) = i.val := by decide
theorem dig_ne : ∀ i : Fin 16, dig i.val ≠ 32 := by decide
theorem hexN_val (n : Nat) : valL (hexN n) = n := by
  induction n using Nat.strongRecOn with
  | _ n ih =>
    by_cases h : n < 16
    · rw [hexN_lo h]
      have := undig_dig ⟨n, h⟩
      simpa [valL] using this
    · rw [hexN_hi h]
      have h1 := ih (n / 16) (by omega)
      have := undig_dig ⟨n % 16, Nat.mod_lt _ (by decide)⟩
      unfold valL at h1 ⊢
      rw [List.foldl_append, h1]
      simp only [List.foldl_cons, List.foldl_nil]
      simp only at this
      omega
theorem hexN_ne (n : Nat) : ∀ c ∈ hexN n, c ≠ 32 := by
  induction n using Nat.strongRecOn with
  | _ n ih =>
    intro c hc
    by_cases h : n < 16
    · rw [hexN_lo h, List.mem_singleton] at hc
      exact hc ▸ dig_ne ⟨n, h⟩
    · rw [hexN_hi h, List.mem_append] at hc
      rcases hc with hc | hc
      · exact ih _ (by omega) c hc
      · rw [List.mem_singleton] at hc
        exact hc ▸ dig_ne ⟨n % 16, Nat.mod_lt _ (by decide)⟩
theorem split_at {a b r s : List UInt8} (ha : ∀ c ∈ a, c ≠ 32) (hb : ∀ c ∈ b, c ≠ 32) (e : a ++ 32 :: r = b ++ 32 :: s) : a = b ∧ r = s := by
  induction a generalizing b with
  | nil =>
    cases b with
    | nil => simpa using e
    | cons y b => simp at e; exact absurd e.1.symm (hb y (List.mem_cons_self ..))
  | cons x a ih =>
    cases b with
    | nil => simp at e; exact absurd e.1 (ha x (List.mem_cons_self ..))
    | cons y b =>
      simp only [List.cons_append, List.cons.injEq] at e
      obtain ⟨h1, h2⟩ := ih (fun c hc => ha c (List.mem_cons_of_mem _ hc)) (fun c hc => hb c (List.mem_cons_of_mem _ hc)) e.2
      exact ⟨by rw [e.1, h1], h2⟩
/-- the key of a list of words -/
def keyL (xs : List W64) : List UInt8 := xs.flatMap (fun x => hexN x.toNat ++ [32])
theorem keyL_snoc {xs : List W64} {x : W64} : keyL (xs ++ [x]) = keyL xs ++ (hexN x.toNat ++ [32]) := by simp [keyL]
theorem keyL_inj : ∀ {xs ys : List W64}, xs.length = ys.length → keyL xs = keyL ys → xs = ys
  | [], [], _, _ => rfl
  | [], _ :: _, h, _ => by simp at h
  | _ :: _, [], h, _ => by simp at h
  | x :: xs, y :: ys, h, e => by
    simp only [keyL, List.flatMap_cons, List.append_assoc, List.singleton_append] at e
    obtain ⟨h1, h2⟩ := split_at (hexN_ne _) (hexN_ne _) e
    have h3 : x.toNat = y.toNat := by rw [← hexN_val x.toNat, h1, hexN_val]
    rw [BitVec.toNat_inj.1 h3, keyL_inj (by simpa using h) h2]
theorem hexW_len (x : W64) : (hexN x.toNat).length ≤ 16 := hexN_len 15 _ x.isLt
theorem keyL_len (xs : List W64) : (keyL xs).length ≤ 17 * xs.length := by
  induction xs with
  | nil => simp [keyL]
  | cons x xs ih =>
    have := hexW_len x
    simp only [keyL, List.flatMap_cons, List.length_append, List.length_cons, List.length_nil] at ih ⊢
    omega
section
variable {P : Program} {r : Option Nat} {f : FuncId} {R : Value → World → Prop} {w0 : World} {S : List Nat} {Y : List (Nat × Obj)} {n : Nat} {k : List Item} {l : Fl} {h : Hl}
variable {ops : Array Oper} {i d : Nat} {rest : List Nat} {ty : TypeId} {pos : String} {aft : Array Edge} {g : Option (Nat × Bool)} {t : TypeId}
theorem KeyOk.bstr {kt : TypeId} (hu : P.underlying kt = some .string) : KeyOk P kt Wit.bstr (fun a b => a == b) :=
  .now hu (fun e a w => Go.MapKept.run_checkKey hu (by simp [Go.MapKept.IsKey, Wit.bstr]) e 9999) (fun a b => by
    show some ((⟨a.toArray⟩ : ByteArray) == ⟨b.toArray⟩) = some (a == b)
    congr 1
    rw [Bool.eq_iff_iff]
    constructor
    · intro h
      have : (a.toArray == b.toArray) = true := h
      simpa using this
    · intro h
      rw [beq_iff_eq] at h; subst h
      show (a.toArray == a.toArray) = true
      simp)
theorem bCat {a b : List UInt8} (hl : a.length + b.length ≤ 1000000) : Bin P .add t (Wit.bstr a) (Wit.bstr b) (Wit.bstr (a ++ b)) := by
  intro p q w
  have e1 : eqGuard .add t p q (Wit.bstr a) (Wit.bstr b) = pure () := by unfold eqGuard Wit.bstr; rfl
  rw [e1]
  show (Op.stringOp .add ⟨a.toArray⟩ ⟨b.toArray⟩).run P w = _
  unfold Op.stringOp
  rw [if_neg (by
    have e2 : (ByteArray.mk a.toArray).size = a.length := by simp [ByteArray.size]
    have e3 : (ByteArray.mk b.toArray).size = b.length := by simp [ByteArray.size]
    rw [e2, e3, show IntKind.i64.max = 9223372036854775807 from rfl]; omega)]
  rw [Sem.run_pure]
  have : (ByteArray.mk a.toArray) ++ (ByteArray.mk b.toArray) = ByteArray.mk (a ++ b).toArray := by
    apply ByteArray.ext; simp
  unfold Wit.bstr
  rw [this]
/-- a letter of a string -/
theorem Vop.idxC {x y : Operand} {l8 : List UInt8} {kd : IntKind} {j : Int} (ho : ops[i]? = some ⟨some d, .index t x y, ty, pos, aft, g⟩) (hw : wantL ops l g = true) (hx : opd l x = some (Wit.bstr l8)) (hy : opd l y = some (.int kd j)) (hd : Nat.blt d n = true)
    (hu : P.underlying t = some .string) (j' : Nat) (hj : j = j' ∧ j' < l8.length) : Vop P w0 S n h ops i l d (I8 (l8.getD j' 0)) := by
  obtain ⟨rfl, hj⟩ := hj
  exact .of ho hw rfl rfl hd (fun t' w Ds _ hF _ => ⟨.value (I8 (l8.getD j' 0)), by
    simp only [execOp, hF.opd hx, hF.opd hy, Instr.index, Sem.run_bind, asIntOf, Sem.run_pure, Result.andThen_ok, run_underlying hu, Wit.bstr]
    rw [if_pos (by omega)]
    have e1 : (ByteArray.mk l8.toArray)[(j' : Int).toNat]? = some (l8.getD j' 0) := by
      have h2 : j' < (ByteArray.mk l8.toArray).size := by simpa [ByteArray.size] using hj
      rw [Int.toNat_natCast, getElem?_pos _ j' h2]
      simp [List.getD_eq_getElem?_getD, hj]
      rfl
    rw [e1]; rfl, rfl⟩)
/-- a store into a list of one's own at a place of an array -/
theorem GoH.stA {α : Type} (enc : α → Value) (v : α) {x y : Operand} {b q : Nat} {xs : List α} {e : TypeId} (ho : ops[i]? = some ⟨none, .store t x y, ty, pos, aft, g⟩) (hw : wantL ops l g = true)
    (hx : opd l x = some (.pointer (some ⟨b, q, none⟩))) (hy : opd l y = some (enc v)) (hz : ∀ w, (sizeOf t).run P w = .ok 1 w) (hv : (enc v).oneCell' = true) (j : Nat) (hj : h[j]? = some (some b, ob enc e xs [])) (hq : q < xs.length)
    (hk : GoH P r f R w0 S Y n (.inRegion ops rest :: k) l (h.set j (some b, ob enc e (xs.set q v) []))) : GoH P r f R w0 S Y n (.inRegion ops (i :: rest) :: k) l h :=
  .st ho hw hx hy hz hv j hj (by simp [Nat.blt_eq]; exact hq) (by
    have e1 : ((xs.map enc ++ []).toArray.setIfInBounds q (enc v)) = (((xs.set q v).map enc) ++ []).toArray := by
      simp [List.map_set]
    rw [e1]; exact hk)
/-- x[lo:], x an array in memory -/
theorem Vop.slLoA {x y : Operand} {b len lo : Nat} {kd : IntKind} {j : Int} (ho : ops[i]? = some ⟨some d, .slice t x (some y) none none, ty, pos, aft, g⟩) (hw : wantL ops l g = true)
    (hx : opd l x = some (.pointer (some ⟨b, 0, none⟩))) (hy : opd l y = some (.int kd j)) (hd : Nat.blt d n = true) {el : TypeId} (hu : P.underlying t = some (.array len el)) (he : ∀ w, (sizeOf el).run P w = .ok 1 w) (hj : j = lo) (hc : lo < len) :
    Vop P w0 S n h ops i l d (.slice (some ⟨b, lo, none⟩) (len - lo) (len - lo)) :=
  .of ho hw rfl rfl hd (fun t' w Ds _ hF hS => ⟨.value (.slice (some ⟨b, lo, none⟩) (len - lo) (len - lo)), by
    subst hj
    simp only [execOp, hF.opd hx, hF.opd hy, Option.map_some, Option.map_none, Instr.sliceAt, Sem.run_bind, run_underlying hu, Result.andThen_ok, Instr.sureAddr, Instr.sliceBounds, Instr.sliceBound, asIntOf, Sem.run_pure]
    rw [if_pos ⟨by omega, by omega⟩]
    simp only [Sem.run_pure, Result.andThen_ok, he, Int.toNat_natCast]
    rw [if_neg (by omega), Nat.mul_one, addr_off, Nat.zero_add], rfl⟩)
theorem bytes_loop {w : World} {g : Value → ByteArray → Sem (ForInStep ByteArray)} (hg : ∀ (x : UInt8) (s : ByteArray), g (I8 x) s = pure (.yield (s.push (UInt8.ofNat (x.toNat : Int).toNat)))) : ∀ {L : List UInt8} {acc : List UInt8},
    (forIn (m := Sem) (L.map I8) (ByteArray.mk acc.toArray) g).run P w = .ok (ByteArray.mk (acc ++ L).toArray) w
  | [], acc => by simp
  | x :: L, acc => by
    rw [List.map_cons, List.forIn_cons, hg]
    simp only [Sem.run_bind, Sem.run_pure, Result.andThen_ok]
    have e1 : (ByteArray.mk acc.toArray).push (UInt8.ofNat (x.toNat : Int).toNat) = ByteArray.mk (acc ++ [x]).toArray := by
      rw [Int.toNat_natCast, UInt8.ofNat_toNat]
      apply ByteArray.ext; simp
    rw [e1, bytes_loop hg (L := L) (acc := acc ++ [x])]
    simp
/-- bytes as a string -/
theorem Vop.cStr {s : TypeId} {x : Operand} {b lo m c : Nat} {L : List UInt8} {e : TypeId} (ho : ops[i]? = some ⟨some d, .convert s t x, ty, pos, aft, g⟩) (hw : wantL ops l g = true) (hx : opd l x = some (.slice (some ⟨b, lo, none⟩) m c)) (hd : Nat.blt d n = true)
    {el : TypeId} (hs : P.underlying s = some (.slice el)) (ht : P.underlying t = some .string) (he : P.underlying el = some (.int .u8)) (j : Nat) (hj : h[j]? = some (some b, ob I8 e L [])) (hm : lo + m = L.length) (suf : List UInt8) (hsuf : L.drop lo = suf) : Vop P w0 S n h ops i l d (Wit.bstr suf) :=
  .of ho hw rfl rfl hd (fun t' w Ds _ hF hS => ⟨.value (Wit.bstr suf), by
    subst hsuf
    simp only [execOp, hF.opd hx, convert, Sem.run_bind, run_underlying hs, run_underlying ht, run_underlying he, Result.andThen_ok, Conv.bytesToString]
    have hl := run_loadCells_list (P := P) w ⟨b, lo, none⟩ ((L.drop lo).map I8) (fun q v hv => by
      rw [addr_off]
      simp only [World.cell?, hS.get hj]
      simp at hv ⊢
      exact hv)
    rw [List.length_map, List.length_drop, show L.length - lo = m from by omega] at hl
    rw [hl]
    simp only [Result.andThen_ok]
    rw [← Array.forIn_toList]
    have h0 : ByteArray.empty = ByteArray.mk ([] : List UInt8).toArray := rfl
    rw [h0, List.toList_toArray, bytes_loop (fun x s => rfl)]
    simp [Wit.bstr], rfl⟩)
end
/-! numbers for keys, in the order in which they come -/
theorem mget_snoc {κ ν : Type} {q : κ → κ → Bool} {L : List (κ × ν)} {k x : κ} {v : ν} : mget q (L ++ [(k, v)]) x = (mget q L x).or (if q x k = true then some v else none) := by
  induction L with
  | nil => rfl
  | cons p L ih =>
    simp only [List.cons_append, mget]
    split
    · rfl
    · exact ih
structure Nums (ks : Nat → List UInt8) (n : Nat) (L : List (List UInt8 × Nat)) (l : List Int) (k : Nat) : Prop where
  len : l.length = n
  le : k ≤ n
  lt : ∀ x v, mget (fun a b => a == b) L x = some v → v < L.length
  inj : ∀ x y v, mget (fun a b => a == b) L x = some v → mget (fun a b => a == b) L y = some v → x = y
  at_ : ∀ i, i < k → ∃ v : Nat, l.getD i 0 = v ∧ mget (fun a b => a == b) L (ks i) = some v
theorem Nums.start {ks : Nat → List UInt8} {n : Nat} : Nums ks n [] (List.replicate n 0) 0 := ⟨by simp, Nat.zero_le _, (fun _ _ h => by cases h), (fun _ _ _ h => by cases h), (fun i h => by omega)⟩
theorem getD_setI {l : List Int} {k i : Nat} {v : Int} (hk : k < l.length) : (l.set k v).getD i 0 = if i = k then v else l.getD i 0 := by
  by_cases e : i = k
  · subst e; simp [List.getD_eq_getElem?_getD, hk]
  · rw [if_neg e]; simp [List.getD_eq_getElem?_getD, Ne.symm e]
theorem Nums.old {ks : Nat → List UInt8} {n : Nat} {L : List (List UInt8 × Nat)} {l : List Int} {k v : Nat} (h : Nums ks n L l k) (hk : k < n) (hv : mget (fun a b => a == b) L (ks k) = some v) : Nums ks n L (l.set k v) (k + 1) :=
  ⟨by simp [h.len], hk, h.lt, h.inj, fun i hi => by
    rw [getD_setI (by rw [h.len]; exact hk)]
    by_cases e : i = k
    · subst e; exact ⟨v, by rw [if_pos rfl], hv⟩
    · rw [if_neg e]; exact h.at_ i (by omega)⟩
theorem Nums.new {ks : Nat → List UInt8} {n : Nat} {L : List (List UInt8 × Nat)} {l : List Int} {k : Nat} (h : Nums ks n L l k) (hv : mget (fun a b => a == b) L (ks k) = none) :
    Nums ks n (L ++ [(ks k, L.length)]) l k ∧ mget (fun a b => a == b) (L ++ [(ks k, L.length)]) (ks k) = some L.length := by
  have hsn : ∀ x, mget (fun a b => a == b) (L ++ [(ks k, L.length)]) x = (mget (fun a b => a == b) L x).or (if (x == ks k) = true then some L.length else none) := fun x => mget_snoc (q := fun a b : List UInt8 => a == b)
  have hcase : ∀ x v, mget (fun a b => a == b) (L ++ [(ks k, L.length)]) x = some v → (mget (fun a b => a == b) L x = some v ∧ v < L.length) ∨ (x = ks k ∧ v = L.length) := by
    intro x v hx
    rw [hsn] at hx
    cases hm : mget (fun a b => a == b) L x with
    | some u => rw [hm] at hx; simp only [Option.or] at hx; cases hx; exact .inl ⟨rfl, h.lt x _ hm⟩
    | none =>
      rw [hm] at hx
      simp only [Option.or] at hx
      split at hx
      · rename_i e; cases hx; exact .inr ⟨by simpa using e, rfl⟩
      · cases hx
  refine ⟨⟨h.len, h.le, fun x v hx => ?_, fun x y v hx hy => ?_, fun i hi => ?_⟩, ?_⟩
  · rw [List.length_append, List.length_singleton]
    rcases hcase x v hx with ⟨_, h2⟩ | ⟨_, h2⟩ <;> omega
  · rcases hcase x v hx with ⟨h1, h2⟩ | ⟨h1, h2⟩ <;> rcases hcase y v hy with ⟨h3, h4⟩ | ⟨h3, h4⟩
    · exact h.inj x y v h1 h3
    · omega
    · omega
    · rw [h1, h3]
  · obtain ⟨v, h1, h2⟩ := h.at_ i hi
    exact ⟨v, h1, by rw [hsn, h2]; rfl⟩
  · rw [hsn, hv]; simp
theorem Nums.iff {ks : Nat → List UInt8} {n : Nat} {L : List (List UInt8 × Nat)} {l : List Int} (h : Nums ks n L l n) {i j : Nat} (hi : i < n) (hj : j < n) : l.getD i 0 = l.getD j 0 ↔ ks i = ks j := by
  obtain ⟨v, h1, h2⟩ := h.at_ i hi
  obtain ⟨u, h3, h4⟩ := h.at_ j hj
  rw [h1, h3, Int.ofNat_inj]
  constructor
  · rintro rfl; exact h.inj _ _ _ h2 h4
  · intro e; rw [e, h4] at h2; cases h2; rfl
/-- the keys of the worlds in a round -/
def ksOf (rels : List (List W64)) (p : List Int) (w : Nat) : List UInt8 := keyL (rels.map (fun r => rch p (r.getD w 0#64)))
theorem nums_next {rels : List (List W64)} {p l : List Int} {L : List (List UInt8 × Nat)} (h : Nums (ksOf rels p) p.length L l p.length) : divP p l = nxt rels p := by
  refine ker_congr (fun i j hi hj => ?_)
  simp only [Prod.mk.injEq]
  refine and_congr_right (fun _ => ?_)
  rw [h.iff hi hj]
  exact ⟨fun e => keyL_inj (by simp) e, fun e => by rw [ksOf, e]; rfl⟩
theorem div_zero {n : Nat} {key : Nat → Nat} : divP (List.replicate n 0) ((List.range n).map (fun i => (key i : Int))) = ker n key := by
  unfold divP
  rw [List.length_replicate]
  refine ker_congr (fun i j hi hj => ?_)
  have e : ∀ j, (List.replicate n (0 : Int)).getD j 0 = 0 := fun j => by
    rw [List.getD_eq_getElem?_getD, List.getElem?_replicate]; split <;> rfl
  have e2 : ∀ j, j < n → ((List.range n).map (fun i => (key i : Int))).getD j 0 = (key j : Int) := fun j hj => by simp [List.getD_eq_getElem?_getD, hj]
  rw [e, e, e2 i hi, e2 j hj]
  simp only [Prod.mk.injEq, true_and, Int.ofNat_inj]
end Go.Proofs.Wit
namespace Go.Proofs.Wit
open Go Go.RowKit
/-! small whole numbers: or, shifts -/
section
variable {P : Program} {t : TypeId}
theorem ofInt_nat (x : Nat) : BitVec.ofInt 64 (x : Int) = BitVec.ofNat 64 x := by
  apply BitVec.eq_of_toNat_eq; simp
theorem bOrN {x y z : Nat} (hx : x < 9223372036854775808) (hy : y < 9223372036854775808) (e : x ||| y = z) : Bin P .or t (.int .i64 x) (.int .i64 y) (.int .i64 (z : Int)) := bI _ (by
  subst e
  show Op.intBits .or .i64 (x : Int) (y : Int) = _
  unfold Op.intBits
  have e1 : (BitVec.ofInt 64 (x : Int) ||| BitVec.ofInt 64 (y : Int)).toNat = x ||| y := by
    rw [ofInt_nat, ofInt_nat, BitVec.toNat_or, BitVec.toNat_ofNat, BitVec.toNat_ofNat, Nat.mod_eq_of_lt (by omega), Nat.mod_eq_of_lt (by omega)]
  have e2 : x ||| y < 2 ^ 63 := Nat.or_lt_two_pow (by omega) (by omega)
  show pure (Value.int .i64 (IntKind.i64.wrap ((BitVec.ofInt 64 (x : Int) ||| BitVec.ofInt 64 (y : Int)).toNat : Int))) = _
  rw [e1, IntWalk.i64_in _ (by omega)])
theorem bShlN {x j : Nat} {b : Int} {k : IntKind} (h : b = j) (hx : x * 2 ^ j < 9223372036854775808) (hj : j ≤ 64) : Bin P .shl t (.int .i64 x) (.int k b) (.int .i64 ((x * 2 ^ j : Nat) : Int)) := by
  subst h
  refine bin_pure (fun p q => eqg_int _ _ _ _ _ _ _ _) ?_
  show Op.shift .shl .i64 (x : Int) k (j : Int) = _
  unfold Op.shift
  rw [if_neg (by omega), Int.toNat_natCast]
  show pure (Value.int .i64 (IntKind.i64.wrap ((x : Int) * 2 ^ (min j 64)))) = _
  rw [Nat.min_eq_left hj]
  have e1 : ((x : Int) * 2 ^ j) = ((x * 2 ^ j : Nat) : Int) := by norm_cast
  rw [e1, IntWalk.i64_in _ (by omega)]
theorem bGeUB {x y : W64} : Bin P .geq t (U x) (U y) (.bool (decide (x.toNat ≥ y.toNat))) := by
  refine bU _ ?_
  show pure (Value.bool (decide ((x.toNat : Int) ≥ (y.toNat : Int)))) = _
  congr 2
  rw [decide_eq_decide]; omega
theorem fm_step {val : List W64} {w k : Nat} : fmTo val w k ||| ((val.getD k 0#64 >>> w) &&& 1#64).toNat * 2 ^ k = fmTo val w (k + 1) := by
  have e0 : ((val.getD k 0#64 >>> w) &&& 1#64).toNat = if (val.getD k 0#64).getLsbD w = true then 1 else 0 := by
    have := shr_bit (x := val.getD k 0#64) (i := w)
    by_cases h : (val.getD k 0#64).getLsbD w = true
    · rw [h, beq_iff_eq] at this; rw [this, if_pos h]; rfl
    · rw [if_neg h]
      rw [Bool.not_eq_true] at h
      rw [h, beq_eq_false_iff_ne] at this
      have h2 : ((val.getD k 0#64 >>> w) &&& 1#64).toNat ≤ 1 := by rw [BitVec.toNat_and]; exact Nat.and_le_right
      by_cases h3 : ((val.getD k 0#64 >>> w) &&& 1#64).toNat = 1
      · exact absurd (BitVec.eq_of_toNat_eq h3) this
      · omega
  rw [e0, fmTo]
  split
  · rw [Nat.one_mul, Nat.or_comm]
    have := Nat.shiftLeft_add_eq_or_of_lt (fmTo_lt val w k) 1
    rw [Nat.one_shiftLeft] at this
    rw [← this, Nat.add_comm]
  · simp
theorem bit1_le (x : W64) (w : Nat) : ((x >>> w) &&& 1#64).toNat ≤ 1 := by rw [BitVec.toNat_and]; exact Nat.and_le_right
theorem bits_le {x k : Nat} (h : x ≤ 1) (hk : k ≤ 8) : x * 2 ^ k < 9223372036854775808 := by
  have h1 : (2 : Nat) ^ k ≤ 2 ^ 8 := Nat.pow_le_pow_right (by decide) hk
  have h2 : x * 2 ^ k ≤ 1 * 2 ^ k := Nat.mul_le_mul_right _ h
  have h3 : (2 : Nat) ^ 8 = 256 := by decide
  omega
theorem fm_lt {val : List W64} {w k : Nat} (hk : k ≤ 8) : fmTo val w k < 9223372036854775808 := by
  have h0 := fmTo_lt val w k
  have h1 : (2 : Nat) ^ k ≤ 2 ^ 8 := Nat.pow_le_pow_right (by decide) hk
  have h3 : (2 : Nat) ^ 8 = 256 := by decide
  omega
end
end Go.Proofs.Wit
namespace Go.Proofs.Wit
/-! bisimulations between two models -/
def forB (r s z : List W64) (v w : Nat) : Bool := (pts (r.getD v 0#64)).all (fun x => z.getD x 0#64 &&& s.getD w 0#64 != 0#64) && (s.getD w 0#64 &&& ~~~ mapR z (r.getD v 0#64) == 0#64)
def matB (va vb : List W64) (ra rb : List (List W64)) (z : List W64) (v w : Nat) : Bool := (fm va v == fm vb w) && (List.range ra.length).all (fun i => forB (ra.getD i []) (rb.getD i []) z v w)
def LeZ (l c : List W64) : Prop := ∀ u v, Rl l u v → Rl c u v
theorem forB_iff {r s z : List W64} {v w : Nat} : forB r s z v w = true ↔ (∀ x, Rl r v x → ∃ y, Rl z x y ∧ Rl s w y) ∧ (∀ y, Rl s w y → ∃ x, Rl r v x ∧ Rl z x y) := by
  unfold forB
  rw [Bool.and_eq_true, List.all_eq_true, beq_iff_eq, andNot_zero]
  constructor
  · rintro ⟨h1, h2⟩
    refine ⟨fun x hx => ?_, fun y hy => ?_⟩
    · have := h1 x (mem_pts.2 ⟨bit_lt hx, hx⟩)
      rw [bne_iff_ne] at this
      obtain ⟨i, hi⟩ := ne_zero_iff.1 this
      rw [BitVec.getLsbD_and, Bool.and_eq_true] at hi
      exact ⟨i, hi.1, hi.2⟩
    · obtain ⟨x, h3, h4⟩ := mapR_bit.1 (h2 y hy)
      exact ⟨x, h3, h4⟩
  · rintro ⟨h1, h2⟩
    refine ⟨fun x hx => ?_, fun y hy => ?_⟩
    · obtain ⟨y, h3, h4⟩ := h1 x (mem_pts.1 hx).2
      rw [bne_iff_ne]
      exact ne_zero_iff.2 ⟨y, by rw [BitVec.getLsbD_and, Bool.and_eq_true]; exact ⟨h3, h4⟩⟩
    · obtain ⟨x, h3, h4⟩ := h2 y hy
      exact mapR_bit.2 ⟨x, h3, h4⟩
section
variable {va vb : List W64} {ra rb : List (List W64)}
theorem matB_iff {z : List W64} {v w : Nat} : matB va vb ra rb z v w = true ↔ fm va v = fm vb w ∧ ∀ i, i < ra.length → forB (ra.getD i []) (rb.getD i []) z v w = true := by
  rw [matB, Bool.and_eq_true, beq_iff_eq, List.all_eq_true]
  simp only [List.mem_range]
theorem matB_mono {z z' : List W64} (h : LeZ z z') {v w : Nat} (hm : matB va vb ra rb z v w = true) : matB va vb ra rb z' v w = true := by
  rw [matB_iff] at hm ⊢
  refine ⟨hm.1, fun i hi => ?_⟩
  obtain ⟨h1, h2⟩ := forB_iff.1 (hm.2 i hi)
  exact forB_iff.2 ⟨fun x hx => by obtain ⟨y, h3, h4⟩ := h1 x hx; exact ⟨y, h _ _ h3, h4⟩, fun y hy => by obtain ⟨x, h3, h4⟩ := h2 y hy; exact ⟨x, h3, h _ _ h4⟩⟩
def SimB (va vb : List W64) (ra rb : List (List W64)) (z : List W64) : Prop := ∀ v w, Rl z v w → matB va vb ra rb z v w = true
structure InvZ (va vb : List W64) (ra rb : List (List W64)) (na nb : Nat) (z : List W64) : Prop where
  len : z.length = na
  rng : ∀ v w, Rl z v w → w < nb
  top : ∀ z' : List W64, z'.length = na → (∀ v w, Rl z' v w → w < nb) → SimB va vb ra rb z' → LeZ z' z
structure Grt (va vb : List W64) (ra rb : List (List W64)) (na nb : Nat) (z : List W64) : Prop extends InvZ va vb ra rb na nb z where
  sim : SimB va vb ra rb z
theorem leZ_antisymm {z z' : List W64} (hl : z.length = z'.length) (h : LeZ z z') (h' : LeZ z' z) : z = z' := by
  apply List.ext_getElem hl
  intro i h1 h2
  apply eq_of_bits
  intro j hj
  have e1 : z.getD i 0#64 = z[i] := by simp [List.getD_eq_getElem?_getD, h1]
  have e2 : z'.getD i 0#64 = z'[i] := by simp [List.getD_eq_getElem?_getD, h2]
  rw [← e1, ← e2, Bool.eq_iff_iff]
  exact ⟨h i j, h' i j⟩
theorem Grt.uniq {na nb : Nat} {z z' : List W64} (h : Grt va vb ra rb na nb z) (h' : Grt va vb ra rb na nb z') : z = z' :=
  leZ_antisymm (h.len.trans h'.len.symm) (h'.top z h.len h.rng h.sim) (h.top z' h'.len h'.rng h'.sim)
def delZ (z : List W64) (v w : Nat) : List W64 := z.set v (z.getD v 0#64 &&& ~~~(1#64 <<< w))
theorem one_bit {w i : Nat} (hw : w < 64) : (1#64 <<< w).getLsbD i = decide (i = w) := by
  rw [BitVec.getLsbD_shiftLeft]
  by_cases e : i = w
  · subst e; simp [hw]
  · rw [decide_eq_false e]
    by_cases h1 : i < 64
    · by_cases h2 : i < w
      · simp [h1, h2]
      · have h3 : i - w ≠ 0 := by omega
        simp [h1, h2, h3]
    · simp [h1]
theorem delZ_len {z : List W64} {v w : Nat} : (delZ z v w).length = z.length := by simp [delZ]
theorem delZ_bit {z : List W64} {v w u x : Nat} (hw : w < 64) : Rl (delZ z v w) u x ↔ Rl z u x ∧ ¬ (u = v ∧ x = w) := by
  unfold Rl delZ
  by_cases e : u = v
  · subst e
    by_cases hu : u < z.length
    · rw [show (z.set u (z.getD u 0#64 &&& ~~~(1#64 <<< w))).getD u 0#64 = z.getD u 0#64 &&& ~~~(1#64 <<< w) from by simp [List.getD_eq_getElem?_getD, hu]]
      rw [BitVec.getLsbD_and, BitVec.getLsbD_not, one_bit hw]
      by_cases hx : x < 64
      · simp [hx]
      · constructor
        · intro h; simp [hx] at h
        · rintro ⟨h, _⟩; exact absurd (bit_lt h) hx
    · have h1 : z.getD u 0#64 = 0#64 := by simp [List.getD_eq_getElem?_getD, List.getElem?_eq_none (Nat.le_of_not_lt hu)]
      rw [List.set_eq_of_length_le (Nat.le_of_not_lt hu), h1]; simp
  · have h1 : (z.set v (z.getD v 0#64 &&& ~~~(1#64 <<< w))).getD u 0#64 = z.getD u 0#64 := by simp [List.getD_eq_getElem?_getD, Ne.symm e]
    rw [h1]; simp [e]
theorem InvZ.del {na nb : Nat} {z : List W64} (h : InvZ va vb ra rb na nb z) {v w : Nat} (hw : w < 64) (hb : matB va vb ra rb z v w = false) : InvZ va vb ra rb na nb (delZ z v w) :=
  ⟨by rw [delZ_len, h.len], fun u x hx => h.rng u x ((delZ_bit hw).1 hx).1, fun z' h1 h2 h3 u x hx => (delZ_bit hw).2 ⟨h.top z' h1 h2 h3 u x hx, by
    rintro ⟨rfl, rfl⟩
    have := matB_mono (h.top z' h1 h2 h3) (h3 _ _ hx)
    rw [hb] at this; cases this⟩⟩
theorem InvZ.start {na nb : Nat} (hb : nb ≤ 64) : InvZ va vb ra rb na nb (List.replicate na (allW nb)) := by
  have hg : ∀ v, v < na → (List.replicate na (allW nb)).getD v 0#64 = allW nb := fun v hv => by simp [List.getD_eq_getElem?_getD, hv]
  refine ⟨by simp, fun v w h => ?_, fun z' h1 h2 h3 v w h => ?_⟩
  · have hv := h.dom
    rw [List.length_replicate] at hv
    unfold Rl at h
    rw [hg v hv, allW_bit hb (bit_lt h)] at h
    simpa using h
  · have hv := h.dom
    rw [h1] at hv
    have hw := h2 v w h
    unfold Rl
    rw [hg v hv, allW_bit hb (by omega)]
    simpa using hw
end
/-- a measure -/
def sumZ (z : List W64) : Nat := (z.map BitVec.toNat).sum
theorem sumZ_set : ∀ (z : List W64) (v : Nat) (y : W64), v < z.length → sumZ (z.set v y) + (z.getD v 0#64).toNat = sumZ z + y.toNat
  | [], _, _, h => absurd h (Nat.not_lt_zero _)
  | x :: z, 0, y, _ => by simp [sumZ]; omega
  | x :: z, v + 1, y, h => by
    have := sumZ_set z v y (by simpa using h)
    simp only [sumZ, List.set_cons_succ, List.map_cons, List.sum_cons, List.getD_cons_succ] at this ⊢
    omega
theorem del_lt {s : W64} {w : Nat} (h : s.getLsbD w = true) : (s &&& ~~~(1#64 <<< w)).toNat < s.toNat := by
  have hw := bit_lt h
  have h1 : (s &&& ~~~(1#64 <<< w)).toNat ≤ s.toNat := by rw [BitVec.toNat_and]; exact Nat.and_le_left
  rcases Nat.lt_or_ge (s &&& ~~~(1#64 <<< w)).toNat s.toNat with h2 | h2
  · exact h2
  · exfalso
    have h3 : s &&& ~~~(1#64 <<< w) = s := BitVec.eq_of_toNat_eq (by omega)
    have h4 := congrArg (fun t : W64 => t.getLsbD w) h3
    simp only [BitVec.getLsbD_and, BitVec.getLsbD_not, one_bit hw, h] at h4
    simp at h4
theorem sumZ_del {z : List W64} {v w : Nat} (h : Rl z v w) : sumZ (delZ z v w) < sumZ z := by
  have h1 := sumZ_set z v (z.getD v 0#64 &&& ~~~(1#64 <<< w)) h.dom
  have h2 := del_lt h
  unfold delZ
  omega
/-- one turn of the outer loop: rows before k are done -/
structure TurnZ (va vb : List W64) (ra rb : List (List W64)) (na nb : Nat) (z0 z : List W64) (ch : Bool) (k : Nat) : Prop where
  inv : InvZ va vb ra rb na nb z
  le : sumZ z ≤ sumZ z0
  chg : ch = true → sumZ z < sumZ z0
  same : ch = false → ∀ v w, v < k → Rl z v w → matB va vb ra rb z v w = true
/-- in row k, with the members s of the row at its start, the first i of which are done -/
structure RowZ (va vb : List W64) (ra rb : List (List W64)) (na nb : Nat) (z0 : List W64) (k : Nat) (s : W64) (i : Nat) (z : List W64) (ch : Bool) : Prop where
  turn : TurnZ va vb ra rb na nb z0 z ch k
  row : ∀ w, Rl z k w → s.getLsbD w = true
  left : ∀ w ∈ (pts s).drop i, Rl z k w
  done : ch = false → ∀ w ∈ (pts s).take i, matB va vb ra rb z k w = true
theorem pts_nodup (s : W64) : (pts s).Nodup := List.Pairwise.filter _ List.nodup_range
section
variable {va vb : List W64} {ra rb : List (List W64)} {na nb k i : Nat} {z0 z : List W64} {s : W64} {ch : Bool}
theorem TurnZ.start (h : InvZ va vb ra rb na nb z) : TurnZ va vb ra rb na nb z z false 0 := ⟨h, Nat.le_refl _, (fun e => by cases e), fun _ v w hv => absurd hv (Nat.not_lt_zero _)⟩
theorem TurnZ.row (h : TurnZ va vb ra rb na nb z0 z ch k) : RowZ va vb ra rb na nb z0 k (z.getD k 0#64) 0 z ch :=
  ⟨h, fun _ hw => hw, fun w hw => (mem_pts.1 (by simpa using hw)).2, fun _ w hw => by simp at hw⟩
theorem RowZ.keep (h : RowZ va vb ra rb na nb z0 k s i z ch) {x : Nat} (hx : (pts s)[i]? = some x) (hm : matB va vb ra rb z k x = true) : RowZ va vb ra rb na nb z0 k s (i + 1) z ch := by
  obtain ⟨h1, h2⟩ := List.getElem?_eq_some_iff.1 hx
  refine ⟨h.turn, h.row, fun w hw => h.left w ?_, fun e w hw => ?_⟩
  · rw [List.drop_eq_getElem_cons h1]; exact List.mem_cons_of_mem _ hw
  · rw [List.take_succ_eq_append_getElem h1] at hw
    rcases List.mem_append.1 hw with hw | hw
    · exact h.done e w hw
    · rw [List.mem_singleton.1 hw, h2]; exact hm
theorem RowZ.del (h : RowZ va vb ra rb na nb z0 k s i z ch) {x : Nat} (hx : (pts s)[i]? = some x) (hm : matB va vb ra rb z k x = false) : RowZ va vb ra rb na nb z0 k s (i + 1) (delZ z k x) true := by
  obtain ⟨h1, h2⟩ := List.getElem?_eq_some_iff.1 hx
  have hx64 := (mem_pts.1 (List.mem_of_getElem? hx)).1
  have hR : Rl z k x := h.left x (by rw [List.drop_eq_getElem_cons h1, h2]; exact List.mem_cons_self ..)
  have hlt := sumZ_del hR
  have hle := h.turn.le
  refine ⟨⟨h.turn.inv.del hx64 hm, by omega, fun _ => by omega, (fun e => by cases e)⟩, fun w hw => h.row w ((delZ_bit hx64).1 hw).1, fun w hw => (delZ_bit hx64).2 ⟨h.left w (by rw [List.drop_eq_getElem_cons h1]; exact List.mem_cons_of_mem _ hw), ?_⟩, (fun e => by cases e)⟩
  rintro ⟨-, rfl⟩
  have hn := pts_nodup s
  rw [← List.take_append_drop (i + 1) (pts s)] at hn
  have h3 := (List.nodup_append.1 hn).2.2 w (by rw [List.take_succ_eq_append_getElem h1, h2]; simp) w hw
  exact h3 rfl
theorem RowZ.end (h : RowZ va vb ra rb na nb z0 k s (pts s).length z ch) : TurnZ va vb ra rb na nb z0 z ch (k + 1) :=
  ⟨h.turn.inv, h.turn.le, h.turn.chg, fun e v w hv hw => by
    rcases Nat.lt_succ_iff_lt_or_eq.1 hv with hv | rfl
    · exact h.turn.same e v w hv hw
    · exact h.done e w (by rw [List.take_length]; exact mem_pts.2 ⟨bit_lt hw, h.row w hw⟩)⟩
theorem TurnZ.grt (h : TurnZ va vb ra rb na nb z0 z false k) (hk : na ≤ k) : Grt va vb ra rb na nb z :=
  ⟨h.inv, fun v w hw => h.same rfl v w (by have := hw.dom; have := h.inv.len; omega) hw⟩
end
/-- what Check and Between say -/
def bothE (na : Int) (va : List W64) (ra : List (List W64)) (nb : Int) (vb : List W64) (rb : List (List W64)) : Int :=
  if checkM na va ra ≠ 0 then checkM na va ra else if checkM nb vb rb ≠ 0 then checkM nb vb rb else if ra.length ≠ rb.length ∨ va.length ≠ vb.length then 1 else 0
theorem bothE_zero {na nb : Int} {va vb : List W64} {ra rb : List (List W64)} : bothE na va ra nb vb rb = 0 ↔ ValM na va ra ∧ ValM nb vb rb ∧ ra.length = rb.length ∧ va.length = vb.length := by
  unfold bothE
  constructor
  · intro h
    split at h
    · rename_i h1; exact absurd h h1
    · rename_i h1
      split at h
      · rename_i h2; exact absurd h h2
      · rename_i h2
        split at h
        · cases h
        · rename_i h3
          exact ⟨checkM_zero.1 (Classical.not_not.1 h1), checkM_zero.1 (Classical.not_not.1 h2), by omega, by omega⟩
  · rintro ⟨h1, h2, h3, h4⟩
    rw [if_neg (by simp [checkM_zero.2 h1]), if_neg (by simp [checkM_zero.2 h2]), if_neg (by omega)]
def badZ (va vb : List W64) (ra rb : List (List W64)) (z : List W64) : Bool := (List.range z.length).any (fun v => (pts (z.getD v 0#64)).any (fun w => !matB va vb ra rb z v w))
def chkE (na : Int) (va : List W64) (ra : List (List W64)) (nb : Int) (vb : List W64) (rb : List (List W64)) (z : List W64) : Int :=
  if bothE na va ra nb vb rb ≠ 0 then bothE na va ra nb vb rb else if (z.length : Int) ≠ na then 3 else if outB nb.toNat z = true then 2 else if badZ va vb ra rb z = true then 13 else 0
theorem badZ_false {va vb : List W64} {ra rb : List (List W64)} {z : List W64} : badZ va vb ra rb z = false ↔ SimB va vb ra rb z := by
  rw [badZ, List.any_eq_false]
  constructor
  · intro h v w hw
    have h1 := h v (List.mem_range.2 hw.dom)
    rw [Bool.not_eq_true, List.any_eq_false] at h1
    have h2 := h1 w (mem_pts.2 ⟨bit_lt hw, hw⟩)
    simpa using h2
  · intro h v _
    rw [Bool.not_eq_true, List.any_eq_false]
    intro w hw
    have := h v w (mem_pts.1 hw).2
    simp [this]
theorem outB_rng {n : Nat} {z : List W64} (hn : n ≤ 64) : outB n z = false ↔ ∀ v w, Rl z v w → w < n := by
  rw [outB_false]
  constructor
  · intro h v w hw
    have hv := hw.dom
    have h1 := h z[v] (List.getElem_mem hv)
    have e : z.getD v 0#64 = z[v] := by simp [List.getD_eq_getElem?_getD, hv]
    unfold Rl at hw
    rw [e] at hw
    have h2 := andNot_zero.1 h1 w hw
    rw [allW_bit hn (bit_lt hw)] at h2
    simpa using h2
  · intro h s hs
    obtain ⟨v, hv, rfl⟩ := List.mem_iff_getElem.1 hs
    refine andNot_zero.2 fun i hi => ?_
    have e : z.getD v 0#64 = z[v] := by simp [List.getD_eq_getElem?_getD, hv]
    have := h v i (by unfold Rl; rw [e]; exact hi)
    rw [allW_bit hn (bit_lt hi)]
    simpa using this
theorem chkE_zero {na nb : Int} {va vb : List W64} {ra rb : List (List W64)} {z : List W64} : chkE na va ra nb vb rb z = 0 ↔ bothE na va ra nb vb rb = 0 ∧ (z.length : Int) = na ∧ outB nb.toNat z = false ∧ SimB va vb ra rb z := by
  rw [← badZ_false]
  unfold chkE
  constructor
  · intro h
    split at h
    · rename_i h1; exact absurd h h1
    · rename_i h1
      split at h
      · cases h
      · rename_i h2
        split at h
        · cases h
        · rename_i h3
          split at h
          · cases h
          · rename_i h4
            exact ⟨Classical.not_not.1 h1, Classical.not_not.1 h2, by simpa using h3, by simpa using h4⟩
  · rintro ⟨h1, h2, h3, h4⟩
    rw [if_neg (by simp [h1]), if_neg (by simp [h2]), if_neg (by simp [h3]), if_neg (by simp [h4])]
/-- what Bisimilar says -/
def bisE (na : Int) (va : List W64) (ra : List (List W64)) (nb : Int) (vb : List W64) (rb : List (List W64)) (v w : Int) : Int :=
  if bothE na va ra nb vb rb ≠ 0 then bothE na va ra nb vb rb else if v < 0 ∨ na ≤ v ∨ w < 0 ∨ nb ≤ w then 2 else 0
/-- the length of a word in bits -/
def lenN (n : Nat) : Nat := if n = 0 then 0 else n.log2 + 1
theorem lenN_le {n k : Nat} : lenN n ≤ k ↔ n < 2 ^ k := by
  unfold lenN
  by_cases h : n = 0
  · subst h; simp [Nat.two_pow_pos]
  · rw [if_neg h, ← Nat.log2_lt h]; omega
theorem lenN_shift {n k : Nat} (h : 2 ^ k ≤ n) : lenN n = k + lenN (n / 2 ^ k) := by
  have h0 : n / 2 ^ k ≠ 0 := by have := Nat.div_pos h (Nat.two_pow_pos k); omega
  apply Nat.le_antisymm
  · rw [lenN_le, Nat.pow_add]
    have h1 : n / 2 ^ k < 2 ^ lenN (n / 2 ^ k) := lenN_le.1 (Nat.le_refl _)
    have := Nat.div_lt_iff_lt_mul (Nat.two_pow_pos k) |>.1 h1
    rw [Nat.mul_comm]; exact this
  · have h1 : n < 2 ^ lenN n := lenN_le.1 (Nat.le_refl _)
    have h2 : k ≤ lenN n := by
      apply Classical.byContradiction
      intro hc
      have : 2 ^ lenN n ≤ 2 ^ k := Nat.pow_le_pow_right (by decide) (by omega)
      omega
    have h3 : lenN (n / 2 ^ k) ≤ lenN n - k := by
      rw [lenN_le, Nat.div_lt_iff_lt_mul (Nat.two_pow_pos k), ← Nat.pow_add, Nat.sub_add_cancel h2]; exact h1
    omega
theorem lenN_out {s : W64} {n : Nat} (hn : n ≤ 64) : lenN s.toNat > n ↔ s &&& ~~~ allW n ≠ 0#64 := by
  rw [gt_iff_lt, ← Nat.not_le, lenN_le]
  refine not_congr ?_
  rw [andNot_zero]
  constructor
  · intro h i hi
    rw [allW_bit hn (bit_lt hi)]
    apply Classical.byContradiction
    intro hc
    have h1 : n ≤ i := by simpa using hc
    have h2 : s.toNat < 2 ^ i := Nat.lt_of_lt_of_le h (Nat.pow_le_pow_right (by decide) h1)
    have h3 := Nat.testBit_lt_two_pow h2
    rw [BitVec.getLsbD] at hi
    rw [hi] at h3; cases h3
  · intro h
    apply Nat.lt_pow_two_of_testBit
    intro i hi
    cases hb : s.toNat.testBit i with
    | false => rfl
    | true =>
      have h1 := h i (by rw [BitVec.getLsbD]; exact hb)
      have h2 : i < 64 := by
        apply Classical.byContradiction
        intro hc
        have : s.toNat < 2 ^ i := Nat.lt_of_lt_of_le s.isLt (Nat.pow_le_pow_right (by decide) (by omega))
        rw [Nat.testBit_lt_two_pow this] at hb; cases hb
      rw [allW_bit hn h2] at h1
      have : i < n := by simpa using h1
      omega
def len8tab : List UInt8 := [0, 1, 2, 2, 3, 3, 3, 3, 4, 4, 4, 4, 4, 4, 4, 4, 5, 5, 5, 5, 5, 5, 5, 5, 5, 5, 5, 5, 5, 5, 5, 5, 6, 6, 6, 6, 6, 6, 6, 6, 6, 6, 6, 6, 6, 6, 6, 6, 6, 6, 6, 6, 6, 6, 6, 6, 6, 6, 6, 6, 6, 6, 6, 6, 7, 7, 7, 7, 7, 7, 7, 7, 7, 7, 7, 7, 7, 7, 7, 7, 7, 7, 7, 7, 7, 7, 7, 7, 7, 7, 7, 7, 7, 7, 7, 7, 7, 7, 7, 7, 7, 7, 7, 7, 7, 7, 7, 7, 7, 7, 7, 7, 7, 7, 7, 7, 7, 7, 7, 7, 7, 7, 7, 7, 7, 7, 7, 7, 8, 8, 8, 8, 8, 8, 8, 8, 8, 8, 8, 8, 8, 8, 8, 8, 8, 8, 8, 8, 8, 8, 8, 8, 8, 8, 8, 8, 8, 8, 8, 8, 8, 8, 8, 8, 8, 8, 8, 8, 8, 8, 8, 8, 8, 8, 8, 8, 8, 8, 8, 8, 8, 8, 8, 8, 8, 8, 8, 8, 8, 8, 8, 8, 8, 8, 8, 8, 8, 8, 8, 8, 8, 8, 8, 8, 8, 8, 8, 8, 8, 8, 8, 8, 8, 8, 8, 8, 8, 8, 8, 8, 8, 8, 8, 8, 8, 8, 8, 8, 8, 8, 8, 8, 8, 8, 8, 8, 8, 8, 8, 8, 8, 8, 8, 8, 8, 8, 8, 8, 8, 8, 8, 8, 8, 8, 8, 8]
theorem len8_all : ∀ x : Fin 256, (len8tab.getD x.val 0).toNat = lenN x.val := by decide +kernel
theorem len8_get {x : Nat} (h : x < 256) : (len8tab.getD x 0).toNat = lenN x := len8_all ⟨x, h⟩
theorem lenW_shift {x : W64} {k : Nat} (h : 2 ^ k ≤ x.toNat) : lenN x.toNat = k + lenN (x >>> k).toNat := by
  rw [lenN_shift h, BitVec.toNat_ushiftRight, Nat.shiftRight_eq_div_pow]
theorem shr_lt {x : W64} {a k : Nat} (h : x.toNat < 2 ^ (a + k)) : (x >>> k).toNat < 2 ^ a := by
  rw [BitVec.toNat_ushiftRight, Nat.shiftRight_eq_div_pow, Nat.div_lt_iff_lt_mul (Nat.two_pow_pos k), ← Nat.pow_add]; exact h
theorem allW_sub {n : Nat} (hn : n ≤ 64) : (1#64 <<< n) - 1#64 = allW n := by
  unfold allW
  split
  · obtain rfl : n = 64 := by omega
    decide
  · rfl
theorem flm_const {n : Nat} {c : W64} : flm (fun _ _ => c) (List.replicate n 0#64) n = List.replicate n c := by
  apply List.ext_getElem (by simp [flm])
  intro i h1 h2
  have hi : i < n := by simpa using h2
  simp [flm, hi]
/-- what Between returns -/
def BetZ (na : Int) (va : List W64) (ra : List (List W64)) (nb : Int) (vb : List W64) (rb : List (List W64)) (z : List W64) : Prop :=
  (bothE na va ra nb vb rb ≠ 0 → z = []) ∧ (bothE na va ra nb vb rb = 0 → Grt va vb ra rb na.toNat nb.toNat z)
theorem BetZ.uniq {na nb : Int} {va vb : List W64} {ra rb : List (List W64)} {z z' : List W64} (h : BetZ na va ra nb vb rb z) (h' : BetZ na va ra nb vb rb z') : z = z' := by
  by_cases e : bothE na va ra nb vb rb = 0
  · exact (h.2 e).uniq (h'.2 e)
  · rw [h.1 e, h'.1 e]
theorem TurnZ.meas {va vb : List W64} {ra rb : List (List W64)} {na nb k : Nat} {z0 z : List W64} {ch : Bool} (h : TurnZ va vb ra rb na nb z0 z ch k) : 2 * sumZ z + ch.toNat < 2 * sumZ z0 + 1 := by
  have h1 := h.le
  cases ch with
  | false => simp; omega
  | true => have h2 := h.chg rfl; simp; omega
def BisY (na : Int) (va : List W64) (ra : List (List W64)) (nb : Int) (vb : List W64) (rb : List (List W64)) (v w : Int) (y : Bool) : Prop :=
  (bisE na va ra nb vb rb v w ≠ 0 → y = false) ∧ (bisE na va ra nb vb rb v w = 0 → ∀ z, BetZ na va ra nb vb rb z → y = (z.getD v.toNat 0#64).getLsbD w.toNat)
end Go.Proofs.Wit
namespace Go.Proofs.Wit
open Go Go.RowKit
/-! for the reference of chapter 19 -/
section
variable {P : Program} {t : TypeId}
theorem bRem2 {x : W64} : Bin P .rem t (U x) (U 2#64) (U (x &&& 1#64)) := bU _ (by
  show Op.intDiv .rem .u64 (x.toNat : Int) 2 = _
  unfold Op.intDiv
  rw [if_neg (by decide)]
  show pure (Value.int .u64 ((x.toNat : Int).tmod 2)) = pure (Value.int .u64 ((x &&& 1#64).toNat : Int))
  rw [show (x.toNat : Int).tmod 2 = ((x.toNat % 2 : Nat) : Int) from rfl, BitVec.toNat_and]
  rw [show (1#64 : W64).toNat = 1 from rfl, Nat.and_one_is_mod])
end
theorem add_new {s : W64} {b : Nat} (h : s.getLsbD b = false) : s + 1#64 <<< b = s ||| 1#64 <<< b := by
  apply BitVec.add_eq_or_of_and_eq_zero
  apply eq_of_bits
  intro i hi
  by_cases hb : b < 64
  · rw [BitVec.getLsbD_and, one_bit hb]
    by_cases e : i = b
    · subst e; simp [h]
    · simp [e]
  · simp [hi, show i < b from by omega]
theorem or_old {s : W64} {b : Nat} (h : s.getLsbD b = true) : s ||| 1#64 <<< b = s := by
  apply eq_of_bits
  intro i hi
  rw [BitVec.getLsbD_or, one_bit (bit_lt h)]
  by_cases e : i = b
  · subst e; simp [h]
  · simp [e]
def rchTo (p : List Int) (s : W64) (k : Nat) : W64 := imgU (bitsP p) s k
theorem rchTo_all {p : List Int} {s : W64} : rchTo p s p.length = rch p s := by
  have := imgU_eq (bitsP p) s
  rw [show (bitsP p).length = p.length from by simp [bitsP]] at this
  exact this
theorem rchTo_succ {p : List Int} {s : W64} {k : Nat} (hk : k < p.length) : rchTo p s (k + 1) = if s.getLsbD k = true then rchTo p s k ||| 1#64 <<< p[k].toNat else rchTo p s k := by
  show (if s.getLsbD k = true then rchTo p s k ||| (bitsP p).getD k 0#64 else rchTo p s k) = _
  rw [show (bitsP p).getD k 0#64 = 1#64 <<< p[k].toNat from by simp [bitsP, List.getD_eq_getElem?_getD, hk]]
section
variable {κ : Type} [DecidableEq κ]
/-- going down from i: low is the lowest point above j with the key of i -/
structure Down (key : Nat → κ) (i : Nat) (j : Int) (low : Nat) : Prop where
  lo : j < low
  hi : low ≤ i
  eq : key low = key i
  min : ∀ m : Nat, j < m → m ≤ i → key m = key i → low ≤ m
omit [DecidableEq κ] in
theorem Down.start {key : Nat → κ} {i : Nat} {j : Int} (h : j < i) (h2 : ∀ m : Nat, j < m → m < i → False) : Down key i j i := ⟨h, Nat.le_refl _, rfl, fun m h1 h3 _ => by
  rcases Nat.lt_or_eq_of_le h3 with h4 | h4
  · exact (h2 m h1 h4).elim
  · omega⟩
omit [DecidableEq κ] in
theorem Down.top {key : Nat → κ} {i : Nat} : Down key i i i → True := fun _ => trivial
omit [DecidableEq κ] in
theorem Down.hit {key : Nat → κ} {i : Nat} {j low : Nat} (_h : Down key i j low) (hj : j ≤ i) (hk : key j = key i) : Down key i ((j : Int) - 1) j := ⟨by omega, hj, hk, fun m h1 _ _ => by omega⟩
omit [DecidableEq κ] in
theorem Down.skip {key : Nat → κ} {i : Nat} {j low : Nat} (h : Down key i j low) (hk : key j ≠ key i) : Down key i ((j : Int) - 1) low := ⟨by have := h.lo; omega, h.hi, h.eq, fun m h1 h2 h3 => by
  by_cases e : m = j
  · subst e; exact absurd h3 hk
  · exact h.min m (by omega) h2 h3⟩
theorem Down.led {key : Nat → κ} {i : Nat} {j : Int} {low : Nat} (h : Down key i j low) (hj : j < 0) : led key i = low := by
  obtain ⟨h1, h2, h3⟩ := led_spec key i
  apply Nat.le_antisymm
  · exact h3 low h.eq
  · exact h.min _ (by omega) h1 h2
/-- the keys of the first k points, as lowest points -/
def leds (key : Nat → κ) (k : Nat) : List Int := (List.range k).map (fun i => (Wit.led key i : Int))
theorem leds_len {key : Nat → κ} {k : Nat} : (leds key k).length = k := by simp [leds]
theorem leds_succ {key : Nat → κ} {k : Nat} : leds key (k + 1) = leds key k ++ [(Wit.led key k : Int)] := by simp [leds, List.range_succ]
theorem leds_get {key : Nat → κ} {k i : Nat} (h : i < k) : (leds key k).getD i 0 = (Wit.led key i : Int) := by simp [leds, List.getD_eq_getElem?_getD, h]
end
/-- the keys of a round -/
def rkey (rels : List (List W64)) (p : List Int) (w : Nat) : Int × List W64 := (p.getD w 0, rels.map (fun r => rch p (r.getD w 0#64)))
theorem div_leds {rels : List (List W64)} {p : List Int} : divP p (leds (rkey rels p) p.length) = nxt rels p := by
  unfold divP nxt
  apply ker_congr
  intro i j hi hj
  rw [leds_get hi, leds_get hj]
  show _ ↔ rkey rels p i = rkey rels p j
  rw [Prod.mk.injEq]
  constructor
  · rintro ⟨_, h⟩
    exact led_iff.1 (by omega)
  · intro h
    exact ⟨congrArg Prod.fst h, by rw [led_iff.2 h]⟩
theorem rkey_iff {rels : List (List W64)} {p : List Int} {i j : Nat} : rkey rels p i = rkey rels p j ↔ p.getD i 0 = p.getD j 0 ∧ ∀ r ∈ rels, rch p (r.getD i 0#64) = rch p (r.getD j 0#64) := by
  simp [rkey]
/-- the facts of the first k worlds -/
def fmL (val : List W64) (k : Nat) : List Int := (List.range k).map (fun i => (fm val i : Int))
theorem fmL_len {val : List W64} {k : Nat} : (fmL val k).length = k := by simp [fmL]
theorem fmL_succ {val : List W64} {k : Nat} : fmL val (k + 1) = fmL val k ++ [(fm val k : Int)] := by simp [fmL, List.range_succ]
theorem div_fm {val : List W64} {n : Nat} {rels : List (List W64)} : divP (List.replicate n 0) (fmL val n) = psq n val rels 0 := div_zero
theorem fmTo_succ {val : List W64} {w k : Nat} : fmTo val w (k + 1) = fmTo val w k + (if (val.getD k 0#64).getLsbD w = true then 2 ^ k else 0) := rfl
theorem sub_bit {s : W64} {b : Nat} (h : s.getLsbD b = true) : s - 1#64 <<< b = s &&& ~~~(1#64 <<< b) := by
  have hb := bit_lt h
  have h1 : (s &&& ~~~(1#64 <<< b)).getLsbD b = false := by
    rw [BitVec.getLsbD_and, BitVec.getLsbD_not, one_bit hb]; simp
  have h2 : (s &&& ~~~(1#64 <<< b)) + 1#64 <<< b = s := by
    rw [add_new h1]
    apply eq_of_bits
    intro i hi
    rw [BitVec.getLsbD_or, BitVec.getLsbD_and, BitVec.getLsbD_not, one_bit hb]
    by_cases e : i = b
    · subst e; simp [h]
    · simp [e, hi]
  have h3 := congrArg (fun x => x - 1#64 <<< b) h2
  simp only [BitVec.add_sub_cancel] at h3
  exact h3.symm
theorem and_eq_left {t m : W64} : (t &&& m == t) = (t &&& ~~~m == 0#64) := by
  rw [Bool.eq_iff_iff, beq_iff_eq, beq_iff_eq, andNot_zero]
  constructor
  · intro h i hi
    rw [← h, BitVec.getLsbD_and, Bool.and_eq_true] at hi
    exact hi.2
  · intro h
    apply eq_of_bits
    intro i hi
    rw [BitVec.getLsbD_and]
    cases ht : t.getLsbD i with
    | false => rfl
    | true => rw [h i ht]; rfl
theorem imgU_succ {r : List W64} {s : W64} {k : Nat} : imgU r s (k + 1) = if s.getLsbD k = true then imgU r s k ||| r.getD k 0#64 else imgU r s k := rfl
/-- row k, worlds before j are done -/
structure RowR (va vb : List W64) (ra rb : List (List W64)) (na nb : Nat) (z0 : List W64) (k j : Nat) (z : List W64) (ch : Bool) : Prop where
  turn : TurnZ va vb ra rb na nb z0 z ch k
  done : ch = false → ∀ w, w < j → Rl z k w → matB va vb ra rb z k w = true
section
variable {va vb : List W64} {ra rb : List (List W64)} {na nb k j : Nat} {z0 z : List W64} {ch : Bool}
theorem RowR.start (h : TurnZ va vb ra rb na nb z0 z ch k) : RowR va vb ra rb na nb z0 k 0 z ch := ⟨h, fun _ _w hw => absurd hw (Nat.not_lt_zero _)⟩
theorem RowR.keep (h : RowR va vb ra rb na nb z0 k j z ch) (hm : Rl z k j → matB va vb ra rb z k j = true) : RowR va vb ra rb na nb z0 k (j + 1) z ch :=
  ⟨h.turn, fun e w hw hr => by
    rcases Nat.lt_succ_iff_lt_or_eq.1 hw with hw | rfl
    · exact h.done e w hw hr
    · exact hm hr⟩
theorem RowR.del (h : RowR va vb ra rb na nb z0 k j z ch) (hr : Rl z k j) (hm : matB va vb ra rb z k j = false) : RowR va vb ra rb na nb z0 k (j + 1) (delZ z k j) true := by
  have hj := bit_lt hr
  have hlt := sumZ_del hr
  have hle := h.turn.le
  exact ⟨⟨h.turn.inv.del hj hm, by omega, fun _ => by omega, (fun e => by cases e)⟩, (fun e => by cases e)⟩
theorem RowR.end (h : RowR va vb ra rb na nb z0 k j z ch) (hj : nb ≤ j) : TurnZ va vb ra rb na nb z0 z ch (k + 1) :=
  ⟨h.turn.inv, h.turn.le, h.turn.chg, fun e v w hv hw => by
    rcases Nat.lt_succ_iff_lt_or_eq.1 hv with hv | rfl
    · exact h.turn.same e v w hv hw
    · exact h.done e w (by have := h.turn.inv.rng _ _ hw; omega) hw⟩
end
theorem delZ_sub {z : List W64} {v w : Nat} (h : Rl z v w) : z.set v (z.getD v 0#64 - 1#64 <<< w) = delZ z v w := by
  unfold delZ; rw [sub_bit h]
end Go.Proofs.Wit
namespace Go.Proofs.Wit
/-! the examples of chapter 19 -/
abbrev exV : List W64 := [4#64]
abbrev exM : List (List W64) := [[2#64, 4#64, 4#64]]
abbrev exN : List (List W64) := [[1#64, 1#64, 4#64]]
theorem ex_chkM : checkM 3 exV exM = 0 := by decide +kernel
theorem ex_chkN : checkM 3 exV exN = 0 := by decide +kernel
theorem ex_r0 : rnds 3 exV exM 0 = [0, 0, 2] ∧ rndsE 3 exV exM 0 = 0 := by decide +kernel
theorem ex_r1 : rnds 3 exV exM 1 = [0, 1, 2] ∧ rndsE 3 exV exM 1 = 0 := by decide +kernel
theorem ex_d : dpt 3 exV exM = 1 := by decide +kernel
theorem ex_c : crs 3 exV exN = [0, 0, 2] := by decide +kernel
theorem ex_k : dpt 3 exV exN = 0 := by decide +kernel
theorem ex_e : bisE 3 exV exN 3 exV exN 0 1 = 0 := by decide +kernel
theorem ex_n : chkE 3 exV exN 3 exV exN [3#64, 3#64, 4#64] = 0 := by decide +kernel
theorem ex_m : chkE 3 exV exM 3 exV exM [3#64, 3#64, 4#64] = 13 := by decide +kernel
theorem ex_fm : ∀ v : Fin 3, ∀ w : Fin 3, fm exV v.val = fm exV w.val → ([3#64, 3#64, 4#64].getD v.val 0#64).getLsbD w.val = true := by decide +kernel
theorem ex_grt : BetZ 3 exV exN 3 exV exN [3#64, 3#64, 4#64] := by
  obtain ⟨h1, h2, h3, h4⟩ := chkE_zero.1 ex_n
  refine ⟨fun e => absurd h1 e, fun _ => ⟨⟨rfl, (outB_rng (by decide)).1 h3, fun z' e1 e2 e3 v w hr => ?_⟩, h4⟩⟩
  have hv : v < 3 := by have := hr.dom; rw [e1] at this; exact this
  exact ex_fm ⟨v, hv⟩ ⟨w, e2 v w hr⟩ (matB_iff.1 (e3 v w hr)).1
theorem ex_y {y : Bool} (h : BisY 3 exV exN 3 exV exN 0 1 y) : y = true := by rw [h.2 ex_e _ ex_grt]; decide
end Go.Proofs.Wit
