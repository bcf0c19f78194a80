/- Laws of walks, for any program, under the conditions that each theorem states. -/
import Derived.Test.YtcljmlnnfdaljaaDoorF08
import Derived.Test.YtcljmlnnfdaljaaDoorF06
import Derived.MapKept
namespace Go.Proofs.Wit
open Go Go.RowKit
/-! witnesses against a property, plainly -/
def firstTo {α : Type} (f : Nat → Option α) : Nat → Option α
  | 0 => none
  | k + 1 => match firstTo f k with
    | some x => some x
    | none => f k
theorem firstTo_step {α : Type} {f : Nat → Option α} {k : Nat} (h : firstTo f k = none) (h2 : f k = none) : firstTo f (k + 1) = none := by rw [firstTo, h]; exact h2
theorem firstTo_hit {α : Type} {f : Nat → Option α} {k : Nat} {x : α} (h : firstTo f k = none) (h2 : f k = some x) : ∀ n, k < n → firstTo f n = some x
  | n + 1, hn => by
    rcases Nat.lt_succ_iff_lt_or_eq.1 hn with h3 | rfl
    · rw [firstTo, firstTo_hit h h2 n h3]
    · rw [firstTo, h]; exact h2
theorem firstTo_none {α : Type} {f : Nat → Option α} : ∀ {n : Nat}, firstTo f n = none ↔ ∀ k, k < n → f k = none
  | 0 => by simp [firstTo]
  | n + 1 => by
    constructor
    · intro h
      cases hn : firstTo f n with
      | some x => rw [firstTo, hn] at h; cases h
      | none =>
        rw [firstTo, hn] at h
        intro k hk
        rcases Nat.lt_succ_iff_lt_or_eq.1 hk with h3 | rfl
        · exact firstTo_none.1 hn k h3
        · exact h
    · intro h
      rw [firstTo, firstTo_none.2 (fun k hk => h k (by omega))]
      exact h n (by omega)
theorem firstTo_some {α : Type} {f : Nat → Option α} {x : α} : ∀ {n : Nat}, firstTo f n = some x → ∃ k, k < n ∧ f k = some x ∧ ∀ j, j < k → f j = none
  | n + 1, h => by
    cases hn : firstTo f n with
    | some y =>
      rw [firstTo, hn] at h
      simp only [Option.some.injEq] at h; subst h
      obtain ⟨k, h1, h2⟩ := firstTo_some hn
      exact ⟨k, by omega, h2⟩
    | none =>
      rw [firstTo, hn] at h
      exact ⟨n, by omega, h, firstTo_none.1 hn⟩
theorem shr_bit {x : W64} {i : Nat} : ((x >>> i &&& 1#64) == 1#64) = x.getLsbD i := by
  have h : (x >>> i &&& 1#64) = if x.getLsbD i = true then 1#64 else 0#64 := by
    refine eq_of_bits (fun j hj => ?_)
    rw [BitVec.getLsbD_and, BitVec.getLsbD_ushiftRight]
    cases j with
    | zero => rw [Nat.add_zero]; cases hb : x.getLsbD i <;> simp
    | succ j => cases hb : x.getLsbD i <;> simp
  rw [h]
  cases x.getLsbD i <;> rfl
/-! slices of structs -/
theorem flat_get {α : Type} {enc : α → List Value} {sz : Nat} (hsz : ∀ x, (enc x).length = sz) : ∀ {xs : List α} {j i : Nat} (hj : j < xs.length), i < sz → (xs.flatMap enc)[j * sz + i]? = (enc xs[j])[i]?
  | [], j, i, hj, _ => by simp at hj
  | x :: xs, 0, i, _, hi => by
    rw [List.flatMap_cons, Nat.zero_mul, Nat.zero_add, List.getElem?_append_left (by rw [hsz]; exact hi)]; rfl
  | x :: xs, j + 1, i, hj, hi => by
    rw [List.flatMap_cons, List.getElem?_append_right (by rw [hsz, Nat.add_mul]; omega), hsz]
    rw [show (j + 1) * sz + i - sz = j * sz + i from by rw [Nat.add_mul]; omega]
    exact flat_get hsz (by simpa using hj) hi
theorem flat_len {α : Type} {enc : α → List Value} {sz : Nat} (hsz : ∀ x, (enc x).length = sz) : ∀ {xs : List α}, (xs.flatMap enc).length = xs.length * sz
  | [] => by simp
  | x :: xs => by rw [List.flatMap_cons, List.length_append, hsz, flat_len hsz, List.length_cons, Nat.add_mul]; omega
section
variable {P : Program} {r : Option Nat} {f : FuncId} {R : Value → World → Prop} {w0 : World} {S : List Nat} {Y : List (Nat × Obj)} {n : Nat} {k : List Item} {l : Fl} {h : Hl}
variable {ops : Array Oper} {i d : Nat} {rest : List Nat} {ty : TypeId} {pos : String} {aft : Array Edge} {g : Option (Nat × Bool)}
/-- the address of an element of many cells of a slice that is read -/
theorem Vop.idxN {t e : TypeId} {x y : Operand} {a : Option Addr} {m cap sz : Nat} {kd : IntKind} {j : Int} {xs : List Value} (ho : ops[i]? = some ⟨some d, .indexAddr t x y, ty, pos, aft, g⟩) (hw : wantL ops l g = true)
    (hx : opd l x = some (.slice a m cap)) (hy : opd l y = some (.int kd j)) (hd : Nat.blt d n = true) (hu : P.underlying t = some (.slice e)) (he : ∀ w, (sizeOf e).run P w = .ok sz w)
    (hs : ∃ w, Sl w a xs) (hm : xs.length = m * sz) (hsz : 0 < sz) (j' : Nat) (hj : j = j' ∧ j' < m) : Vop P w0 S n h ops i l d (.pointer (some (adr a (j' * sz)))) := by
  obtain ⟨w1, hs⟩ := hs
  obtain ⟨rfl, hj⟩ := hj
  have h0 : 0 < xs.length := by rw [hm]; exact Nat.mul_pos (by omega) hsz
  obtain ⟨b, o, rfl, _⟩ := hs.isSome h0
  exact .of ho hw rfl rfl hd (fun t' w Ds _ hF hS => ⟨.value (.pointer (some ⟨b, o + j' * sz, none⟩)), by
    simp only [execOp, hF.opd hx, hF.opd hy, Sem.run_bind, idxS_run hu he b o m cap kd j' hj w]; rfl, rfl⟩)
theorem Sl.many {α : Type} {enc : α → List Value} {sz : Nat} {w : World} {a : Option Addr} {xs : List α} (hs : Sl w a (xs.flatMap enc)) (hsz : ∀ x, (enc x).length = sz) {j : Nat} (hj : j < xs.length) : ∀ q v, (enc xs[j])[q]? = some v → w.cell? ((adr a (j * sz)).add q) = some v := by
  intro q v hv
  have hq : q < sz := by have := (List.getElem?_eq_some_iff.1 hv).1; rwa [hsz] at this
  have h1 := flat_get hsz hj hq
  rw [hv] at h1
  obtain ⟨h2, h3⟩ := List.getElem?_eq_some_iff.1 h1
  rw [adr_adr, hs.cell _ h2, List.getD_eq_getElem?_getD, h1]; rfl
theorem Sl.fld {α : Type} {enc : α → List Value} {sz : Nat} {w : World} {a : Option Addr} {xs : List α} (hs : Sl w a (xs.flatMap enc)) (hsz : ∀ x, (enc x).length = sz) {j : Nat} (hj : j < xs.length) {q : Nat} {v : Value} (hv : (enc xs[j])[q]? = some v) : w.cell? (adr a (j * sz + q)) = some v := by
  have := Sl.many hs hsz hj q v hv
  rwa [adr_adr] at this
/-- the address of a field of an element -/
theorem Vop.fldA {s : TypeId} {x : Operand} {a : Option Addr} {o q : Nat} {fs : Array Field} {fd : Field} {sz : Nat} (ho : ops[i]? = some ⟨some d, .fieldAddr s x q, ty, pos, aft, g⟩) (hw : wantL ops l g = true)
    (hx : opd l x = some (.pointer (some (adr a o)))) (hd : Nat.blt d n = true) (hu : P.underlying s = some (.struct fs)) (hq : fs[q]? = some fd) (he : ∀ w, (sizeOf fd.type).run P w = .ok (sz + 1) w) (o' : Nat) (hO : o + fd.offset = o') :
    Vop P w0 S n h ops i l d (.pointer (some (adr a o'))) := by
  subst hO
  exact .of ho hw rfl rfl hd (fun t w Ds _ hF hS => ⟨.value (.pointer (some (adr a (o + fd.offset)))), by
    simp only [execOp, hF.opd hx, Instr.fieldAt, Sem.run_bind, run_underlying hu, Result.andThen_ok, hq, Instr.sureAddr, Sem.run_pure, fieldPlace, he]
    rw [if_neg (by omega)]
    simp [adr_adr], rfl⟩)
end
end Go.Proofs.Wit
namespace Go.Proofs.Wit
open Go Go.RowKit
/-- a defect: agent, property, where its worlds lie, and these -/
structure DV where
  agent : Int
  prop : Int
  a : Option Addr
  cap : Nat
  ws : List Int
def DV.cells (d : DV) : List Value := [.int .i64 d.agent, .int .i64 d.prop, .slice d.a d.ws.length d.cap]
def DV.plain (d : DV) : Int × Int × List Int := (d.agent, d.prop, d.ws)
structure DV.At (d : DV) (w : World) : Prop where
  at_ : SlI w d.a d.ws
  len : d.ws.length ≤ maxLen
theorem DV.At.ex0 {w0 w : World} {d : DV} (h : d.At w0) (e : Ex [] w0 w) : d.At w := ⟨h.at_.ex0 e, h.len⟩
structure DefsAt (w : World) (a : Option Addr) (ds : List DV) : Prop where
  at_ : Sl w a (ds.flatMap DV.cells)
  len : ds.length ≤ maxLen
  each : ∀ d ∈ ds, d.At w
theorem DefsAt.ex0 {w0 w : World} {a : Option Addr} {ds : List DV} (h : DefsAt w0 a ds) (e : Ex [] w0 w) : DefsAt w a ds := ⟨h.at_.ex0 e, h.len, fun d hd => (h.each d hd).ex0 e⟩
end Go.Proofs.Wit
namespace Go.Proofs.Wit
open Go Go.RowKit
/-- a list of defects that lies in the blocks of H -/
structure DefsIn (H : Hl) (a : Option Addr) (ds : List DV) : Prop where
  at_ : ds = [] ∨ ∃ b e sp, a = some ⟨b, 0, none⟩ ∧ (some b, Obj.cells (ds.flatMap DV.cells ++ sp).toArray e (0, 0)) ∈ H
  len : ds.length ≤ maxLen
  each : ∀ d ∈ ds, InS I64 H d.a d.ws ∧ d.ws.length ≤ maxLen
theorem DefsIn.mono {H H' : Hl} {a : Option Addr} {ds : List DV} (h : DefsIn H a ds) (hs : H ⊆ H') : DefsIn H' a ds :=
  ⟨h.at_.imp id (fun ⟨b, e, sp, h1, h2⟩ => ⟨b, e, sp, h1, hs h2⟩), h.len, fun d hd => ⟨(h.each d hd).1.mono hs, (h.each d hd).2⟩⟩
theorem DefsIn.at {a : Option Addr} {ds : List DV} {w0 w : World} {S : List Nat} {h : Hl} {Y : List (Nat × Obj)} (g : DefsIn h a ds) (s : St w0 S w h Y) : DefsAt w a ds := by
  refine ⟨?_, g.len, fun d hd => ⟨(g.each d hd).1.sl s, (g.each d hd).2⟩⟩
  rcases g.at_ with rfl | ⟨b, e, sp, rfl, hm⟩
  · exact Sl.nil _ _
  · exact Sl.blk (s.own _ hm b rfl).1
end Go.Proofs.Wit
namespace Go.Proofs.Wit
open Go Go.RowKit
/-! maps -/
section
variable {κ ν : Type}
/-- the entries of a map that nothing was ever taken out of -/
def ents (ek : κ → Value) (ev : ν → Value) : List (κ × ν) → Nat → List MapEntry
  | [], _ => []
  | p :: L, i => ⟨ek p.1, ev p.2, i⟩ :: ents ek ev L (i + 1)
abbrev mobj (ek : κ → Value) (ev : ν → Value) (L : List (κ × ν)) : Obj := .map (ents ek ev L 0).toArray L.length
def mget (q : κ → κ → Bool) : List (κ × ν) → κ → Option ν
  | [], _ => none
  | p :: L, k => if q k p.1 = true then some p.2 else mget q L k
variable {ek : κ → Value} {ev : ν → Value} {q : κ → κ → Bool}
theorem ents_length : ∀ {L : List (κ × ν)} {i : Nat}, (ents ek ev L i).length = L.length
  | [], _ => rfl
  | p :: L, i => by rw [ents, List.length_cons, ents_length, List.length_cons]
theorem ents_append : ∀ {L : List (κ × ν)} {k : κ} {v : ν} {i : Nat}, ents ek ev (L ++ [(k, v)]) i = ents ek ev L i ++ [⟨ek k, ev v, i + L.length⟩]
  | [], k, v, i => rfl
  | p :: L, k, v, i => by rw [List.cons_append, ents, ents_append, ents, List.cons_append, List.length_cons, Nat.add_assoc, Nat.add_comm 1]
/-- a key is found by the first entry whose key is equal -/
def found (q : κ → κ → Bool) (ev : ν → Value) : List (κ × ν) → κ → Nat → Option (Nat × Value)
  | [], _, _ => none
  | p :: L, k, i => if q k p.1 = true then some (i, ev p.2) else found q ev L k (i + 1)
theorem found_mget : ∀ {L : List (κ × ν)} {k : κ} {i : Nat}, (found q ev L k i).map (·.2) = (mget q L k).map ev
  | [], _, _ => rfl
  | p :: L, k, i => by
    rw [found, mget]
    split
    · rfl
    · exact found_mget
theorem findNow_eq {kd : TypeDesc} (hs : ∀ a b : κ, Instr.sameNow kd (ek a) (ek b) = some (q a b)) : ∀ {L : List (κ × ν)} {k : κ} {i j : Nat}, Instr.findNow kd (ek k) (ents ek ev L j) i = some (found q ev L k i)
  | [], _, _, _ => rfl
  | p :: L, k, i, j => by
    rw [ents, Instr.findNow, hs, found]
    cases q k p.1 with
    | true => rfl
    | false => exact findNow_eq hs
theorem findAsk_eq {P : Program} {kt : TypeId} {w : World} (hs : ∀ a b : κ, (Op.equal kt (ek a) (ek b)).run P w = .ok (q a b) w) : ∀ {L : List (κ × ν)} {k : κ} {i j : Nat}, (Instr.findAsking kt (ek k) (ents ek ev L j) i).run P w = .ok (found q ev L k i) w
  | [], _, _, _ => rfl
  | p :: L, k, i, j => by
    rw [ents, Instr.findAsking, found]
    simp only [Sem.run_bind, hs, Result.andThen_ok]
    cases q k p.1 with
    | true => rfl
    | false => exact findAsk_eq hs
/-- what makes the keys of a map's type work -/
structure KeyOk (P : Program) (kt : TypeId) (ek : κ → Value) (q : κ → κ → Bool) : Prop where
  chk : ∀ (e : Bool) (a : κ) (w : World), (Instr.checkKey e 10000 kt (ek a)).run P w = .ok () w
  find : ∀ {ν : Type} (ev : ν → Value) (L : List (κ × ν)) (k : κ) (w : World), (Instr.findKey kt (ek k) (ents ek ev L 0)).run P w = .ok (found q ev L k 0) w
theorem KeyOk.now {P : Program} {kt : TypeId} {kd : TypeDesc} (hu : P.underlying kt = some kd) (hc : ∀ (e : Bool) (a : κ) (w : World), (Instr.checkKey e 10000 kt (ek a)).run P w = .ok () w) (hs : ∀ a b : κ, Instr.sameNow kd (ek a) (ek b) = some (q a b)) : KeyOk P kt ek q :=
  ⟨hc, fun ev L k w => by
    simp only [Instr.findKey, Sem.run_bind, run_underlying hu, Result.andThen_ok, findNow_eq hs]; rfl⟩
theorem KeyOk.int {P : Program} {kt : TypeId} {kd : IntKind} (hu : P.underlying kt = some (.int kd)) : KeyOk P kt (Value.int kd) (fun a b => a == b) :=
  .now hu (fun e a w => Go.MapKept.run_checkKey hu (by simp [Go.MapKept.IsKey]) e 9999) (fun a b => by simp [Instr.sameNow])
/-- an array's literal -/
theorem bldA {P : Program} {t et : TypeId} {n s : Nat} {z : Value} {ps : List (Nat × Value)} {c : List Value} (hu : P.underlying t = some (.array n et)) (hs : ∀ w, (sizeOf et).run P w = .ok s w) (hz : ∀ w, (zeroValue t).run P w = .ok z w)
    (hf : fillL (fun i => some (i * s, s)) z.cells.toList ps = some c) : Bld P t ps (.agg c.toArray) := by
  intro w
  have h1 := fill_eq hf
  rw [Array.toArray_toList] at h1
  simp only [Instr.build, Sem.run_bind, hz, Result.andThen_ok, run_underlying hu, hs]
  rw [h1]; rfl
theorem part1 {P : Program} {et : TypeId} (ha : ∀ w, (isAgg et).run P w = .ok false w) {cs : Array Value} {j : Nat} {v : Value} (hv : cs[j]? = some v) (w : World) : (part et cs j).run P w = .ok v w := by
  simp only [part, Sem.run_bind, ha, Result.andThen_ok, hv]; rfl
theorem range2 : List.range' 0 2 = [0, 1] := rfl
theorem chk2 {P : Program} {kt et : TypeId} {kd : IntKind} (hu : P.underlying kt = some (.array 2 et)) (he : P.underlying et = some (.int kd)) (hs : ∀ w, (sizeOf et).run P w = .ok 1 w) (ha : ∀ w, (isAgg et).run P w = .ok false w) (e : Bool) (m : Nat) (a b : Int) (w : World) :
    (Instr.checkKey e (m + 2) kt (.agg #[.int kd a, .int kd b])).run P w = .ok () w := by
  rw [show m + 2 = (m + 1) + 1 from rfl, Instr.checkKey]
  simp only [Sem.run_bind, run_underlying hu, Result.andThen_ok, Std.Legacy.Range.forIn_eq_forIn_range', Std.Legacy.Range.size, Nat.sub_zero, Nat.add_one_sub_one, Nat.div_one, range2, List.forIn_cons, List.forIn_nil, hs, Nat.zero_mul, Nat.one_mul,
    part1 ha (cs := #[.int kd a, .int kd b]) (j := 0) (v := .int kd a) rfl, part1 ha (cs := #[.int kd a, .int kd b]) (j := 1) (v := .int kd b) rfl, Go.MapKept.run_checkKey he (k := .int kd a) rfl, Go.MapKept.run_checkKey he (k := .int kd b) rfl, Sem.run_pure]
theorem eqIn_int {P : Program} {t : TypeId} {kd : IntKind} (dd : Nat) {p q : Int} (hu : P.underlying t = some (.int kd)) (w : World) : (Op.equalIn (dd + 1) t (.int kd p) (.int kd q)).run P w = .ok (p == q) w := by
  simp only [Op.equalIn, Sem.run_bind, run_underlying hu, Result.andThen_ok]; simp
theorem eqIn2 {P : Program} {kt et : TypeId} {kd : IntKind} (hu : P.underlying kt = some (.array 2 et)) (he : P.underlying et = some (.int kd)) (hs : ∀ w, (sizeOf et).run P w = .ok 1 w) (ha : ∀ w, (isAgg et).run P w = .ok false w) (m : Nat) (a b c d : Int) (w : World) :
    (Op.equalIn (m + 2) kt (.agg #[.int kd a, .int kd b]) (.agg #[.int kd c, .int kd d])).run P w = .ok (a == c && b == d) w := by
  rw [show m + 2 = (m + 1) + 1 from rfl, Op.equalIn]
  simp only [Sem.run_bind, run_underlying hu, Result.andThen_ok, Std.Legacy.Range.forIn_eq_forIn_range', Std.Legacy.Range.size, Nat.sub_zero, Nat.add_one_sub_one, Nat.div_one, range2, List.forIn_cons, List.forIn_nil, hs, Nat.zero_mul, Nat.one_mul,
    part1 ha (cs := #[.int kd a, .int kd b]) (j := 0) (v := .int kd a) rfl, part1 ha (cs := #[.int kd c, .int kd d]) (j := 0) (v := .int kd c) rfl, eqIn_int m he]
  have p1 := part1 ha (cs := #[.int kd a, .int kd b]) (j := 1) (v := .int kd b) rfl w
  have p2 := part1 ha (cs := #[.int kd c, .int kd d]) (j := 1) (v := .int kd d) rfl w
  have p3 := eqIn_int (P := P) m (p := b) (q := d) he w
  cases h1 : a == c <;> cases h2 : b == d <;> simp [p1, p2, p3, h2]
/-- two ints as an array -/
def arr2 (p : Int × Int) : Value := .agg #[I64 p.1, I64 p.2]
theorem KeyOk.arr2 {P : Program} {kt et : TypeId} (hu : P.underlying kt = some (.array 2 et)) (he : P.underlying et = some (.int .i64)) (hs : ∀ w, (sizeOf et).run P w = .ok 1 w) (ha : ∀ w, (isAgg et).run P w = .ok false w) : KeyOk P kt Wit.arr2 (fun a b => a.1 == b.1 && a.2 == b.2) := by
  refine ⟨fun e a w => chk2 hu he hs ha e 9998 a.1 a.2 w, fun ev L k w => ?_⟩
  have hq : ∀ a b : Int × Int, (Op.equal kt (Wit.arr2 a) (Wit.arr2 b)).run P w = .ok (a.1 == b.1 && a.2 == b.2) w := fun a b => eqIn2 hu he hs ha 9998 a.1 a.2 b.1 b.2 w
  simp only [Instr.findKey, Sem.run_bind, run_underlying hu, Result.andThen_ok]
  cases L with
  | nil => rfl
  | cons p L =>
    have h0 : Instr.findNow (.array 2 et) (Wit.arr2 k) (ents Wit.arr2 ev (p :: L) 0) 0 = none := rfl
    rw [h0]
    exact findAsk_eq (q := fun a b : Int × Int => a.1 == b.1 && a.2 == b.2) hq
end
section
variable {P : Program} {r : Option Nat} {f : FuncId} {R : Value → World → Prop} {w0 : World} {S : List Nat} {Y : List (Nat × Obj)} {n : Nat} {k : List Item} {l : Fl} {h : Hl}
variable {ops : Array Oper} {i d : Nat} {rest : List Nat} {ty : TypeId} {pos : String} {aft : Array Edge} {g : Option (Nat × Bool)}
variable {κ ν : Type} {ek : κ → Value} {ev : ν → Value} {q : κ → κ → Bool}
/-- map[K]V{} -/
theorem GoH.mkMap (ek : κ → Value) (ev : ν → Value) {t : TypeId} (ho : ops[i]? = some ⟨some d, .makeMap t none, ty, pos, aft, g⟩) (hw : wantL ops l g = true) (hd : Nat.blt d n = true)
    (hk : ∀ b, GoH P r f R w0 S Y n (.inRegion ops rest :: k) ((d, .map (some b)) :: l) ((some b, mobj ek ev []) :: h)) : GoH P r f R w0 S Y n (.inRegion ops (i :: rest) :: k) l h :=
  .mem ho hw rfl rfl hd (fun t' w Ds _ hF hS => ⟨.map (some w.heap.size), w.alloc (.map #[] 0), _, by
    simp [execOp, Instr.makeMap], hS.alloc rfl, hk _⟩)
/-- v, ok := m[x] -/
theorem Vop.lkup {t kt el : TypeId} (hK : KeyOk P kt ek q) {z : Value} {x ix : Operand} {b : Nat} {a : κ} {L : List (κ × ν)} (ho : ops[i]? = some ⟨some d, .lookup t x ix true, ty, pos, aft, g⟩) (hw : wantL ops l g = true)
    (hx : opd l x = some (.map (some b))) (hy : opd l ix = some (ek a)) (hd : Nat.blt d n = true) (hu : P.underlying t = some (.map kt el)) (hz : ∀ w, (zeroValue el).run P w = .ok z w) (j : Nat) (hj : h[j]? = some (some b, mobj ek ev L)) :
    Vop P w0 S n h ops i l d (.tuple #[((mget q L a).map ev).getD z, .bool (mget q L a).isSome]) :=
  .of ho hw rfl rfl hd (fun t' w Ds _ hF hS => ⟨.value (.tuple #[((mget q L a).map ev).getD z, .bool (mget q L a).isSome]), by
    have hg : (getObj b).run P w = .ok (mobj ek ev L) w := by simp [getObj, Sem.run, hS.get hj]
    have hf := hK.find ev L a w
    have e1 : (found q ev L a 0).map (·.2) = (mget q L a).map ev := found_mget
    simp only [execOp, hF.opd hx, hF.opd hy, Sem.run_bind, Instr.lookup, run_underlying hu, Result.andThen_ok, hg, hK.chk, Sem.run_pure, hf]
    cases hfo : found q ev L a 0 with
    | none =>
      rw [hfo] at e1
      cases ha : mget q L a with
      | none => simp [hz]
      | some v => rw [ha] at e1; cases e1
    | some y =>
      rw [hfo] at e1
      cases ha : mget q L a with
      | none => rw [ha] at e1; cases e1
      | some v => rw [ha] at e1; simp at e1 ⊢; exact e1, rfl⟩)
/-- m[x], x being in m -/
theorem Vop.lkup1 {t kt el : TypeId} (hK : KeyOk P kt ek q) {x ix : Operand} {b : Nat} {a : κ} {v : ν} {L : List (κ × ν)} (ho : ops[i]? = some ⟨some d, .lookup t x ix false, ty, pos, aft, g⟩) (hw : wantL ops l g = true)
    (hx : opd l x = some (.map (some b))) (hy : opd l ix = some (ek a)) (hd : Nat.blt d n = true) (hu : P.underlying t = some (.map kt el)) (j : Nat) (hj : h[j]? = some (some b, mobj ek ev L)) (hv : mget q L a = some v) :
    Vop P w0 S n h ops i l d (ev v) :=
  .of ho hw rfl rfl hd (fun t' w Ds _ hF hS => ⟨.value (ev v), by
    have hg : (getObj b).run P w = .ok (mobj ek ev L) w := by simp [getObj, Sem.run, hS.get hj]
    have hf := hK.find ev L a w
    have e1 : (found q ev L a 0).map (·.2) = (mget q L a).map ev := found_mget
    rw [hv] at e1
    simp only [execOp, hF.opd hx, hF.opd hy, Sem.run_bind, Instr.lookup, run_underlying hu, Result.andThen_ok, hg, hK.chk, Sem.run_pure, hf]
    cases hfo : found q ev L a 0 with
    | none => rw [hfo] at e1; cases e1
    | some y => rw [hfo] at e1; simp at e1 ⊢; exact e1, rfl⟩)
/-- len(m) -/
theorem Vop.lenM {t kt el : TypeId} {x : Operand} {b : Nat} {L : List (κ × ν)} (ho : ops[i]? = some ⟨some d, .call ⟨.builtin .len, #[x], #[t]⟩, ty, pos, aft, g⟩) (hw : wantL ops l g = true)
    (hx : opd l x = some (.map (some b))) (hd : Nat.blt d n = true) (hu : P.underlying t = some (.map kt el)) (j : Nat) (hj : h[j]? = some (some b, mobj ek ev L)) : Vop P w0 S n h ops i l d (.int .i64 (L.length : Int)) :=
  .of ho hw rfl rfl hd (fun t' w Ds _ hF hS => ⟨.value (.int .i64 (L.length : Int)), by
    have hg : (getObj b).run P w = .ok (mobj ek ev L) w := by simp [getObj, Sem.run, hS.get hj]
    have e1 : (#[x] : Array Operand).map (Act.eval ⟨t', Ds.map mark⟩) = #[.map (some b)] := by simp [hF.opd hx]
    simp only [execOp, resolve, e1, Sem.run_bind, Sem.run_pure, Result.andThen_ok, invoke, builtin, Builtin.len_]
    simp [run_underlying hu, hg, goInt, ents_length], rfl⟩)
theorem found_none : ∀ {L : List (κ × ν)} {a : κ} {i : Nat}, mget q L a = none → found q ev L a i = none
  | [], _, _, _ => rfl
  | p :: L, a, i, h => by
    rw [mget] at h
    rw [found]
    split at h
    · cases h
    · rename_i hq; rw [if_neg hq]; exact found_none h
theorem mapUpd_run {t kt el : TypeId} (hK : KeyOk P kt ek q) {b : Nat} {a : κ} {v : ν} {L : List (κ × ν)} {w : World} (hu : P.underlying t = some (.map kt el)) (hb : w.heap[b]? = some (mobj ek ev L)) (ha : mget q L a = none) :
    (Instr.mapUpdate t (.map (some b)) (ek a) (ev v)).run P w = .ok () { w with heap := w.heap.setIfInBounds b (mobj ek ev (L ++ [(a, v)])) } := by
  have hg : (getObj b).run P w = .ok (mobj ek ev L) w := by simp [getObj, Sem.run, hb]
  have hf := hK.find ev L a w
  rw [found_none ha] at hf
  simp only [Instr.mapUpdate, Sem.run_bind, run_underlying hu, Result.andThen_ok, hg, hK.chk, hf]
  have e1 : ((ents ek ev L 0).toArray.push ⟨ek a, ev v, L.length⟩) = (ents ek ev (L ++ [(a, v)]) 0).toArray := by rw [ents_append]; simp
  rw [e1]
  simp [setObj, Sem.run, hb, mobj]
/-- m[x] = v, x not being in m before -/
theorem GoH.mapIns {t kt el : TypeId} (hK : KeyOk P kt ek q) {m x y : Operand} {b : Nat} {a : κ} {v : ν} {L : List (κ × ν)} {o : Oper} (ho : ops[i]? = some o) (hop : o.op = .mapUpdate t m x y ∨ o.op = .insert t m x y) (hdst : o.dst = none) (hw : wantL ops l o.guard = true)
    (hm : opd l m = some (.map (some b))) (hx : opd l x = some (ek a)) (hy : opd l y = some (ev v)) (hu : P.underlying t = some (.map kt el)) (j : Nat) (hj : h[j]? = some (some b, mobj ek ev L)) (ha : mget q L a = none)
    (hk : GoH P r f R w0 S Y n (.inRegion ops rest :: k) l (h.set j (some b, mobj ek ev (L ++ [(a, v)])))) : GoH P r f R w0 S Y n (.inRegion ops (i :: rest) :: k) l h :=
  .eff ho hw hdst (by rcases hop with e | e <;> rw [e] <;> rfl) (fun t' w Ds _ hF hS => by
    have hb := hS.get hj
    refine ⟨{ w with heap := w.heap.setIfInBounds b (mobj ek ev (L ++ [(a, v)])) }, _, ?_, hS.turn hj (o' := mobj ek ev (L ++ [(a, v)])) rfl rfl rfl rfl (by simp) ?_ ?_, hk⟩
    · have hrun := mapUpd_run hK (v := v) hu hb ha
      unfold execOp
      rcases hop with e | e <;> rw [e] <;> simp only [hF.opd hm, hF.opd hx, hF.opd hy, Sem.run_bind, hrun] <;> rfl
    · have hlt := hS.lt hj
      simp [hlt]
    · intro q _ hq
      simp [Ne.symm hq])
end
end Go.Proofs.Wit
namespace Go.Proofs.Wit
open Go Go.RowKit
/-! an iterator without an end: it makes a list of ints, hands it out, and goes on till a round says no -/
/-- the blocks that it has handed out, the last one first -/
def Hist (e : TypeId) (pf : Nat → List Int) : List Nat → Hl
  | [] => []
  | b :: t => (some b, ob I64 e (pf t.length) []) :: Hist e pf t
def pV (pf : Nat → List Int) (b : Nat) (t : List Nat) : Value := .slice (some ⟨b, 0, none⟩) (pf t.length).length (pf t.length).length
def IterE (P : Program) (w0 : World) (S : List Nat) (gf : FuncId) (lb : List Value) (e : TypeId) (pf : Nat → List Int) (cap : Hl) : Prop :=
  ∀ (Y : List (Nat × Obj)) (σ : Type) (Hc : σ → Hl) (N : Nat) (I : List Nat → σ → Prop) (X : List Nat → σ → Prop) (Yx : σ → List (Nat × Obj)) (L : Nat),
    (∀ t s, I t s → t.length ≤ N) →
    (∀ (b : Nat) (t : List Nat) (s : σ), I t s → ∀ (hi : Hl) (w : World) (Y1 : List (Nat × Obj)), St w0 S w (hi ++ (Hist e pf (b :: t) ++ Hc s)) (Y1 ++ Y) →
      Rnd P L #[pV pf b t] w (fun v w' => (v = .bool true ∧ ∃ s', I (b :: t) s' ∧ St w0 S w' (hi ++ (Hist e pf (b :: t) ++ Hc s')) (Y1 ++ Y)) ∨ (v = .bool false ∧ ∃ s', X (b :: t) s' ∧ St w0 S w' (hi ++ (Hist e pf (b :: t) ++ Hc s')) (Y1 ++ Yx s')))) →
    ∀ s0 w, I [] s0 → St w0 S w (cap ++ Hc s0) Y →
      Calls P gf ((Value.func (.yield L) #[] #[] :: lb).toArray) w fun e' w' => ∃ v, e' = .returned v ∧ ∃ t s, X t s ∧ St w0 S w' (Hist e pf t ++ Hc s) (Yx s)
section
variable {P : Program} {f : FuncId} {R : Value → World → Prop} {w0 : World} {S : List Nat} {Y : List (Nat × Obj)} {n : Nat} {k k' : List Item} {l l' : Fl} {h h' : Hl}
/-- **for .. := range g { .. }**, outermost -/
theorem GoH.rangeE {g : Operand} {ps : Array Tmp} {assign body : Code} {gf : FuncId} {lb : List Value} {e : TypeId} {pf : Nat → List Int} {cap : Hl} {σ : Type} (Hc : σ → Hl) (N : Nat) (I : List Nat → σ → Prop) (X : Code → List Nat → σ → Prop) (s0 : σ)
    (hg : opd l g = some (.func (.func gf) #[] lb.toArray)) (hcf : ∀ args w, (callFunc gf args).run P w = .ok (.enter gf args) w) (it : IterE P w0 S gf lb e pf cap)
    (hps : ps.size = 1) (hpn : ps.toList.all (fun p => Nat.blt p n) = true) (hN : ∀ t s, I t s → t.length ≤ N) (h0 : I [] s0) (hh : (cap ++ Hc s0).Sublist h)
    (hround : ∀ (L : Nat) (Y' : List (Nat × Obj)) (rec : Loop) (hi : Hl) (b : Nat) (t : List Nat) (s : σ), I t s → rec.state = .ready →
      GoH P (some L) f (RoundR w0 S (fun x : List Nat × σ => Hc x.2 ++ Hist e pf x.1) (fun _ x => x.1 = b :: t ∧ I x.1 x.2) (fun c x => x.1 = b :: t ∧ X c x.1 x.2) L rec Y' hi 0) w0 S ((L, .loop rec) :: Y') n [.code assign, .beginRound, .code body] (bindL ps.toList [pV pf b t] l) (Hc s ++ Hist e pf (b :: t) ++ hi))
    (_hdone : False → False) (hstop : ∀ c t s, X c t s → GoH P none f R w0 S Y n (.code c :: k) l (Hc s ++ Hist e pf t)) :
    GoH P none f R w0 S Y n (.code (.rangeFunc g ps assign body) :: k) l h := by
  intro t w Ds hF hS cs hcs
  -- the two blocks of book-keeping
  obtain ⟨rec, hrec⟩ : ∃ rec : Loop, rec = { state := .ready, pending := none, fn := f, tmps := t, params := ps, assign, body, defers := w.heap.size } := ⟨_, rfl⟩
  have hS1 := (hS.newY (o := .deferred (some [])) rfl).newY (o := .loop rec) rfl
  rw [World.size_alloc] at hS1
  obtain ⟨w2, hw2⟩ : ∃ w2, (w.alloc (.deferred (some []))).alloc (.loop rec) = w2 := ⟨_, rfl⟩
  rw [hw2] at hS1
  have henter : (Instr.enterLoop f t ps assign body none).run P w = .ok (w.heap.size + 1, [mark w.heap.size]) w2 := by
    rw [← hw2, hrec]
    exact run_enterLoop_outer _ _ _ _ _
  have hinv : (invoke (.fn (.func gf) lb.toArray) #[Value.func (.yield (w.heap.size + 1)) #[] #[]]).run P w2 = .ok (.enter gf ((Value.func (.yield (w.heap.size + 1)) #[] #[] :: lb).toArray)) w2 := by
    simp only [invoke, hcf]
    congr 2
    simp
  have hres : (resolve (Act.eval ⟨t, Ds.map mark⟩) (rangeCall g (w.heap.size + 1)) 0).run P w2 = .ok { target := .fn (.func gf) lb.toArray, args := #[Value.func (.yield (w.heap.size + 1)) #[] #[]] } w2 := by
    have e1 := hF.opd hg (Ds.map mark)
    simp only [resolve, e1, Deferred.ofValue]
    simp [Act.eval]
  have hstep := stepR_rangeFunc (P := P) (b := mkF f none #[] [] []) (a := ⟨t, Ds.map mark⟩) (k := k) (cs := cs) (w := w) (ps := ps) (assign := assign) (body := body) (g := g) henter hres hinv
  -- the iterator's contract
  obtain ⟨Yr, hYr⟩ : ∃ Yr, (w.heap.size, (.deferred (some []) : Obj)) :: (mkY Ds ++ Y) = Yr := ⟨_, rfl⟩
  have hcall := it ((w.heap.size + 1, .loop rec) :: Yr) (σ × Option Code) (fun s => Hc s.1) N (fun t s => I t s.1 ∧ s.2 = none) (fun t s => ∃ c, s.2 = some c ∧ X c t s.1)
    (fun s => (w.heap.size + 1, .loop { rec with state := .done, pending := s.2 }) :: Yr) (w.heap.size + 1) (fun t s hs => hN t s.1 hs.1) (by
      rintro b ti ⟨s, c⟩ ⟨hI, hc⟩ hi W Y1 hSt
      simp only at hc hSt
      subst hc
      have hSt1 := (hSt.perm ((List.perm_append_comm).trans (List.perm_append_comm.append_right hi))).permY (List.perm_middle (l₁ := Y1) (a := (w.heap.size + 1, Obj.loop rec)) (l₂ := Yr))
      have hL := (hSt1.sys _ (List.mem_cons_self ..)).2.1
      simp only at hL
      refine ⟨f, (ps.zip [pV pf b ti].toArray).foldl (fun t (p : Tmp × Value) => t.setIfInBounds p.1 p.2) t, assign, body, ?_, fun c cs => ?_⟩
      · simp only [Instr.yield, Instr.getLoop, getObj, Sem.run, hL, bind, Sem.bind, pure]
        rw [hrec]
        simp [hps]
      · have hg1 := hround (w.heap.size + 1) (Y1 ++ Yr) rec hi b ti s hI (by rw [hrec])
        have hfr : Frm n ((ps.zip [pV pf b ti].toArray).foldl (fun t (p : Tmp × Value) => t.setIfInBounds p.1 p.2) t) (bindL ps.toList [pV pf b ti] l) := by
          have := frm_bind (ps := ps.toList) (az := [pV pf b ti]) hF (List.all_eq_true.1 hpn)
          rw [← Array.foldl_toList, Array.toList_zip]; exact this
        obtain ⟨v, w', m, hR, hst, htg⟩ := hg1 _ W [] hfr (by simpa [mkY] using hSt1) (c :: cs) (by simp)
        obtain ⟨c', cs', hcc, rfl⟩ := htg
        cases hcc
        refine ⟨v, w', ?_, hst⟩
        rcases hR with ⟨hv, ⟨t', s'⟩, ⟨ht, hI'⟩, hS'⟩ | ⟨hv, c2, ⟨t', s'⟩, ⟨ht, hX⟩, hS'⟩
        · dsimp only at ht; subst ht
          refine .inl ⟨hv, (s', none), ⟨hI', rfl⟩, ?_⟩
          have e1 : ({ rec with state := .ready, pending := none } : Loop) = rec := by rw [hrec]
          rw [e1] at hS'
          exact (hS'.perm ((List.perm_append_comm.append_right hi).trans List.perm_append_comm)).permY (List.perm_middle (l₁ := Y1) (a := (w.heap.size + 1, Obj.loop rec)) (l₂ := Yr)).symm
        · dsimp only at ht; subst ht
          refine .inr ⟨hv, (s', some c2), ⟨c2, rfl, hX⟩, ?_⟩
          exact (hS'.perm ((List.perm_append_comm.append_right hi).trans List.perm_append_comm)).permY (List.perm_middle (l₁ := Y1) (l₂ := Yr)).symm)
    (s0, none) w2 ⟨h0, rfl⟩ ((hYr ▸ hS1).subH hh)
  obtain ⟨e', w3, fr, ⟨v, rfl, hpost⟩, hcomes, hfn, hleave⟩ := hcall ((mkF f none #[] [] []).atR ⟨t, [mark w.heap.size] ++ Ds.map mark⟩ (.inRangeFunc (w.heap.size + 1) :: k) :: cs)
  have hback := step_leave_returned (c := (mkF f none #[] [] []).atR ⟨t, [mark w.heap.size] ++ Ds.map mark⟩ (.inRangeFunc (w.heap.size + 1) :: k)) (cs := cs) hleave
  rw [finish_atR_inRangeFunc] at hback
  have fin : ∀ (H : Hl) (rc : Loop) (jump : Option Code), rc.state ≠ .busy → rc.pending = jump → St w0 S w3 H ((w.heap.size + 1, .loop rc) :: Yr) →
      (∀ w4, St w0 S w4 H (mkY (w.heap.size :: Ds) ++ Y) → Gos P none f R ((jump.map Item.code).toList ++ k) t ((w.heap.size :: Ds).map mark) w4) →
      ∃ v w' m, R v w' ∧ Steps P (lone (mkF f none t (Ds.map mark) (.code (.rangeFunc g ps assign body) :: k)) cs w) m ∧ Tgt P none f cs v w' m := by
    intro H rc jump hnb hj hS3 hgo
    have hL := (hS3.sys _ (List.mem_cons_self ..)).2.1
    simp only at hL
    have hend : (Instr.endLoop (w.heap.size + 1)).run P w3 = .ok jump { w3 with heap := w3.heap.setIfInBounds (w.heap.size + 1) (.loop { rc with state := .exhausted }) } := by
      simp [Instr.endLoop, Instr.getLoop, getObj, setObj, Sem.run, hL, bind, Sem.bind, pure, hj]
      exact fun hx => absurd hx hnb
    have hS4 := (hS3.turnY (o' := .loop { rc with state := .exhausted }) rfl).subY (List.sublist_cons_self ..)
    obtain ⟨v', w', m, hR, hst, htg⟩ := hgo _ (by rw [← hYr] at hS4; exact hS4) cs hcs
    refine ⟨v', w', m, hR, .head hstep (Steps.trans hcomes (.head hback (.head (stepR_endRangeFunc hend) ?_))), htg⟩
    exact hst
  obtain ⟨t', ⟨s, c⟩, ⟨c', hc, hX⟩, hS3⟩ := hpost
  simp only at hc; subst hc
  exact fin _ _ (some c') (by simp) rfl hS3 (fun w4 hS4 => hstop c' t' s hX t w4 (w.heap.size :: Ds) hF (hS4.perm List.perm_append_comm))
/-- an endless iterator's contract out of its body -/
theorem IterE.of {gf : FuncId} {lb : List Value} {e : TypeId} {pf : Nat → List Int} {cap : Hl} {c : Code} {fn : Func} (hf : P.funcs[gf]? = some fn) (hb : fn.body = some c) (hn : Nat.ble (lb.length + 1) fn.ntmps = true)
    (hgo : ∀ (Y : List (Nat × Obj)) (σ : Type) (Hc : σ → Hl) (N : Nat) (I : List Nat → σ → Prop) (X : List Nat → σ → Prop) (Yx : σ → List (Nat × Obj)) (L : Nat),
      (∀ t s, I t s → t.length ≤ N) →
      (∀ (b : Nat) (t : List Nat) (s : σ), I t s → ∀ (hi : Hl) (w : World) (Y1 : List (Nat × Obj)), St w0 S w (hi ++ (Hist e pf (b :: t) ++ Hc s)) (Y1 ++ Y) →
        Rnd P L #[pV pf b t] w (fun v w' => (v = .bool true ∧ ∃ s', I (b :: t) s' ∧ St w0 S w' (hi ++ (Hist e pf (b :: t) ++ Hc s')) (Y1 ++ Y)) ∨ (v = .bool false ∧ ∃ s', X (b :: t) s' ∧ St w0 S w' (hi ++ (Hist e pf (b :: t) ++ Hc s')) (Y1 ++ Yx s')))) →
      ∀ s0, I [] s0 → GoH P none gf (fun _ w' => ∃ t s, X t s ∧ St w0 S w' (Hist e pf t ++ Hc s) (Yx s)) w0 S Y fn.ntmps [.code c] (parL 0 (Value.func (.yield L) #[] #[] :: lb)) (cap ++ Hc s0)) :
    IterE P w0 S gf lb e pf cap := by
  intro Y σ Hc N I X Yx L hN hy s0 w hI hS cs
  obtain ⟨v, w', m, hR, hst, fr, rfl, hfn, hl⟩ := hgo Y σ Hc N I X Yx L hN hy s0 hI _ w [] (frm_enter (by simpa using Nat.le_of_ble_eq_true hn)) hS cs (by simp)
  refine ⟨.returned v, w', fr, ⟨v, rfl, hR⟩, ?_, hfn, hl⟩
  have henter : Frame.enter P gf (Value.func (.yield L) #[] #[] :: lb).toArray .normal = mkF gf none ((Value.func (.yield L) #[] #[] :: lb).toArray ++ Array.replicate (fn.ntmps - (Value.func (.yield L) #[] #[] :: lb).toArray.size) undef) [] [.code c] := by
    simp [Frame.enter, hf, hb, mkF]
  show Steps P _ _
  rw [henter]; exact hst
end
end Go.Proofs.Wit
namespace Go.Proofs.Wit
/-! partitions as lists of lowest points; the rounds of a refinement -/
section
variable {κ κ' : Type} [DecidableEq κ] [DecidableEq κ']
/-- the first of the first n points that has the key k -/
def ldr (key : Nat → κ) (k : κ) (n : Nat) : Option Nat := firstTo (fun j => if key j = k then some j else none) n
theorem ldr_some {key : Nat → κ} {k : κ} {n j : Nat} (h : ldr key k n = some j) : j < n ∧ key j = k ∧ ∀ i, i < j → key i ≠ k := by
  obtain ⟨q, h1, h2, h3⟩ := firstTo_some h
  split at h2
  · rename_i hk
    cases h2
    refine ⟨h1, hk, fun i hi e => ?_⟩
    have := h3 i hi
    rw [if_pos e] at this; cases this
  · cases h2
theorem ldr_none {key : Nat → κ} {k : κ} {n : Nat} (h : ldr key k n = none) : ∀ i, i < n → key i ≠ k := fun i hi e => by
  have := firstTo_none.1 h i hi
  rw [if_pos e] at this; cases this
theorem ldr_hit {key : Nat → κ} {k : κ} {n : Nat} (h : ldr key k n = none) (hk : key n = k) : ldr key k (n + 1) = some n := firstTo_hit h (by rw [if_pos hk]) _ (Nat.lt_succ_self n)
theorem ldr_keep {key : Nat → κ} {k : κ} {n j : Nat} (h : ldr key k n = some j) : ldr key k (n + 1) = some j := by
  unfold ldr at h ⊢; rw [firstTo, h]
theorem ldr_skip {key : Nat → κ} {k : κ} {n : Nat} (hk : key n ≠ k) : ldr key k (n + 1) = ldr key k n := by
  cases h : ldr key k n with
  | some j => exact ldr_keep h
  | none => exact firstTo_step h (by rw [if_neg hk])
/-- the first point with the key of i -/
def led (key : Nat → κ) (i : Nat) : Nat := (ldr key (key i) (i + 1)).getD 0
theorem led_spec (key : Nat → κ) (i : Nat) : led key i ≤ i ∧ key (led key i) = key i ∧ ∀ j, key j = key i → led key i ≤ j := by
  unfold led
  cases h : ldr key (key i) (i + 1) with
  | none => exact absurd rfl (ldr_none h i (Nat.lt_succ_self i))
  | some j =>
    obtain ⟨h1, h2, h3⟩ := ldr_some h
    refine ⟨Nat.le_of_lt_succ h1, h2, fun q hq => ?_⟩
    rcases Nat.lt_or_ge q j with hlt | hge
    · exact absurd hq (h3 q hlt)
    · exact hge
theorem led_at {key : Nat → κ} {i j : Nat} (h : ldr key (key i) (i + 1) = some j) : led key i = j := by rw [led, h]; rfl
theorem led_old {key : Nat → κ} {i j : Nat} (h : ldr key (key i) i = some j) : led key i = j := led_at (ldr_keep h)
theorem led_new {key : Nat → κ} {i : Nat} (h : ldr key (key i) i = none) : led key i = i := led_at (ldr_hit h rfl)
theorem led_iff {key : Nat → κ} {i j : Nat} : led key i = led key j ↔ key i = key j := by
  refine ⟨fun e => ?_, fun e => ?_⟩
  · rw [← (led_spec key i).2.1, e, (led_spec key j).2.1]
  · exact Nat.le_antisymm ((led_spec key i).2.2 _ ((led_spec key j).2.1.trans e.symm)) ((led_spec key j).2.2 _ ((led_spec key i).2.1.trans e))
theorem led_idem (key : Nat → κ) (i : Nat) : led key (led key i) = led key i := led_iff.2 (led_spec key i).2.1
theorem led_congr {key : Nat → κ} {key' : Nat → κ'} {n : Nat} (h : ∀ i j, i < n → j < n → (key i = key j ↔ key' i = key' j)) {i : Nat} (hi : i < n) : led key i = led key' i := by
  have a := led_spec key i; have b := led_spec key' i
  exact Nat.le_antisymm (a.2.2 _ ((h _ _ (by omega) hi).2 b.2.1)) (b.2.2 _ ((h _ _ (by omega) hi).1 a.2.1))
/-- the partition of n points by their keys -/
def ker (n : Nat) (key : Nat → κ) : List Int := (List.range n).map (fun i => (led key i : Int))
theorem ker_len {n : Nat} {key : Nat → κ} : (ker n key).length = n := by simp [ker]
theorem ker_get {n : Nat} {key : Nat → κ} {i : Nat} (hi : i < n) : (ker n key).getD i 0 = (led key i : Int) := by simp [ker, List.getD_eq_getElem?_getD, hi]
theorem ker_congr {key : Nat → κ} {key' : Nat → κ'} {n : Nat} (h : ∀ i j, i < n → j < n → (key i = key j ↔ key' i = key' j)) : ker n key = ker n key' := by
  unfold ker
  refine List.map_congr_left (fun i hi => ?_)
  rw [led_congr h (List.mem_range.1 hi)]
theorem ker_eq_iff {n : Nat} {key : Nat → κ} {i j : Nat} (hi : i < n) (hj : j < n) : (ker n key).getD i 0 = (ker n key).getD j 0 ↔ key i = key j := by
  rw [ker_get hi, ker_get hj, Int.ofNat_inj, led_iff]
end
/-- a partition -/
structure OkP (p : List Int) : Prop where
  len : p.length ≤ 64
  low : ∀ i, i < p.length → 0 ≤ p.getD i 0 ∧ p.getD i 0 ≤ i ∧ p.getD (p.getD i 0).toNat 0 = p.getD i 0
theorem ker_ok {κ : Type} [DecidableEq κ] {n : Nat} {key : Nat → κ} (hn : n ≤ 64) : OkP (ker n key) := by
  refine ⟨by rw [ker_len]; exact hn, fun i hi => ?_⟩
  rw [ker_len] at hi
  have h := led_spec key i
  rw [ker_get hi, Int.toNat_natCast, ker_get (by omega), led_idem]
  exact ⟨by omega, by omega, rfl⟩
theorem okP_zero {n : Nat} (hn : n ≤ 64) : OkP (List.replicate n (0 : Int)) := by
  refine ⟨by simpa using hn, fun i hi => ?_⟩
  simp only [List.length_replicate] at hi
  have e : ∀ j, (List.replicate n (0 : Int)).getD j 0 = 0 := fun j => by
    rw [List.getD_eq_getElem?_getD, List.getElem?_replicate]; split <;> rfl
  rw [e, e]; simp
/-- points are put together that have equal elements in both lists -/
def divP (a b : List Int) : List Int := ker a.length (fun i => (a.getD i 0, b.getD i 0))
/-- the blocks that a set meets -/
def bitsP (p : List Int) : List W64 := p.map (fun x => 1#64 <<< x.toNat)
def rch (p : List Int) (s : W64) : W64 := mapR (bitsP p) s
/-- the next round -/
def nxt (rels : List (List W64)) (p : List Int) : List Int := ker p.length (fun w => (p.getD w 0, rels.map (fun r => rch p (r.getD w 0#64))))
/-- the facts of a world, as a number -/
def fmTo (val : List W64) (w : Nat) : Nat → Nat
  | 0 => 0
  | k + 1 => fmTo val w k + (if (val.getD k 0#64).getLsbD w = true then 2 ^ k else 0)
def fm (val : List W64) (w : Nat) : Nat := fmTo val w val.length
theorem fmTo_lt (val : List W64) (w : Nat) : ∀ k, fmTo val w k < 2 ^ k
  | 0 => by simp [fmTo]
  | k + 1 => by have := fmTo_lt val w k; rw [fmTo, Nat.pow_succ]; split <;> omega
/-- the partition after i rounds -/
def psq (n : Nat) (val : List W64) (rels : List (List W64)) : Nat → List Int
  | 0 => ker n (fun w => fm val w)
  | i + 1 => nxt rels (psq n val rels i)
theorem psq_len {n : Nat} {val : List W64} {rels : List (List W64)} : ∀ i, (psq n val rels i).length = n
  | 0 => ker_len
  | i + 1 => by rw [psq, nxt, ker_len, psq_len i]
theorem psq_ok {n : Nat} {val : List W64} {rels : List (List W64)} (hn : n ≤ 64) : ∀ i, OkP (psq n val rels i)
  | 0 => ker_ok hn
  | i + 1 => by rw [psq, nxt]; exact ker_ok (by rw [psq_len]; exact hn)
theorem nxt_eq_iff {rels : List (List W64)} {p : List Int} {i j : Nat} (hi : i < p.length) (hj : j < p.length) :
    (nxt rels p).getD i 0 = (nxt rels p).getD j 0 ↔ p.getD i 0 = p.getD j 0 ∧ ∀ r ∈ rels, rch p (r.getD i 0#64) = rch p (r.getD j 0#64) := by
  rw [nxt, ker_eq_iff hi hj]; simp
/-- a list that is being filled -/
def fillI (n : Nat) (f : Nat → Int) (k : Nat) : List Int := (List.range n).map (fun i => if i < k then f i else 0)
theorem fillI_len {n : Nat} {f : Nat → Int} {k : Nat} : (fillI n f k).length = n := by simp [fillI]
theorem fillI_zero {n : Nat} {f : Nat → Int} : fillI n f 0 = List.replicate n 0 := by
  apply List.ext_getElem (by simp [fillI])
  intro i h1 h2; simp [fillI]
theorem fillI_set {n : Nat} {f : Nat → Int} {k : Nat} (_hk : k < n) : (fillI n f k).set k (f k) = fillI n f (k + 1) := by
  apply List.ext_getElem (by simp [fillI])
  intro i h1 h2
  simp [fillI, List.getElem_set]
  by_cases e : k = i
  · subst e; simp
  · rw [if_neg e]
    by_cases h3 : i < k
    · rw [if_pos h3, if_pos (by omega)]
    · rw [if_neg h3, if_neg (by omega)]
theorem fillI_all {n : Nat} {f : Nat → Int} : fillI n f n = (List.range n).map f := by
  unfold fillI
  refine List.map_congr_left (fun i hi => ?_)
  rw [if_pos (List.mem_range.1 hi)]
/-! the rounds end -/
def fixN (p : List Int) : Nat := (List.range p.length).countP (fun i => p.getD i 0 == (i : Int))
theorem cntR_lt {n : Nat} {f g : Nat → Bool} (h : ∀ i, i < n → f i = true → g i = true) {j : Nat} (hj : j < n) (h1 : f j = false) (h2 : g j = true) : (List.range n).countP f < (List.range n).countP g := by
  induction n with
  | zero => omega
  | succ n ih =>
    rw [List.range_succ, List.countP_append, List.countP_append]
    have hle : ∀ m, m ≤ n → (List.range m).countP f ≤ (List.range m).countP g := fun m hm => by
      refine List.countP_mono_left (fun i hi e => h i (by have := List.mem_range.1 hi; omega) e)
    simp only [List.countP_singleton]
    rcases Nat.lt_or_ge j n with hlt | hge
    · have := ih (fun i hi => h i (by omega)) hlt
      have h3 := h n (by omega)
      cases hf : f n with
      | false => rw [if_neg (by simp)]; split <;> omega
      | true => rw [h3 hf]; simp; omega
    · obtain rfl : j = n := by omega
      have := hle j (Nat.le_refl _)
      rw [h1, h2]; simp; omega
theorem fix_lt {rels : List (List W64)} {p : List Int} (hp : OkP p) (hne : nxt rels p ≠ p) : fixN p < fixN (nxt rels p) := by
  have hl : (nxt rels p).length = p.length := by rw [nxt, ker_len]
  -- the first point at which they differ
  have hex : ∃ j, j < p.length ∧ (nxt rels p).getD j 0 ≠ p.getD j 0 := by
    by_cases h : ∃ j, j < p.length ∧ (nxt rels p).getD j 0 ≠ p.getD j 0
    · exact h
    · exfalso; apply hne
      apply List.ext_getElem hl
      intro i h1 h2
      by_cases e : (nxt rels p).getD i 0 = p.getD i 0
      · simpa [List.getD_eq_getElem?_getD, h1, h2] using e
      · exact absurd ⟨i, h2, e⟩ h
  obtain ⟨j, hj, hd⟩ := hex
  let key : Nat → Int × List W64 := fun w => (p.getD w 0, rels.map (fun r => rch p (r.getD w 0#64)))
  have hq : ∀ i, i < p.length → (nxt rels p).getD i 0 = (led key i : Int) := fun i hi => by rw [nxt, ker_get hi]
  have hle := led_spec key j
  have hlt : led key j < p.length := by omega
  -- the leader in the new one
  have hk : p.getD (led key j) 0 = p.getD j 0 := congrArg Prod.fst hle.2.1
  unfold fixN
  rw [hl]
  refine cntR_lt (fun i hi e => ?_) hlt ?_ ?_
  · simp only [beq_iff_eq] at e ⊢
    rw [hq i hi]
    have h := led_spec key i
    have hk2 : p.getD (led key i) 0 = p.getD i 0 := congrArg Prod.fst h.2.1
    have := (hp.low (led key i) (by omega)).2.1
    omega
  · rw [beq_eq_false_iff_ne, hk]
    intro e
    apply hd
    rw [hq j hj, e]
  · rw [beq_iff_eq, hq _ hlt, led_idem]
theorem fix_le (p : List Int) : fixN p ≤ p.length := by
  have := List.countP_le_length (p := fun i : Nat => p.getD i 0 == (i : Int)) (l := List.range p.length)
  simpa [fixN] using this
section
variable {n : Nat} {val : List W64} {rels : List (List W64)}
theorem fix_psq (hn : 1 ≤ n) (h64 : n ≤ 64) : ∀ i, (∀ j, j < i → psq n val rels j ≠ psq n val rels (j + 1)) → i + 1 ≤ fixN (psq n val rels i)
  | 0, _ => by
    unfold fixN
    rw [psq_len]
    refine List.countP_pos_iff.2 ⟨0, by simp; omega, ?_⟩
    have := ((psq_ok (val := val) (rels := rels) h64 0).low 0 (by rw [psq_len]; omega))
    simp only [beq_iff_eq]
    have h := this.1; have h2 := this.2.1
    exact Int.le_antisymm h2 h
  | i + 1, h => by
    have := fix_psq hn h64 i (fun j hj => h j (by omega))
    have h2 := fix_lt (rels := rels) (psq_ok h64 i) (fun e => h i (by omega) (by rw [psq, e]))
    rw [psq]; omega
/-- after how many rounds nothing changes any more -/
def depO (n : Nat) (val : List W64) (rels : List (List W64)) : Option Nat := ldr (fun d => decide (psq n val rels d = psq n val rels (d + 1))) true n
def dep (n : Nat) (val : List W64) (rels : List (List W64)) : Nat := (depO n val rels).getD 0
theorem dep_spec (hn : 1 ≤ n) (h64 : n ≤ 64) : dep n val rels < n ∧ psq n val rels (dep n val rels) = psq n val rels (dep n val rels + 1) ∧ ∀ j, j < dep n val rels → psq n val rels j ≠ psq n val rels (j + 1) := by
  unfold dep depO
  cases h : ldr (fun d => decide (psq n val rels d = psq n val rels (d + 1))) true n with
  | some d =>
    obtain ⟨h1, h2, h3⟩ := ldr_some h
    refine ⟨h1, by simpa using h2, fun j hj => ?_⟩
    have := h3 j hj
    simpa using this
  | none =>
    exfalso
    have h1 := ldr_none h
    have := fix_psq (val := val) (rels := rels) hn h64 n (fun j hj => by have := h1 j hj; simpa using this)
    have h2 := fix_le (psq n val rels n)
    rw [psq_len] at h2; omega
theorem dep_uniq (hn : 1 ≤ n) (h64 : n ≤ 64) {d : Nat} (h1 : psq n val rels d = psq n val rels (d + 1)) (h2 : ∀ j, j < d → psq n val rels j ≠ psq n val rels (j + 1)) : d = dep n val rels := by
  have := dep_spec (val := val) (rels := rels) hn h64
  rcases Nat.lt_trichotomy d (dep n val rels) with h | h | h
  · exact absurd h1 (this.2.2 d h)
  · exact h
  · exact absurd this.2.1 (h2 _ h)
theorem psq_stable {d : Nat} (h : psq n val rels d = psq n val rels (d + 1)) : ∀ k, psq n val rels (d + k) = psq n val rels d
  | 0 => rfl
  | k + 1 => by rw [← Nat.add_assoc, psq, psq_stable h k, ← psq, ← h]
end
def dpt (n : Int) (val : List W64) (rel : List (List W64)) : Int := if checkM n val rel ≠ 0 then 0 else (dep n.toNat val rel : Int)
def rndsE (n : Int) (val : List W64) (rel : List (List W64)) (k : Int) : Int := if checkM n val rel ≠ 0 then checkM n val rel else if k < 0 then 2 else 0
def rnds (n : Int) (val : List W64) (rel : List (List W64)) (k : Int) : List Int := if rndsE n val rel k ≠ 0 then [] else psq n.toNat val rel (min k.toNat n.toNat)
theorem rnds_bad {n : Int} {val : List W64} {rel : List (List W64)} {k : Int} (h : rndsE n val rel k ≠ 0) : rnds n val rel k = [] := if_pos h
theorem rnds_ok {n : Int} {val : List W64} {rel : List (List W64)} {k : Int} (h : rndsE n val rel k = 0) : rnds n val rel k = psq n.toNat val rel (min k.toNat n.toNat) := if_neg (by simp [h])
theorem OwnS.nil0 {α : Type} {enc : α → Value} {t : TypeId} {w w' : World} : OwnS enc t w w' (.slice none 0 0) ([] : List α) := ⟨none, 0, [], rfl, fun _ => ⟨rfl, rfl⟩, rfl, fun _ e => by cases e⟩
theorem OwnS.one {α : Type} {enc : α → Value} {t : TypeId} {w0 w : World} {h : Hl} {Y : List (Nat × Obj)} (s : St w0 [] w h Y) (j : Nat) {b : Nat} {xs : List α} {m : Nat} (hj : h[j]? = some (some b, ob enc t xs [])) (hm : m = xs.length) : OwnS enc t w0 w (.slice (some ⟨b, 0, none⟩) m m) xs :=
  OwnS.mk s j (q := some b) hj hm (fun e => by cases e) (by rw [hm]; simp)
end Go.Proofs.Wit
