/- Laws of a calculus of walks, proved for any program: no condition beyond those that each theorem states. -/
import Derived.Test.YtcljmlnnfdaljaaDoorS02
import Derived.Test.YtcljmlnnfdaljaaDoorS03
namespace Go.Proofs.Wit
open Go Go.RowKit
/-- a list of words, read -/
def SlU (w : World) (a : Option Addr) (xs : List W64) : Prop := Sl w a (xs.map U)
theorem SlU.ex0 {w0 w : World} {a : Option Addr} {xs : List W64} (h : SlU w0 a xs) {S : List Nat} (e : Ex S w0 w) (hS : ∀ b o, a = some ⟨b, o, none⟩ → b ∉ S := by simp) : SlU w a xs := Sl.ex h e hS
theorem SlU.at {w : World} {a : Option Addr} {xs : List W64} (h : SlU w a xs) (k : Nat) (hk : k < xs.length) : w.cell? (adr a k) = some (U (xs.getD k 0#64)) := by
  rw [Sl.cell h k (by simpa using hk)]
  simp [List.getD_eq_getElem?_getD, hk]
theorem SlU.nil (w : World) (a : Option Addr) : SlU w a [] := Sl.nil w a
theorem SlU.blk {w : World} {q : Option Nat} {xs : List W64} {sp : List Value} {e : TypeId} {fr : Nat × Nat} (hq : q = none → xs = []) (h : ∀ b, q = some b → w.heap[b]? = some (.cells (xs.map U ++ sp).toArray e fr)) : SlU w (q.map (fun b => ⟨b, 0, none⟩)) xs := by
  cases q with
  | none => rw [hq rfl]; exact .nil _ _
  | some b => exact Sl.blk (h b rfl)

/-! loops as folds over 0 .. n-1 -/
def upTo {σ : Type} (f : Nat → σ → σ) (s : σ) : Nat → σ
  | 0 => s
  | k + 1 => f k (upTo f s k)
theorem upTo_inv {σ : Type} {f : Nat → σ → σ} {s : σ} (I : Nat → σ → Prop) (h0 : I 0 s) : ∀ {n : Nat}, (∀ k a, k < n → I k a → I (k + 1) (f k a)) → I n (upTo f s n)
  | 0, _ => h0
  | n + 1, h => h n _ (by omega) (upTo_inv I h0 (fun k a hk => h k a (by omega)))
/-- no element from the first n on -/
def anyTo (p : Nat → Bool) : Nat → Bool
  | 0 => false
  | k + 1 => anyTo p k || p k
theorem anyTo_iff {p : Nat → Bool} : ∀ {n : Nat}, anyTo p n = true ↔ ∃ k, k < n ∧ p k = true
  | 0 => by simp [anyTo]
  | n + 1 => by
    rw [anyTo, Bool.or_eq_true, anyTo_iff]
    constructor
    · rintro (⟨k, hk, hp⟩ | hp)
      · exact ⟨k, by omega, hp⟩
      · exact ⟨n, by omega, hp⟩
    · rintro ⟨k, hk, hp⟩
      by_cases e : k = n
      · subst e; exact .inr hp
      · exact .inl ⟨k, by omega, hp⟩
theorem anyTo_false {p : Nat → Bool} {n : Nat} : anyTo p n = false ↔ ∀ k, k < n → p k = false := by
  rw [← Bool.not_eq_true, anyTo_iff]
  constructor
  · intro h k hk; cases hp : p k with
    | false => rfl
    | true => exact absurd ⟨k, hk, hp⟩ h
  · rintro h ⟨k, hk, hp⟩; rw [h k hk] at hp; cases hp
section
variable {P : Program} {r : Option Nat} {f : FuncId} {R : Value → World → Prop} {w0 : World} {S : List Nat} {Y : List (Nat × Obj)} {n : Nat} {k : List Item} {l : Fl} {h : Hl}
variable {ops : Array Oper} {i d : Nat} {rest : List Nat} {ty : TypeId} {pos : String} {aft : Array Edge} {g : Option (Nat × Bool)}
theorem idxA_run {t e : TypeId} {len : Nat} (hu : P.underlying t = some (.array len e)) (he : ∀ w, (sizeOf e).run P w = .ok 1 w) (b o : Nat) (kd : IntKind) (j : Nat) (hj : j < len) (w' : World) :
    (Instr.indexAt t (.pointer (some ⟨b, o, none⟩)) (.int kd j)).run P w' = .ok (.pointer (some ⟨b, o + j, none⟩)) w' := by
  simp only [Instr.indexAt, asIntOf, Sem.run_bind, Sem.run_pure, Result.andThen_ok, run_underlying hu, Instr.sureAddr]
  rw [if_pos ⟨by omega, by omega⟩]
  simp only [Sem.run_bind, he, Result.andThen_ok, Sem.run_pure, Addr.add, Nat.mul_one, Int.toNat_natCast]
  split
  · rename_i h0; rw [h0]; rfl
  · rfl
/-- the address of an element of an array -/
theorem Vop.idxA {t e : TypeId} {x y : Operand} {b o len : Nat} {kd : IntKind} {j : Int} (ho : ops[i]? = some ⟨some d, .indexAddr t x y, ty, pos, aft, g⟩) (hw : wantL ops l g = true)
    (hx : opd l x = some (.pointer (some ⟨b, o, none⟩))) (hy : opd l y = some (.int kd j)) (hd : Nat.blt d n = true) (hu : P.underlying t = some (.array len e)) (he : ∀ w, (sizeOf e).run P w = .ok 1 w)
    (j' : Nat) (hj : j = j') (hlt : j' < len) : Vop P w0 S n h ops i l d (.pointer (some ⟨b, o + j', none⟩)) := by
  subst hj
  exact .of ho hw rfl rfl hd (fun t w Ds _ hF _ => ⟨.value (.pointer (some ⟨b, o + j', none⟩)), by
    simp only [execOp, hF.opd hx, hF.opd hy, Sem.run_bind, idxA_run hu he b o kd j' hlt w]; rfl, rfl⟩)
end
/-- a block of elements of one cell each, behind them spare ones -/
abbrev ob {α : Type} (enc : α → Value) (e : TypeId) (xs : List α) (sp : List Value) : Obj := .cells (xs.map enc ++ sp).toArray e (0, 0)
section
variable {P : Program} {r : Option Nat} {f : FuncId} {R : Value → World → Prop} {w0 : World} {S : List Nat} {Y : List (Nat × Obj)} {n : Nat} {k : List Item} {l : Fl} {h : Hl}
variable {ops : Array Oper} {i d : Nat} {rest : List Nat} {ty : TypeId} {pos : String} {aft : Array Edge} {g : Option (Nat × Bool)}
theorem idxS_run {t e : TypeId} (hu : P.underlying t = some (.slice e)) {sz : Nat} (he : ∀ w, (sizeOf e).run P w = .ok sz w) (b o m cap : Nat) (kd : IntKind) (j : Nat) (hj : j < m) (w' : World) :
    (Instr.indexAt t (.slice (some ⟨b, o, none⟩) m cap) (.int kd j)).run P w' = .ok (.pointer (some ⟨b, o + j * sz, none⟩)) w' := by
  simp only [Instr.indexAt, asIntOf, Sem.run_bind, Sem.run_pure, Result.andThen_ok, run_underlying hu]
  rw [if_pos ⟨by omega, by omega⟩]
  simp only [Sem.run_bind, he, Result.andThen_ok, Sem.run_pure, Addr.add, Int.toNat_natCast]
  split
  · rename_i h0; rw [h0]; rfl
  · rfl
/-- the address of an element of a slice whose block is known -/
theorem Vop.idxS {t e : TypeId} {x y : Operand} {b o m cap : Nat} {kd : IntKind} {j : Int} (ho : ops[i]? = some ⟨some d, .indexAddr t x y, ty, pos, aft, g⟩) (hw : wantL ops l g = true)
    (hx : opd l x = some (.slice (some ⟨b, o, none⟩) m cap)) (hy : opd l y = some (.int kd j)) (hd : Nat.blt d n = true) (hu : P.underlying t = some (.slice e)) {sz : Nat} (he : ∀ w, (sizeOf e).run P w = .ok sz w)
    (j' : Nat) (hj : j = j' ∧ j' < m) : Vop P w0 S n h ops i l d (.pointer (some ⟨b, o + j' * sz, none⟩)) := by
  obtain ⟨rfl, hlt⟩ := hj
  exact .of ho hw rfl rfl hd (fun t w Ds _ hF _ => ⟨.value (.pointer (some ⟨b, o + j' * sz, none⟩)), by
    simp only [execOp, hF.opd hx, hF.opd hy, Sem.run_bind, idxS_run hu he b o m cap kd j' hlt w]; rfl, rfl⟩)
theorem ob_get {α : Type} {enc : α → Value} {xs : List α} {sp : List Value} {q : Nat} (hq : q < xs.length) : (xs.map enc ++ sp).toArray[0 + q * 1]? = some (enc xs[q]) := by
  rw [Nat.zero_add, Nat.mul_one]
  simp [List.getElem?_append, hq]
/-- an element of a block of one's own -/
theorem Vop.ldE {α : Type} (enc : α → Value) (dflt : α) {t : TypeId} {x : Operand} {b q : Nat} {xs : List α} {sp : List Value} {e : TypeId} (ho : ops[i]? = some ⟨some d, .load t x, ty, pos, aft, g⟩) (hw : wantL ops l g = true)
    (hx : opd l x = some (.pointer (some ⟨b, 0 + q * 1, none⟩))) (hd : Nat.blt d n = true) (ha : ∀ w, (isAgg t).run P w = .ok false w) (j : Nat) (hj : h[j]? = some (some b, ob enc e xs sp)) (hq : q < xs.length) :
    Vop P w0 S n h ops i l d (enc (xs.getD q dflt)) :=
  Vop.ldo ho hw hx hd ha j hj (by rw [ob_get hq]; simp [List.getD_eq_getElem?_getD, hq])
/-- a store into an element of a block of one's own -/
theorem GoH.stE {α : Type} (enc : α → Value) (v : α) {t : TypeId} {x y : Operand} {b q : Nat} {xs : List α} {sp : List Value} {e : TypeId} (ho : ops[i]? = some ⟨none, .store t x y, ty, pos, aft, g⟩) (hw : wantL ops l g = true)
    (hx : opd l x = some (.pointer (some ⟨b, 0 + q * 1, none⟩))) (hy : opd l y = some (enc v)) (hz : ∀ w, (sizeOf t).run P w = .ok 1 w) (hv : (enc v).oneCell' = true) (j : Nat) (hj : h[j]? = some (some b, ob enc e xs sp)) (hq : q < xs.length)
    (hk : GoH P r f R w0 S Y n (.inRegion ops rest :: k) l (h.set j (some b, ob enc e (xs.set q v) sp))) : GoH P r f R w0 S Y n (.inRegion ops (i :: rest) :: k) l h := by
  refine GoH.st ho hw hx hy hz hv j hj (by rw [Nat.blt_eq]; simp; omega) ?_
  have : ((xs.map enc ++ sp).toArray.setIfInBounds (0 + q * 1) (enc v)) = ((xs.set q v).map enc ++ sp).toArray := by
    rw [Nat.zero_add, Nat.mul_one, List.map_set]
    have hq2 : q < (xs.map enc).length := by simpa using hq
    simp [List.set_append_left _ _ hq2]
  rw [this]; exact hk
end
theorem St.fresh {w0 w : World} {h : Hl} {Y : List (Nat × Obj)} (s : St w0 [] w h Y) {j b : Nat} {o : Obj} (hj : h[j]? = some (some b, o)) : w0.heap.size ≤ b := by
  rcases (s.own _ (List.mem_of_getElem? hj) b rfl).2.2 with h1 | h1
  · exact h1
  · cases h1
theorem SlU.own {w0 w : World} {S : List Nat} {h : Hl} {Y : List (Nat × Obj)} (s : St w0 S w h Y) {j b : Nat} {e : TypeId} {xs : List W64} {sp : List Value} (hj : h[j]? = some (some b, ob U e xs sp)) : SlU w (some ⟨b, 0, none⟩) xs := Sl.blk (s.get hj)
section
variable {P : Program} {r : Option Nat} {f : FuncId} {R : Value → World → Prop} {w0 : World} {S : List Nat} {Y : List (Nat × Obj)} {n : Nat} {k : List Item} {l : Fl} {h : Hl}
variable {ops : Array Oper} {i d : Nat} {rest : List Nat} {ty : TypeId} {pos : String} {aft : Array Edge} {g : Option (Nat × Bool)}
/-- make([]T, m): m zero elements -/
theorem GoH.mkE {α : Type} (enc : α → Value) (z : α) {t e : TypeId} {x y : Operand} {kx ky : IntKind} {m : Nat} {inf : TypeInfo} (ho : ops[i]? = some ⟨some d, .makeSlice t x y, ty, pos, aft, g⟩) (hw : wantL ops l g = true) (hx : opd l x = some (.int kx m)) (hy : opd l y = some (.int ky m)) (hd : Nat.blt d n = true)
    (hu : P.underlying t = some (.slice e)) (hi : P.info? e = some inf) (hz : inf.zero = some (enc z)) (hz1 : (enc z).cells = #[enc z]) (hs : inf.size = 1) (hb : inf.bytes * m ≤ 281474976710656) (hm : m ≤ maxLen)
    (hk : ∀ b, GoH P r f R w0 S Y n (.inRegion ops rest :: k) ((d, .slice (some ⟨b, 0, none⟩) m m) :: l) ((some b, ob enc e (List.replicate m z) []) :: h)) : GoH P r f R w0 S Y n (.inRegion ops (i :: rest) :: k) l h :=
  .mks ho hw hx hy hd hu hi hz hz1 hs hb hm (fun b => by
    have := hk b
    simp only [ob, List.map_replicate] at this
    exact this)
/-- append(out, x ..) of elements of one cell -/
theorem GoH.appE {α : Type} (enc : α → Value) {t e : TypeId} {x y : Operand} {inf : TypeInfo} {z : Value} {q : Option Nat} {xs : List α} {sp : List Value} {cap : Nat} {bn m c : Nat} {news : List α} {spn : List Value} {en : TypeId}
    (ho : ops[i]? = some ⟨some d, .call ⟨.builtin .append, #[x, y], #[t, t]⟩, ty, pos, aft, g⟩) (hw : wantL ops l g = true) (hx : opd l x = some (osv q xs.length cap)) (hy : opd l y = some (.slice (some ⟨bn, 0, none⟩) m c)) (hd : Nat.blt d n = true)
    (hu : P.underlying t = some (.slice e)) (hi : P.info? e = some inf) (hz : inf.zero = some z) (hsz : inf.size = 1) (hz1 : z.cells.size = 1)
    (hq : q = none → xs.length = 0 ∧ cap = 0) (j : Nat) (hj : h[j]? = some (q, ob enc e xs sp)) (jn : Nat) (hjn : h[jn]? = some (some bn, ob enc en news spn))
    (hcap : (xs.map enc ++ sp).length = cap) (hl : news.length = m) (hm0 : 0 < m) (h1 : ∀ u, (enc u).oneCell' = true) (hmx : xs.length + m ≤ maxLen) (hbytes : (xs.length + m) * inf.bytes ≤ 140737488355328)
    (hk : ∀ b' sp' cap', ((xs ++ news).map enc ++ sp').length = cap' → GoH P r f R w0 S Y n (.inRegion ops rest :: k) ((d, osv (some b') (xs ++ news).length cap') :: l) (h.set j (some b', ob enc e (xs ++ news) sp'))) : GoH P r f R w0 S Y n (.inRegion ops (i :: rest) :: k) l h := by
  refine .app 1 ho hw hx hy hd hu hi hz hsz hz1 hq j hj jn hjn (by simp) (by rw [hcap, Nat.mul_one]) (by simp [hl]) hm0 (fun u hu => ?_) hmx hbytes (fun b' sp' cap' hlen => ?_)
  · obtain ⟨a, _, rfl⟩ := List.mem_map.1 hu; exact h1 a
  · have e1 : xs.map enc ++ news.map enc = (xs ++ news).map enc := by simp
    have e2 : xs.length + m = (xs ++ news).length := by simp [hl]
    rw [e1, e2]
    exact hk b' sp' cap' (by rw [← e1, hlen, Nat.mul_one])
end
section
variable {P : Program} {r : Option Nat} {f : FuncId} {R : Value → World → Prop} {w0 : World} {S : List Nat} {Y : List (Nat × Obj)} {n : Nat} {k : List Item} {l : Fl} {h : Hl}
variable {ops : Array Oper} {i d : Nat} {rest : List Nat} {ty : TypeId} {pos : String} {aft : Array Edge} {g : Option (Nat × Bool)}
/-- append(out, xs...), xs read -/
theorem GoH.appS {α : Type} (enc : α → Value) {t e : TypeId} {x y : Operand} {inf : TypeInfo} {z : Value} {q : Option Nat} {xs : List α} {sp : List Value} {cap : Nat} {an : Option Addr} {m c : Nat} (news : List α)
    (ho : ops[i]? = some ⟨some d, .call ⟨.builtin .append, #[x, y], #[t, t]⟩, ty, pos, aft, g⟩) (hw : wantL ops l g = true) (hx : opd l x = some (osv q xs.length cap)) (hy : opd l y = some (.slice an m c)) (hd : Nat.blt d n = true)
    (hu : P.underlying t = some (.slice e)) (hi : P.info? e = some inf) (hz : inf.zero = some z) (hsz : inf.size = 1) (hz1 : z.cells.size = 1)
    (hq : q = none → xs.length = 0 ∧ cap = 0) (j : Nat) (hj : h[j]? = some (q, ob enc e xs sp)) (hsl : ∀ w Y', St w0 S w h Y' → Sl w an (news.map enc))
    (hcap : (xs.map enc ++ sp).length = cap) (hl : m = news.length) (hm0 : 0 < m) (h1 : ∀ u, (enc u).oneCell' = true) (hmx : xs.length + m ≤ maxLen) (hbytes : (xs.length + m) * inf.bytes ≤ 140737488355328)
    (hk : ∀ b' sp' cap', ((xs ++ news).map enc ++ sp').length = cap' → GoH P r f R w0 S Y n (.inRegion ops rest :: k) ((d, osv (some b') (xs ++ news).length cap') :: l) (h.set j (some b', ob enc e (xs ++ news) sp'))) : GoH P r f R w0 S Y n (.inRegion ops (i :: rest) :: k) l h :=
  .mem ho hw rfl rfl hd (fun t' w Ds Y' hF hS => by
    have hs := hsl w Y' hS
    obtain ⟨bn, o, rfl, _⟩ := hs.isSome (by simp; omega)
    have hnews : ∀ j u, (news.map enc)[j]? = some u → w.cell? ((⟨bn, o, none⟩ : Addr).add j) = some u := by
      intro j u hv
      have hjl := (List.getElem?_eq_some_iff.1 hv).1
      have e1 : (⟨bn, o, none⟩ : Addr).add j = adr (some ⟨bn, o, none⟩) j := by
        unfold Addr.add adr; split
        · rename_i h0; rw [h0]; rfl
        · rfl
      rw [e1, hs.cell j hjl]
      rw [List.getD_eq_getElem?_getD, hv]; rfl
    subst hl
    obtain ⟨b', sp', cap', w', hrun, hlen, hS'⟩ := app_run hu hi hz hsz hz1 hS (xs := xs.map enc) (nx := xs.length) (by simp) (by rw [hcap, Nat.mul_one]) hq hj (c := c) (m := news.length) (news := news.map enc) (by simp) hm0 hnews (fun u hu => by obtain ⟨a, _, rfl⟩ := List.mem_map.1 hu; exact h1 a) hmx hbytes ty
    have e2 : xs.map enc ++ news.map enc = (xs ++ news).map enc := by simp
    have e3 : xs.length + news.length = (xs ++ news).length := by simp
    rw [e2] at hlen hS'
    rw [e3] at hrun
    refine ⟨_, w', _, ?_, hS', hk b' sp' cap' (by rw [hlen, Nat.mul_one])⟩
    have e1 : (#[x, y] : Array Operand).map (Act.eval ⟨t', Ds.map mark⟩) = #[osv q xs.length cap, .slice (some ⟨bn, o, none⟩) news.length c] := by simp [hF.opd hx, hF.opd hy]
    simp only [execOp, resolve, e1, Sem.run_bind, Sem.run_pure, Result.andThen_ok, invoke, builtin, hrun])
/-- nothing is appended -/
theorem blt_app0 {t e : TypeId} {inf : TypeInfo} (hu : P.underlying t = some (.slice e)) (hi : P.info? e = some inf) {a b : Option Addr} {m cap c : Nat} (hm : m ≤ cap) : Blt P .append #[t, t] ty [.slice a m cap, .slice b 0 c] (.slice a m cap) := by
  intro cs w
  have hf : (Builtin.firstCells inf.size 0 (.slice b 0 c)).run P w = .ok #[] w := by
    cases b <;> simp [Builtin.firstCells, loadCells, loadCellsFrom]
  have hin : P.underlying t ≠ some (.int .i64) := by rw [hu]; simp
  simp only [builtin, Builtin.append_]
  cases a <;> simp [run_underlying hu, sizeOf, typeInfo, hi, Builtin.lenOf, hm, hf, storeCells]
/-- []T{}: a new block without elements -/
theorem GoH.bs0 {α : Type} (enc : α → Value) {t e : TypeId} {inf : TypeInfo} (ho : ops[i]? = some ⟨some d, .buildSlice t 0 #[], ty, pos, aft, g⟩) (hw : wantL ops l g = true) (hd : Nat.blt d n = true)
    (hu : P.underlying t = some (.slice e)) (hi : P.info? e = some inf)
    (hk : ∀ b, GoH P r f R w0 S Y n (.inRegion ops rest :: k) ((d, osv (some b) ([] : List α).length 0) :: l) ((some b, ob enc e [] []) :: h)) : GoH P r f R w0 S Y n (.inRegion ops (i :: rest) :: k) l h :=
  .mem ho hw rfl rfl hd (fun t' w Ds _ hF hS => ⟨.slice (some ⟨w.heap.size, 0, none⟩) 0 0, w.alloc (.cells #[] e), _, by
    simp [execOp, Instr.buildSlice, run_underlying hu, sizeOf, typeInfo, hi, Instr.fill, newRow]
    rw [show Array.range 0 = #[] from by decide]; simp, hS.alloc rfl, hk _⟩)
theorem bSlNil {t e : TypeId} (hu : P.underlying t = some (.slice e)) {a : Option Addr} {m c m' c' : Nat} : Bin P .eql t (.slice a m c) (.slice none m' c') (.bool a.isNone) := by
  intro x y w
  have h0 : eqGuard .eql t x y (.slice a m c) (.slice none m' c') = pure () := by unfold eqGuard; rfl
  rw [h0]
  have h1 : ∀ dd, (Op.equalIn (dd + 1) t (.slice a m c) (.slice none m' c')).run P w = .ok a.isNone w := by
    intro dd
    simp only [Op.equalIn, Sem.run_bind, run_underlying hu, Result.andThen_ok]
    cases a <;> rfl
  show (do pure (Value.bool (← Op.equal t (.slice a m c) (.slice none m' c'))) : Sem Value).run P w = _
  rw [Sem.run_bind, show (Op.equal t (.slice a m c) (.slice none m' c')).run P w = _ from h1 9999]; rfl
end
/-- the table of math/bits, as it lies in block 0 -/
def TabAt (g : Nat) (w : World) : Prop := g < w.heap.size ∧ ∀ i : Nat, i < 64 → w.cell? ⟨g, i, none⟩ = some (.int .u8 (dbtab.getD i 0))
theorem TabAt.ex {g : Nat} {w0 w : World} {S : List Nat} (h : TabAt g w0) (e : Ex S w0 w) (hS : g ∉ S := by simp) : TabAt g w :=
  ⟨Nat.lt_of_lt_of_le h.1 e.size, fun i hi => by rw [← h.2 i hi]; exact World.cell?_of_block (e.block g h.1 hS)⟩
theorem pts_drop {s0 s : W64} {i : Nat} (h : (pts s0).drop i = pts s) (hs : s ≠ 0#64) : (pts s0)[i]? = some (tz s) ∧ (pts s0).drop (i + 1) = pts (s &&& (s - 1#64)) := by
  rw [pts_cons hs] at h
  refine ⟨?_, ?_⟩
  · have := congrArg (fun l => l[0]?) h
    simpa using this
  · rw [← List.drop_drop, h]; rfl
theorem and_sub_lt {s : W64} (hs : s ≠ 0#64) : (s &&& (s - 1#64)).toNat < s.toNat := by
  have h1 : (s &&& (s - 1#64)).toNat ≤ (s - 1#64).toNat := by rw [BitVec.toNat_and]; exact Nat.and_le_right
  have h2 : s.toNat ≠ 0 := fun e => hs (BitVec.eq_of_toNat_eq (by simpa using e))
  have h3 : (s - 1#64).toNat < s.toNat := by rw [BitVec.toNat_sub]; have := s.isLt; simp; omega
  omega
end Go.Proofs.Wit
namespace Go.Proofs.Wit
open Go Go.RowKit
/-! plain facts on relations as lists of words -/
def allW (n : Nat) : W64 := if 64 ≤ n then 18446744073709551615#64 else (1#64 <<< n) - 1#64
def badW (n : Nat) (xs : List W64) (k : Nat) : Bool := xs.getD k 0#64 &&& ~~~ (allW n) != 0#64
def checkR (n : Int) (xs : List W64) : Int :=
  if n < 0 ∨ 64 < n then 2 else if (xs.length : Int) ≠ n then 3 else if anyTo (badW n.toNat xs) xs.length then 1 else 0
theorem mem_pts {s : W64} {i : Nat} : i ∈ pts s ↔ i < 64 ∧ s.getLsbD i = true := by simp [pts]
theorem allOnes_eq : (18446744073709551615#64 : W64) = BitVec.allOnes 64 := by decide
theorem allW_bit {n i : Nat} (hn : n ≤ 64) (hi : i < 64) : (allW n).getLsbD i = decide (i < n) := by
  unfold allW
  split
  · rw [allOnes_eq, BitVec.getLsbD_allOnes]; simp; omega
  · rename_i h
    have e1 : ((1#64 <<< n) - 1#64).toNat = 2 ^ n - 1 := by
      have hp : 2 ^ n < 2 ^ 64 := Nat.pow_lt_pow_right (by decide) (by omega)
      have h1 : 0 < 2 ^ n := Nat.pow_pos (by decide)
      rw [BitVec.toNat_sub, BitVec.toNat_shiftLeft, Nat.shiftLeft_eq]
      simp only [BitVec.toNat_ofNat]
      rw [show 1 % 2 ^ 64 = 1 from by decide, Nat.one_mul, Nat.mod_eq_of_lt hp]
      omega
    rw [BitVec.getLsbD, e1, Nat.testBit_two_pow_sub_one]
theorem bit_lt {s : W64} {i : Nat} (h : s.getLsbD i = true) : i < 64 := by
  rcases Nat.lt_or_ge i 64 with h1 | h1
  · exact h1
  · rw [BitVec.getLsbD_of_ge _ _ h1] at h; cases h
theorem eq_of_bits {s t : W64} (h : ∀ i, i < 64 → s.getLsbD i = t.getLsbD i) : s = t := BitVec.eq_of_getLsbD_eq (fun i hi => h i hi)
theorem andNot_zero {s t : W64} : s &&& ~~~t = 0#64 ↔ ∀ i, s.getLsbD i = true → t.getLsbD i = true := by
  constructor
  · intro h i hi
    have h1 := congrArg (fun x => BitVec.getLsbD x i) h
    have hl := bit_lt hi
    simp only [BitVec.getLsbD_and, BitVec.getLsbD_not, hi, hl] at h1
    simpa using h1
  · intro h
    refine eq_of_bits (fun i hi => ?_)
    rw [BitVec.getLsbD_and, BitVec.getLsbD_not]
    cases hs : s.getLsbD i with
    | false => simp
    | true => simp [hi, h i hs]
/-- v is a successor of w -/
def Rl (r : List W64) (w v : Nat) : Prop := (r.getD w 0#64).getLsbD v = true
/-- a valid relation -/
structure Val (r : List W64) : Prop where
  len : r.length ≤ 64
  lt : ∀ w v, Rl r w v → v < r.length
theorem Rl.dom {r : List W64} {w v : Nat} (h : Rl r w v) : w < r.length := by
  rcases Nat.lt_or_ge w r.length with h1 | h1
  · exact h1
  · unfold Rl at h; simp [List.getD_eq_getElem?_getD, List.getElem?_eq_none h1] at h
theorem badW_iff {n : Nat} {xs : List W64} {k : Nat} (hn : n ≤ 64) : badW n xs k = false ↔ ∀ i, (xs.getD k 0#64).getLsbD i = true → i < n := by
  unfold badW
  rw [bne_eq_false_iff_eq, andNot_zero]
  constructor
  · intro h i hi; have := h i hi; rw [allW_bit hn (bit_lt hi)] at this; simpa using this
  · intro h i hi; rw [allW_bit hn (bit_lt hi)]; simpa using h i hi
theorem check_zero {r : List W64} : checkR r.length r = 0 ↔ Val r := by
  unfold checkR
  constructor
  · intro h
    split at h
    · cases h
    · rename_i h1
      have hn : r.length ≤ 64 := by omega
      simp only [ne_eq, not_true_eq_false, if_false, Int.toNat_natCast] at h
      split at h
      · cases h
      · rename_i h2
        have h2 : anyTo (badW r.length r) r.length = false := by simpa using h2
        refine ⟨hn, fun w v hwv => ?_⟩
        exact (badW_iff hn).1 (anyTo_false.1 h2 w hwv.dom) v hwv
  · intro hv
    rw [if_neg (by have := hv.len; omega), if_neg (by simp), Int.toNat_natCast, if_neg]
    rw [anyTo_false.2 (fun k hk => (badW_iff hv.len).2 (fun i hi => hv.lt k i hi))]; simp
theorem Val.pts {r : List W64} (h : Val r) (w : Nat) : ∀ i ∈ pts (r.getD w 0#64), i < r.length := fun i hi => h.lt w i (mem_pts.1 hi).2
/-- the union of the successors of the points of a set -/
def mapR (r : List W64) (s : W64) : W64 := (pts s).foldl (fun o w => o ||| r.getD w 0#64) 0#64
theorem foldl_or_bit (r : List W64) (v : Nat) : ∀ (l : List Nat) (o : W64), (l.foldl (fun o w => o ||| r.getD w 0#64) o).getLsbD v = (o.getLsbD v || l.any (fun w => (r.getD w 0#64).getLsbD v))
  | [], o => by simp
  | w :: l, o => by rw [List.foldl_cons, foldl_or_bit r v l, BitVec.getLsbD_or, List.any_cons, Bool.or_assoc]
theorem mapR_bit {r : List W64} {s : W64} {v : Nat} : (mapR r s).getLsbD v = true ↔ ∃ w, s.getLsbD w = true ∧ Rl r w v := by
  rw [mapR, foldl_or_bit]
  simp only [BitVec.getLsbD_zero, Bool.false_or, List.any_eq_true]
  constructor
  · rintro ⟨w, hw, h⟩; exact ⟨w, (mem_pts.1 hw).2, h⟩
  · rintro ⟨w, hw, h⟩; exact ⟨w, mem_pts.2 ⟨bit_lt hw, hw⟩, h⟩
/-- the first k elements turned -/
def flm (g : Nat → W64 → W64) (xs : List W64) (k : Nat) : List W64 := xs.mapIdx (fun i x => if i < k then g i x else x)
theorem flm_length {g : Nat → W64 → W64} {xs : List W64} {k : Nat} : (flm g xs k).length = xs.length := by simp [flm]
theorem flm_zero {g : Nat → W64 → W64} {xs : List W64} : flm g xs 0 = xs := by
  apply List.ext_getElem? ; intro i; simp [flm]
theorem flm_get {g : Nat → W64 → W64} {xs : List W64} {k i : Nat} (hi : i < xs.length) : (flm g xs k).getD i 0#64 = if i < k then g i (xs.getD i 0#64) else xs.getD i 0#64 := by
  simp [flm, List.getD_eq_getElem?_getD, hi]
theorem flm_succ {g : Nat → W64 → W64} {xs : List W64} {k : Nat} (hk : k < xs.length) : (flm g xs k).set k (g k (xs.getD k 0#64)) = flm g xs (k + 1) := by
  apply List.ext_getElem?
  intro i
  rw [List.getElem?_set]
  simp only [flm, List.getElem?_mapIdx]
  split
  · rename_i e; subst e; simp [hk, List.getD_eq_getElem?_getD]
  · rename_i e
    cases hx : xs[i]? with
    | none => rfl
    | some x =>
      simp only [Option.map_some]
      by_cases h1 : i < k
      · rw [if_pos h1, if_pos (by omega)]
      · rw [if_neg h1, if_neg (by omega)]
/-- the reversed pairs -/
def revS (w : Nat) (s : W64) (out : List W64) : List W64 := (pts s).foldl (fun out v => out.set v (out.getD v 0#64 ||| 1#64 <<< w)) out
def revR (r : List W64) : List W64 := upTo (fun w out => revS w (r.getD w 0#64) out) (List.replicate r.length 0#64) r.length
theorem foldl_set_length (w : Nat) : ∀ (l : List Nat) (out : List W64), (l.foldl (fun out v => out.set v (out.getD v 0#64 ||| 1#64 <<< w)) out).length = out.length
  | [], _ => rfl
  | v :: l, out => by rw [List.foldl_cons, foldl_set_length w l]; simp
theorem upTo_rev_length (r : List W64) (n : Nat) : (upTo (fun w out => revS w (r.getD w 0#64) out) (List.replicate r.length 0#64) n).length = r.length := by
  refine upTo_inv (fun _ (out : List W64) => out.length = r.length) (by simp) (fun k a _ h => ?_)
  rw [revS, foldl_set_length]; exact h
theorem revR_length (r : List W64) : (revR r).length = r.length := upTo_rev_length r _
theorem foldl_set_bit (w : Nat) (hw : w < 64) (v i : Nat) : ∀ (l : List Nat) (out : List W64), (∀ x ∈ l, x < out.length) → v < out.length →
    ((l.foldl (fun out v => out.set v (out.getD v 0#64 ||| 1#64 <<< w)) out).getD v 0#64).getLsbD i = ((out.getD v 0#64).getLsbD i || (decide (v ∈ l) && decide (i = w)))
  | [], out, _, _ => by simp
  | x :: l, out, hl, hv => by
    rw [List.foldl_cons, foldl_set_bit w hw v i l _ (fun y hy => by simpa using hl y (List.mem_cons_of_mem _ hy)) (by simpa using hv)]
    have hx : x < out.length := hl x (List.mem_cons_self ..)
    by_cases e : x = v
    · subst e
      have : (out.set x (out.getD x 0#64 ||| 1#64 <<< w)).getD x 0#64 = out.getD x 0#64 ||| 1#64 <<< w := by simp [List.getD_eq_getElem?_getD, hx]
      rw [this, BitVec.getLsbD_or, BitVec.getLsbD_shiftLeft]
      have : (decide (i < 64) && !decide (i < w) && (1#64).getLsbD (i - w)) = decide (i = w) := by
        rw [BitVec.getLsbD_one]
        by_cases e2 : i = w
        · subst e2; simp [hw]
        · simp [e2]; omega
      rw [this]
      simp
      cases (out[x]?.getD 0#64).getLsbD i <;> cases decide (i = w) <;> simp
    · have : (out.set x (out.getD x 0#64 ||| 1#64 <<< w)).getD v 0#64 = out.getD v 0#64 := by simp [List.getD_eq_getElem?_getD, e]
      rw [this]
      have : decide (v ∈ x :: l) = decide (v ∈ l) := by simp [Ne.symm e]
      rw [this]
theorem revR_bit {r : List W64} (hv : Val r) {v w : Nat} (hlt : v < r.length) : Rl (revR r) v w ↔ Rl r w v := by
  have key : ∀ n, n ≤ r.length → (∀ i, ((upTo (fun w out => revS w (r.getD w 0#64) out) (List.replicate r.length 0#64) n).getD v 0#64).getLsbD i = true ↔ i < n ∧ Rl r i v) := by
    intro n
    induction n with
    | zero => intro _ i; simp [upTo, List.getD_eq_getElem?_getD, hlt]
    | succ n ih =>
      intro hn i
      have hlen := upTo_rev_length r n
      have hn64 : n < 64 := by have := hv.len; omega
      rw [upTo, revS, foldl_set_bit n hn64 v i _ _ (fun x hx => by rw [hlen]; exact hv.pts n x hx) (by rw [hlen]; exact hlt), Bool.or_eq_true, ih (by omega)]
      simp only [Bool.and_eq_true, decide_eq_true_eq]
      constructor
      · rintro (⟨h1, h2⟩ | ⟨h1, rfl⟩)
        · exact ⟨by omega, h2⟩
        · exact ⟨by omega, (mem_pts.1 h1).2⟩
      · rintro ⟨h1, h2⟩
        by_cases e : i = n
        · subst e; exact .inr ⟨mem_pts.2 ⟨bit_lt h2, h2⟩, rfl⟩
        · exact .inl ⟨by omega, h2⟩
  unfold Rl revR
  rw [key _ (Nat.le_refl _) w]
  exact ⟨fun h => h.2, fun h => ⟨Rl.dom h, h⟩⟩
end Go.Proofs.Wit
namespace Go.Proofs.Wit
theorem or_eq_left {a b : W64} (h : a ||| b = a) : b &&& ~~~a = 0#64 := by
  rw [andNot_zero]; intro i hi
  have := congrArg (fun x => BitVec.getLsbD x i) h
  simpa [BitVec.getLsbD_or, hi] using this
end Go.Proofs.Wit
