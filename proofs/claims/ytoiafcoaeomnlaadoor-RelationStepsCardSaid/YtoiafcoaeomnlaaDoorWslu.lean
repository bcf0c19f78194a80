/- Laws of a calculus of walks, proved for any program: no condition beyond those that each theorem states. -/
import Derived.Test.YtoiafcoaeomnlaaDoorWbin
import Derived.Test.YtoiafcoaeomnlaaDoorWrng
import Derived.Test.YtoiafcoaeomnlaaDoorWdraw
import Derived.Test.YtoiafcoaeomnlaaDoorWbits
namespace Go.Proofs.Wit
open Go Go.RowKit
/-- a list of words, read -/
def SlU (w : World) (a : Option Addr) (xs : List W64) : Prop := Sl w a (xs.map U)
theorem SlU.ex0 {w0 w : World} {a : Option Addr} {xs : List W64} (h : SlU w0 a xs) {S : List Nat} (e : Ex S w0 w) (hS : ∀ b o, a = some ⟨b, o, none⟩ → b ∉ S := by simp) : SlU w a xs := Sl.ex h e hS
theorem SlU.at {w : World} {a : Option Addr} {xs : List W64} (h : SlU w a xs) (k : Nat) (hk : k < xs.length) : w.cell? (adr a k) = some (U (xs.getD k 0#64)) := by
  rw [Sl.cell h k (by simpa using hk)]
  simp [List.getD_eq_getElem?_getD, hk]
theorem SlU.nil (w : World) (a : Option Addr) : SlU w a [] := Sl.nil w a
theorem SlU.blk {w : World} {q : Option Nat} {xs : List W64} {sp : List Value} {e : TypeId} {fr : Nat × Nat} (hq : q = none → xs = []) (h : ∀ b, q = some b → w.heap[b]? = some (.cells (xs.map U ++ sp).toArray e fr)) : SlU w (q.map (fun b => ⟨b, 0, none⟩)) xs := by
  cases q with
  | none => rw [hq rfl]; exact .nil _ _
  | some b => exact Sl.blk (h b rfl)

/-! loops as folds over 0 .. n-1 -/
def upTo {σ : Type} (f : Nat → σ → σ) (s : σ) : Nat → σ
  | 0 => s
  | k + 1 => f k (upTo f s k)
theorem upTo_congr {σ : Type} {f g : Nat → σ → σ} {s : σ} : ∀ {n : Nat}, (∀ k a, k < n → f k a = g k a) → upTo f s n = upTo g s n
  | 0, _ => rfl
  | n + 1, h => by
    show f n _ = g n _
    rw [upTo_congr (fun k a hk => h k a (by omega)), h n _ (by omega)]
theorem upTo_inv {σ : Type} {f : Nat → σ → σ} {s : σ} (I : Nat → σ → Prop) (h0 : I 0 s) : ∀ {n : Nat}, (∀ k a, k < n → I k a → I (k + 1) (f k a)) → I n (upTo f s n)
  | 0, _ => h0
  | n + 1, h => h n _ (by omega) (upTo_inv I h0 (fun k a hk => h k a (by omega)))
/-- no element from the first n on -/
def anyTo (p : Nat → Bool) : Nat → Bool
  | 0 => false
  | k + 1 => anyTo p k || p k
theorem anyTo_iff {p : Nat → Bool} : ∀ {n : Nat}, anyTo p n = true ↔ ∃ k, k < n ∧ p k = true
  | 0 => by simp [anyTo]
  | n + 1 => by
    rw [anyTo, Bool.or_eq_true, anyTo_iff]
    constructor
    · rintro (⟨k, hk, hp⟩ | hp)
      · exact ⟨k, by omega, hp⟩
      · exact ⟨n, by omega, hp⟩
    · rintro ⟨k, hk, hp⟩
      by_cases e : k = n
      · subst e; exact .inr hp
      · exact .inl ⟨k, by omega, hp⟩
theorem anyTo_false {p : Nat → Bool} {n : Nat} : anyTo p n = false ↔ ∀ k, k < n → p k = false := by
  rw [← Bool.not_eq_true, anyTo_iff]
  constructor
  · intro h k hk; cases hp : p k with
    | false => rfl
    | true => exact absurd ⟨k, hk, hp⟩ h
  · rintro h ⟨k, hk, hp⟩; rw [h k hk] at hp; cases hp
theorem anyTo_at {p : Nat → Bool} {n k : Nat} (hk : k < n) (hp : p k = true) : anyTo p n = true := anyTo_iff.2 ⟨k, hk, hp⟩
theorem anyTo_succ {p : Nat → Bool} {k : Nat} (h : anyTo p k = false) (hp : p k = false) : anyTo p (k + 1) = false := by rw [anyTo, h, hp]; rfl

section
variable {P : Program} {r : Option Nat} {f : FuncId} {R : Value → World → Prop} {w0 : World} {S : List Nat} {Y : List (Nat × Obj)} {n : Nat} {k : List Item} {l : Fl} {h : Hl}
variable {ops : Array Oper} {i d : Nat} {rest : List Nat} {ty : TypeId} {pos : String} {aft : Array Edge} {g : Option (Nat × Bool)}
theorem idxA_run {t e : TypeId} {len : Nat} (hu : P.underlying t = some (.array len e)) (he : ∀ w, (sizeOf e).run P w = .ok 1 w) (b o : Nat) (kd : IntKind) (j : Nat) (hj : j < len) (w' : World) :
    (Instr.indexAt t (.pointer (some ⟨b, o, none⟩)) (.int kd j)).run P w' = .ok (.pointer (some ⟨b, o + j, none⟩)) w' := by
  simp only [Instr.indexAt, asIntOf, Sem.run_bind, Sem.run_pure, Result.andThen_ok, run_underlying hu, Instr.sureAddr]
  rw [if_pos ⟨by omega, by omega⟩]
  simp only [Sem.run_bind, he, Result.andThen_ok, Sem.run_pure, Addr.add, Nat.mul_one, Int.toNat_natCast]
  split
  · rename_i h0; rw [h0]; rfl
  · rfl
/-- the address of an element of an array -/
theorem Vop.idxA {t e : TypeId} {x y : Operand} {b o len : Nat} {kd : IntKind} {j : Int} (ho : ops[i]? = some ⟨some d, .indexAddr t x y, ty, pos, aft, g⟩) (hw : wantL ops l g = true)
    (hx : opd l x = some (.pointer (some ⟨b, o, none⟩))) (hy : opd l y = some (.int kd j)) (hd : Nat.blt d n = true) (hu : P.underlying t = some (.array len e)) (he : ∀ w, (sizeOf e).run P w = .ok 1 w)
    (j' : Nat) (hj : j = j') (hlt : j' < len) : Vop P w0 S n h ops i l d (.pointer (some ⟨b, o + j', none⟩)) := by
  subst hj
  exact .of ho hw rfl rfl hd (fun t w Ds _ hF _ => ⟨.value (.pointer (some ⟨b, o + j', none⟩)), by
    simp only [execOp, hF.opd hx, hF.opd hy, Sem.run_bind, idxA_run hu he b o kd j' hlt w]; rfl, rfl⟩)
end
/-- a block of elements of one cell each, behind them spare ones -/
abbrev ob {α : Type} (enc : α → Value) (e : TypeId) (xs : List α) (sp : List Value) : Obj := .cells (xs.map enc ++ sp).toArray e (0, 0)
section
variable {P : Program} {r : Option Nat} {f : FuncId} {R : Value → World → Prop} {w0 : World} {S : List Nat} {Y : List (Nat × Obj)} {n : Nat} {k : List Item} {l : Fl} {h : Hl}
variable {ops : Array Oper} {i d : Nat} {rest : List Nat} {ty : TypeId} {pos : String} {aft : Array Edge} {g : Option (Nat × Bool)}
theorem idxS_run {t e : TypeId} (hu : P.underlying t = some (.slice e)) {sz : Nat} (he : ∀ w, (sizeOf e).run P w = .ok sz w) (b o m cap : Nat) (kd : IntKind) (j : Nat) (hj : j < m) (w' : World) :
    (Instr.indexAt t (.slice (some ⟨b, o, none⟩) m cap) (.int kd j)).run P w' = .ok (.pointer (some ⟨b, o + j * sz, none⟩)) w' := by
  simp only [Instr.indexAt, asIntOf, Sem.run_bind, Sem.run_pure, Result.andThen_ok, run_underlying hu]
  rw [if_pos ⟨by omega, by omega⟩]
  simp only [Sem.run_bind, he, Result.andThen_ok, Sem.run_pure, Addr.add, Int.toNat_natCast]
  split
  · rename_i h0; rw [h0]; rfl
  · rfl
/-- the address of an element of a slice whose block is known -/
theorem Vop.idxS {t e : TypeId} {x y : Operand} {b o m cap : Nat} {kd : IntKind} {j : Int} (ho : ops[i]? = some ⟨some d, .indexAddr t x y, ty, pos, aft, g⟩) (hw : wantL ops l g = true)
    (hx : opd l x = some (.slice (some ⟨b, o, none⟩) m cap)) (hy : opd l y = some (.int kd j)) (hd : Nat.blt d n = true) (hu : P.underlying t = some (.slice e)) {sz : Nat} (he : ∀ w, (sizeOf e).run P w = .ok sz w)
    (j' : Nat) (hj : j = j' ∧ j' < m) : Vop P w0 S n h ops i l d (.pointer (some ⟨b, o + j' * sz, none⟩)) := by
  obtain ⟨rfl, hlt⟩ := hj
  exact .of ho hw rfl rfl hd (fun t w Ds _ hF _ => ⟨.value (.pointer (some ⟨b, o + j' * sz, none⟩)), by
    simp only [execOp, hF.opd hx, hF.opd hy, Sem.run_bind, idxS_run hu he b o m cap kd j' hlt w]; rfl, rfl⟩)
theorem ob_get {α : Type} {enc : α → Value} {xs : List α} {sp : List Value} {q : Nat} (hq : q < xs.length) : (xs.map enc ++ sp).toArray[0 + q * 1]? = some (enc xs[q]) := by
  rw [Nat.zero_add, Nat.mul_one]
  simp [List.getElem?_append, hq]
/-- an element of a block of one's own -/
theorem Vop.ldE {α : Type} (enc : α → Value) (dflt : α) {t : TypeId} {x : Operand} {b q : Nat} {xs : List α} {sp : List Value} {e : TypeId} (ho : ops[i]? = some ⟨some d, .load t x, ty, pos, aft, g⟩) (hw : wantL ops l g = true)
    (hx : opd l x = some (.pointer (some ⟨b, 0 + q * 1, none⟩))) (hd : Nat.blt d n = true) (ha : ∀ w, (isAgg t).run P w = .ok false w) (j : Nat) (hj : h[j]? = some (some b, ob enc e xs sp)) (hq : q < xs.length) :
    Vop P w0 S n h ops i l d (enc (xs.getD q dflt)) :=
  Vop.ldo ho hw hx hd ha j hj (by rw [ob_get hq]; simp [List.getD_eq_getElem?_getD, hq])
/-- a store into an element of a block of one's own -/
theorem GoH.stE {α : Type} (enc : α → Value) (v : α) {t : TypeId} {x y : Operand} {b q : Nat} {xs : List α} {sp : List Value} {e : TypeId} (ho : ops[i]? = some ⟨none, .store t x y, ty, pos, aft, g⟩) (hw : wantL ops l g = true)
    (hx : opd l x = some (.pointer (some ⟨b, 0 + q * 1, none⟩))) (hy : opd l y = some (enc v)) (hz : ∀ w, (sizeOf t).run P w = .ok 1 w) (hv : (enc v).oneCell' = true) (j : Nat) (hj : h[j]? = some (some b, ob enc e xs sp)) (hq : q < xs.length)
    (hk : GoH P r f R w0 S Y n (.inRegion ops rest :: k) l (h.set j (some b, ob enc e (xs.set q v) sp))) : GoH P r f R w0 S Y n (.inRegion ops (i :: rest) :: k) l h := by
  refine GoH.st ho hw hx hy hz hv j hj (by rw [Nat.blt_eq]; simp; omega) ?_
  have : ((xs.map enc ++ sp).toArray.setIfInBounds (0 + q * 1) (enc v)) = ((xs.set q v).map enc ++ sp).toArray := by
    rw [Nat.zero_add, Nat.mul_one, List.map_set]
    have hq2 : q < (xs.map enc).length := by simpa using hq
    simp [List.set_append_left _ _ hq2]
  rw [this]; exact hk
end
theorem St.fresh {w0 w : World} {h : Hl} {Y : List (Nat × Obj)} (s : St w0 [] w h Y) {j b : Nat} {o : Obj} (hj : h[j]? = some (some b, o)) : w0.heap.size ≤ b := by
  rcases (s.own _ (List.mem_of_getElem? hj) b rfl).2.2 with h1 | h1
  · exact h1
  · cases h1
theorem SlU.own {w0 w : World} {S : List Nat} {h : Hl} {Y : List (Nat × Obj)} (s : St w0 S w h Y) {j b : Nat} {e : TypeId} {xs : List W64} {sp : List Value} (hj : h[j]? = some (some b, ob U e xs sp)) : SlU w (some ⟨b, 0, none⟩) xs := Sl.blk (s.get hj)
section
variable {P : Program} {r : Option Nat} {f : FuncId} {R : Value → World → Prop} {w0 : World} {S : List Nat} {Y : List (Nat × Obj)} {n : Nat} {k : List Item} {l : Fl} {h : Hl}
variable {ops : Array Oper} {i d : Nat} {rest : List Nat} {ty : TypeId} {pos : String} {aft : Array Edge} {g : Option (Nat × Bool)}
/-- make([]T, m): m zero elements -/
theorem GoH.mkE {α : Type} (enc : α → Value) (z : α) {t e : TypeId} {x y : Operand} {kx ky : IntKind} {m : Nat} {inf : TypeInfo} (ho : ops[i]? = some ⟨some d, .makeSlice t x y, ty, pos, aft, g⟩) (hw : wantL ops l g = true) (hx : opd l x = some (.int kx m)) (hy : opd l y = some (.int ky m)) (hd : Nat.blt d n = true)
    (hu : P.underlying t = some (.slice e)) (hi : P.info? e = some inf) (hz : inf.zero = some (enc z)) (hz1 : (enc z).cells = #[enc z]) (hs : inf.size = 1) (hb : inf.bytes * m ≤ 281474976710656) (hm : m ≤ maxLen)
    (hk : ∀ b, GoH P r f R w0 S Y n (.inRegion ops rest :: k) ((d, .slice (some ⟨b, 0, none⟩) m m) :: l) ((some b, ob enc e (List.replicate m z) []) :: h)) : GoH P r f R w0 S Y n (.inRegion ops (i :: rest) :: k) l h :=
  .mks ho hw hx hy hd hu hi hz hz1 hs hb hm (fun b => by
    have := hk b
    simp only [ob, List.map_replicate] at this
    exact this)
/-- append(out, x ..) of elements of one cell -/
theorem GoH.appE {α : Type} (enc : α → Value) {t e : TypeId} {x y : Operand} {inf : TypeInfo} {z : Value} {q : Option Nat} {xs : List α} {sp : List Value} {cap : Nat} {bn m c : Nat} {news : List α} {spn : List Value} {en : TypeId}
    (ho : ops[i]? = some ⟨some d, .call ⟨.builtin .append, #[x, y], #[t, t]⟩, ty, pos, aft, g⟩) (hw : wantL ops l g = true) (hx : opd l x = some (osv q xs.length cap)) (hy : opd l y = some (.slice (some ⟨bn, 0, none⟩) m c)) (hd : Nat.blt d n = true)
    (hu : P.underlying t = some (.slice e)) (hi : P.info? e = some inf) (hz : inf.zero = some z) (hsz : inf.size = 1) (hz1 : z.cells.size = 1)
    (hq : q = none → xs.length = 0 ∧ cap = 0) (j : Nat) (hj : h[j]? = some (q, ob enc e xs sp)) (jn : Nat) (hjn : h[jn]? = some (some bn, ob enc en news spn))
    (hcap : (xs.map enc ++ sp).length = cap) (hl : news.length = m) (hm0 : 0 < m) (h1 : ∀ u, (enc u).oneCell' = true) (hmx : xs.length + m ≤ maxLen) (hbytes : (xs.length + m) * inf.bytes ≤ 140737488355328)
    (hk : ∀ b' sp' cap', ((xs ++ news).map enc ++ sp').length = cap' → GoH P r f R w0 S Y n (.inRegion ops rest :: k) ((d, osv (some b') (xs ++ news).length cap') :: l) (h.set j (some b', ob enc e (xs ++ news) sp'))) : GoH P r f R w0 S Y n (.inRegion ops (i :: rest) :: k) l h := by
  refine .app 1 ho hw hx hy hd hu hi hz hsz hz1 hq j hj jn hjn (by simp) (by rw [hcap, Nat.mul_one]) (by simp [hl]) hm0 (fun u hu => ?_) hmx hbytes (fun b' sp' cap' hlen => ?_)
  · obtain ⟨a, _, rfl⟩ := List.mem_map.1 hu; exact h1 a
  · have e1 : xs.map enc ++ news.map enc = (xs ++ news).map enc := by simp
    have e2 : xs.length + m = (xs ++ news).length := by simp [hl]
    rw [e1, e2]
    exact hk b' sp' cap' (by rw [← e1, hlen, Nat.mul_one])
end
section
variable {P : Program} {r : Option Nat} {f : FuncId} {R : Value → World → Prop} {w0 : World} {S : List Nat} {Y : List (Nat × Obj)} {n : Nat} {k : List Item} {l : Fl} {h : Hl}
variable {ops : Array Oper} {i d : Nat} {rest : List Nat} {ty : TypeId} {pos : String} {aft : Array Edge} {g : Option (Nat × Bool)}
/-- append(out, xs...), xs read -/
theorem GoH.appS {α : Type} (enc : α → Value) {t e : TypeId} {x y : Operand} {inf : TypeInfo} {z : Value} {q : Option Nat} {xs : List α} {sp : List Value} {cap : Nat} {an : Option Addr} {m c : Nat} (news : List α)
    (ho : ops[i]? = some ⟨some d, .call ⟨.builtin .append, #[x, y], #[t, t]⟩, ty, pos, aft, g⟩) (hw : wantL ops l g = true) (hx : opd l x = some (osv q xs.length cap)) (hy : opd l y = some (.slice an m c)) (hd : Nat.blt d n = true)
    (hu : P.underlying t = some (.slice e)) (hi : P.info? e = some inf) (hz : inf.zero = some z) (hsz : inf.size = 1) (hz1 : z.cells.size = 1)
    (hq : q = none → xs.length = 0 ∧ cap = 0) (j : Nat) (hj : h[j]? = some (q, ob enc e xs sp)) (hsl : ∀ w Y', St w0 S w h Y' → Sl w an (news.map enc))
    (hcap : (xs.map enc ++ sp).length = cap) (hl : m = news.length) (hm0 : 0 < m) (h1 : ∀ u, (enc u).oneCell' = true) (hmx : xs.length + m ≤ maxLen) (hbytes : (xs.length + m) * inf.bytes ≤ 140737488355328)
    (hk : ∀ b' sp' cap', ((xs ++ news).map enc ++ sp').length = cap' → GoH P r f R w0 S Y n (.inRegion ops rest :: k) ((d, osv (some b') (xs ++ news).length cap') :: l) (h.set j (some b', ob enc e (xs ++ news) sp'))) : GoH P r f R w0 S Y n (.inRegion ops (i :: rest) :: k) l h :=
  .mem ho hw rfl rfl hd (fun t' w Ds Y' hF hS => by
    have hs := hsl w Y' hS
    obtain ⟨bn, o, rfl, _⟩ := hs.isSome (by simp; omega)
    have hnews : ∀ j u, (news.map enc)[j]? = some u → w.cell? ((⟨bn, o, none⟩ : Addr).add j) = some u := by
      intro j u hv
      have hjl := (List.getElem?_eq_some_iff.1 hv).1
      have e1 : (⟨bn, o, none⟩ : Addr).add j = adr (some ⟨bn, o, none⟩) j := by
        unfold Addr.add adr; split
        · rename_i h0; rw [h0]; rfl
        · rfl
      rw [e1, hs.cell j hjl]
      rw [List.getD_eq_getElem?_getD, hv]; rfl
    subst hl
    obtain ⟨b', sp', cap', w', hrun, hlen, hS'⟩ := app_run hu hi hz hsz hz1 hS (xs := xs.map enc) (nx := xs.length) (by simp) (by rw [hcap, Nat.mul_one]) hq hj (c := c) (m := news.length) (news := news.map enc) (by simp) hm0 hnews (fun u hu => by obtain ⟨a, _, rfl⟩ := List.mem_map.1 hu; exact h1 a) hmx hbytes ty
    have e2 : xs.map enc ++ news.map enc = (xs ++ news).map enc := by simp
    have e3 : xs.length + news.length = (xs ++ news).length := by simp
    rw [e2] at hlen hS'
    rw [e3] at hrun
    refine ⟨_, w', _, ?_, hS', hk b' sp' cap' (by rw [hlen, Nat.mul_one])⟩
    have e1 : (#[x, y] : Array Operand).map (Act.eval ⟨t', Ds.map mark⟩) = #[osv q xs.length cap, .slice (some ⟨bn, o, none⟩) news.length c] := by simp [hF.opd hx, hF.opd hy]
    simp only [execOp, resolve, e1, Sem.run_bind, Sem.run_pure, Result.andThen_ok, invoke, builtin, hrun])
/-- nothing is appended -/
theorem blt_app0 {t e : TypeId} {inf : TypeInfo} (hu : P.underlying t = some (.slice e)) (hi : P.info? e = some inf) {a b : Option Addr} {m cap c : Nat} (hm : m ≤ cap) : Blt P .append #[t, t] ty [.slice a m cap, .slice b 0 c] (.slice a m cap) := by
  intro cs w
  have hf : (Builtin.firstCells inf.size 0 (.slice b 0 c)).run P w = .ok #[] w := by
    cases b <;> simp [Builtin.firstCells, loadCells, loadCellsFrom]
  have hin : P.underlying t ≠ some (.int .i64) := by rw [hu]; simp
  simp only [builtin, Builtin.append_]
  cases a <;> simp [run_underlying hu, sizeOf, typeInfo, hi, Builtin.lenOf, hm, hf, storeCells]
/-- []T{}: a new block without elements -/
theorem GoH.bs0 {α : Type} (enc : α → Value) {t e : TypeId} {inf : TypeInfo} (ho : ops[i]? = some ⟨some d, .buildSlice t 0 #[], ty, pos, aft, g⟩) (hw : wantL ops l g = true) (hd : Nat.blt d n = true)
    (hu : P.underlying t = some (.slice e)) (hi : P.info? e = some inf)
    (hk : ∀ b, GoH P r f R w0 S Y n (.inRegion ops rest :: k) ((d, osv (some b) ([] : List α).length 0) :: l) ((some b, ob enc e [] []) :: h)) : GoH P r f R w0 S Y n (.inRegion ops (i :: rest) :: k) l h :=
  .mem ho hw rfl rfl hd (fun t' w Ds _ hF hS => ⟨.slice (some ⟨w.heap.size, 0, none⟩) 0 0, w.alloc (.cells #[] e), _, by
    simp [execOp, Instr.buildSlice, run_underlying hu, sizeOf, typeInfo, hi, Instr.fill, newRow]
    rw [show Array.range 0 = #[] from by decide]; simp, hS.alloc rfl, hk _⟩)
theorem bSlNil {t e : TypeId} (hu : P.underlying t = some (.slice e)) {a : Option Addr} {m c m' c' : Nat} : Bin P .eql t (.slice a m c) (.slice none m' c') (.bool a.isNone) := by
  intro x y w
  have h0 : eqGuard .eql t x y (.slice a m c) (.slice none m' c') = pure () := by unfold eqGuard; rfl
  rw [h0]
  have h1 : ∀ dd, (Op.equalIn (dd + 1) t (.slice a m c) (.slice none m' c')).run P w = .ok a.isNone w := by
    intro dd
    simp only [Op.equalIn, Sem.run_bind, run_underlying hu, Result.andThen_ok]
    cases a <;> rfl
  show (do pure (Value.bool (← Op.equal t (.slice a m c) (.slice none m' c'))) : Sem Value).run P w = _
  rw [Sem.run_bind, show (Op.equal t (.slice a m c) (.slice none m' c')).run P w = _ from h1 9999]; rfl
end
/-- the table of math/bits, as it lies in block 0 -/
def TabAt (g : Nat) (w : World) : Prop := g < w.heap.size ∧ ∀ i : Nat, i < 64 → w.cell? ⟨g, i, none⟩ = some (.int .u8 (dbtab.getD i 0))
theorem TabAt.ex {g : Nat} {w0 w : World} {S : List Nat} (h : TabAt g w0) (e : Ex S w0 w) (hS : g ∉ S := by simp) : TabAt g w :=
  ⟨Nat.lt_of_lt_of_le h.1 e.size, fun i hi => by rw [← h.2 i hi]; exact World.cell?_of_block (e.block g h.1 hS)⟩
theorem pts_drop {s0 s : W64} {i : Nat} (h : (pts s0).drop i = pts s) (hs : s ≠ 0#64) : (pts s0)[i]? = some (tz s) ∧ (pts s0).drop (i + 1) = pts (s &&& (s - 1#64)) := by
  rw [pts_cons hs] at h
  refine ⟨?_, ?_⟩
  · have := congrArg (fun l => l[0]?) h
    simpa using this
  · rw [← List.drop_drop, h]; rfl
theorem and_sub_lt {s : W64} (hs : s ≠ 0#64) : (s &&& (s - 1#64)).toNat < s.toNat := by
  have h1 : (s &&& (s - 1#64)).toNat ≤ (s - 1#64).toNat := by rw [BitVec.toNat_and]; exact Nat.and_le_right
  have h2 : s.toNat ≠ 0 := fun e => hs (BitVec.eq_of_toNat_eq (by simpa using e))
  have h3 : (s - 1#64).toNat < s.toNat := by rw [BitVec.toNat_sub]; have := s.isLt; simp; omega
  omega
end Go.Proofs.Wit
