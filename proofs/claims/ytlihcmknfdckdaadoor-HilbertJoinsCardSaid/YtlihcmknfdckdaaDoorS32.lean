/- Laws of walks, for any program, under the conditions that each theorem states. -/
import Derived.Test.YtlihcmknfdckdaaDoorS28
import Derived.Test.YtlihcmknfdckdaaDoorS21
import Derived.LaidMore
import Derived.Stop.Joined
namespace Go.Proofs.Wit
open Go Go.RowKit Go.ChangeShapes Go.WideShapes Go.ChangeAt Go.Deep Go.Joins
/-! a table of functions; an argument that is a list of lines -/
instance : Inhabited LV := ⟨⟨⟨none, 0, []⟩, 0, 0, 0, 0⟩⟩
section
variable {H : Type} {enc : TypeId × Value → H} {P : Program}
theorem funcs_cells {W : World} {t e : TypeId} {ps rs : Array TypeId} {va : Bool} {n fuel : Nat} {cs : List Value} {D : List (DataW H)} {p : List MemPlace} (ht : P.underlying t = some (.array n e)) (ce : P.cellsOf e = 1) (he : P.underlying e = some (.func ps rs va))
  (h : DataW.trod enc P W 0 (fun _ => true) true fuel t cs = some (.agg D, p)) : ∀ (r : Nat) (d : DataW H), D[r]? = some d → ∃ v q, cs[r]? = some v ∧ ∃ m, DataW.trod enc P W 0 (fun _ => true) true m e [v] = some (d, q) := by
 obtain ⟨xs, m, _, ex, _, hl, hel⟩ := DataW.trod_array ht h
 have e3 : (xs.map (·.1)) = D := (DataW.agg.inj (Prod.mk.inj ex).1).symm
 intro r d hr
 have hD : D.length = xs.length := by rw [← e3, List.length_map]
 have hrx : r < xs.length := by rw [← hD]; exact (List.getElem?_eq_some_iff.1 hr).1
 have hE := hel r (by omega)
 rw [ce, Nat.mul_one, List.getElem?_eq_getElem hrx] at hE
 have hx1 : xs[r].1 = d := by
  rw [← e3, List.getElem?_map, List.getElem?_eq_getElem hrx] at hr
  exact Option.some.inj hr
 generalize hL : (cs.drop r).take 1 = L at hE
 have hLl : L.length ≤ 1 := by rw [← hL]; exact List.length_take_le _ _
 match L, hLl with
 | [], _ =>
  exfalso
  cases m with
  | zero => simp [DataW.trod] at hE
  | succ k => simp [DataW.trod, he] at hE
 | [v], _ =>
  refine ⟨v, xs[r].2, ?_, m, ?_⟩
  ·have h0 : ((cs.drop r).take 1)[0]? = some v := by rw [hL]; rfl
   simpa using h0
  ·rw [hE, ← hx1]
theorem open_lines {W : World} {t e sn : TypeId} {g0 g1 g2 g3 g4 : Field} (ht : P.underlying t = some (.slice e)) (he : P.underlying e = some (.struct #[g0, g1, g2, g3, g4])) (hone : oneCellFields P #[g0, g1, g2, g3, g4] = true) (ce : P.cellsOf e = 5)
  (j1 : P.underlying g1.type = some (.int .i64)) (j2 : P.underlying g2.type = some (.int .i64)) (j3 : P.underlying g3.type = some (.int .i64)) (j4 : P.underlying g4.type = some (.int .i64)) (j0 : P.underlying g0.type = some (.slice sn))
  {f0 f1 f2 f3 f4 f5 : Field} (hs : P.underlying sn = some (.struct #[f0, f1, f2, f3, f4, f5])) (hones : oneCellFields P #[f0, f1, f2, f3, f4, f5] = true) (csn : P.cellsOf sn = 6)
  (i0 : P.underlying f0.type = some (.int .i64)) (i1 : P.underlying f1.type = some (.int .i64)) (i2 : P.underlying f2.type = some (.int .i64)) (i3 : P.underlying f3.type = some (.int .i64)) (i4 : P.underlying f4.type = some (.int .i64)) (i5 : P.underlying f5.type = some (.int .i64))
  {v : Value} {d : DataW H} {ps : List MemPlace} (h : DataW.Trod enc P W 0 (fun _ => true) true t v d ps) {r : Reach} {b0 : Nat} (hok : Value.okWide P W r b0 t v) : ∃ (a : Option Addr) (ls : List LV) (cap : Nat), v = .slice a ls.length cap ∧ LA W a ls ∧ ls.length ≤ maxLen ∧ ls.length ≤ cap := by
 obtain ⟨fuel, hf⟩ := h
 obtain ⟨a', n', c', rfl⟩ := okWide_slice ht hok
 have hf2 : DataW.trod enc P W 0 (fun _ => true) true fuel t [.slice a' n' c'] = some (d, ps) := by simpa [Value.cells] using hf
 rcases open_slice ht hf2 with ⟨e1, _⟩ | ⟨a, len, cap, m, n, D, Pl, e1, hb, hl, hm, hmm, _, hx⟩
 ·simp only [List.cons.injEq, and_true] at e1
  rw [e1]
  exact ⟨none, [], 0, rfl, ⟨Sl.nil _ _, fun _ h => by cases h⟩, Nat.zero_le _, Nat.le_refl _⟩
 have hm' : m = cap := by rw [hmm]; rfl
 simp only [List.cons.injEq, and_true] at e1
 rw [e1]
 have each : ∀ i, i < m → ∃ x : LV, (∀ j, j < 5 → W.cell? (a.add (i * 5 + j)) = some ((LV.cells x).getD j undef)) ∧ FA W x.f.a x.f.f ∧ x.f.f.length ≤ maxLen := by
  intro i hi
  obtain ⟨cs', h1, h2⟩ := hx i hi
  rw [ce] at h1
  obtain ⟨_, hlen, hcell⟩ := World.cells?_some h1
  obtain ⟨xs, k, _, _, _, hxl, hf⟩ := DataW.trod_struct he h2
  have gg : ∀ (j : Nat) (fj : Field) (c : Value), #[g0, g1, g2, g3, g4][j]? = some fj → cs'[j]? = some c → ∃ y, DataW.trod enc P W 0 (fun _ => true) true k fj.type [c] = some y := fun j fj c hj hc => by
   obtain ⟨oj, kj⟩ := hone_of hone j fj hj
   have hjl := (Array.getElem?_eq_some_iff.1 hj).1
   have := hf j fj hj
   rw [oj, kj, take1_drop cs' j undef (by rw [hlen]; exact hjl)] at this
   rw [show cs'.getD j undef = c from by rw [List.getD_eq_getElem?_getD, hc]; rfl] at this
   have hjx : j < xs.length := by rw [hxl]; exact hjl
   rw [List.getElem?_eq_getElem hjx] at this
   exact ⟨_, this⟩
  have g : ∀ (j : Nat) (fj : Field) (c : Value), #[g0, g1, g2, g3, g4][j]? = some fj → P.underlying fj.type = some (.int .i64) → cs'[j]? = some c → ∃ z : Int, c = .int .i64 z := fun j fj c hj hi hc => by
   obtain ⟨y, this⟩ := gg j fj c hj hc
   obtain ⟨z, hz, _⟩ := DataW.trod_int hi this
   simp only [List.cons.injEq, and_true] at hz
   exact ⟨z, hz⟩
  match cs', hlen with
  | [c0, c1, c2, c3, c4], _ =>
   obtain ⟨y, hy⟩ := gg 0 _ c0 rfl rfl
   obtain ⟨fa, fl, fc, ef, hfa, hfm, _⟩ := open_nodes' j0 hs hones csn i0 i1 i2 i3 i4 i5 hy
   simp only [List.cons.injEq, and_true] at ef
   obtain ⟨z1, rfl⟩ := g 1 _ c1 rfl j1 rfl
   obtain ⟨z2, rfl⟩ := g 2 _ c2 rfl j2 rfl
   obtain ⟨z3, rfl⟩ := g 3 _ c3 rfl j3 rfl
   obtain ⟨z4, rfl⟩ := g 4 _ c4 rfl j4 rfl
   refine ⟨⟨⟨fa, fc, fl⟩, z1, z2, z3, z4⟩, fun j hj => ?_, hfa, hfm⟩
   have := hcell j hj
   rw [Go.Deep.add_add] at this
   rw [this, ef]
   have : j = 0 ∨ j = 1 ∨ j = 2 ∨ j = 3 ∨ j = 4 := by omega
   rcases this with rfl | rfl | rfl | rfl | rfl <;> rfl
 obtain ⟨V, hV⟩ := choose_lt each
 have hfl : ((List.range len).map V).length = len := by simp
 refine ⟨some a, (List.range len).map V, cap, by rw [hfl], ⟨sl_of (fun q hq => ?_), fun x hx => ?_⟩, by rw [hfl]; omega, by rw [hfl]; exact hl⟩
 ·rw [flat_len (enc := LV.cells) (sz := 5) (fun _ => rfl), hfl] at hq
  have hi : q / 5 < len := by omega
  have := (hV (q / 5) (by omega)).1 (q % 5) (by omega)
  rw [show q / 5 * 5 + q % 5 = q from by omega] at this
  rw [this]
  have hg := flat_get (enc := LV.cells) (sz := 5) (fun _ => rfl) (xs := (List.range len).map V) (j := q / 5) (by rw [hfl]; exact hi) (i := q % 5) (by omega)
  rw [show q / 5 * 5 + q % 5 = q from by omega] at hg
  rw [List.getD_eq_getElem?_getD, List.getD_eq_getElem?_getD, hg]
  simp
 ·obtain ⟨i, hi, rfl⟩ := List.mem_map.1 hx
  rw [List.mem_range] at hi
  exact (hV i (by omega)).2
end
end Go.Proofs.Wit
