/- Laws of walks, for any program, under the conditions that each theorem states. -/
import Derived.Test.YthojdcaojjmoaaaDoorA14
import Derived.Test.YthojdcaojjmoaaaDoorA23
import Derived.Deep.Slices
namespace Go.Proofs.Wit
open Go Go.RowKit Go.ChangeShapes Go.WideShapes Go.ChangeAt Go.Deep Go.Joins
section
variable {H : Type} {enc : TypeId × Value → H} {P : Program}
instance : Inhabited NV := ⟨nv0⟩
/-- a list of nodes, at whatever depth -/
theorem open_nodes' {W : World} {t e : TypeId} {f0 f1 f2 f3 f4 f5 : Field} (ht : P.underlying t = some (.slice e)) (he : P.underlying e = some (.struct #[f0, f1, f2, f3, f4, f5])) (hone : oneCellFields P #[f0, f1, f2, f3, f4, f5] = true) (ce : P.cellsOf e = 6)
    (i0 : P.underlying f0.type = some (.int .i64)) (i1 : P.underlying f1.type = some (.int .i64)) (i2 : P.underlying f2.type = some (.int .i64)) (i3 : P.underlying f3.type = some (.int .i64)) (i4 : P.underlying f4.type = some (.int .i64)) (i5 : P.underlying f5.type = some (.int .i64))
    {cs : List Value} {fuel : Nat} {x : DataW H × List MemPlace} (h : DataW.trod enc P W 0 (fun _ => true) true fuel t cs = some x) : ∃ (a : Option Addr) (f : List NV) (cap : Nat), cs = [.slice a f.length cap] ∧ FA W a f ∧ f.length ≤ maxLen ∧ f.length ≤ cap := by
  rcases open_slice ht h with ⟨rfl, _⟩ | ⟨a, len, cap, m, n, D, Pl, rfl, hb, hl, hm, hmm, _, hx⟩
  · exact ⟨none, [], 0, rfl, ⟨Sl.nil _ _⟩, Nat.zero_le _, Nat.le_refl _⟩
  have hm' : m = cap := by rw [hmm]; rfl
  have each : ∀ i, i < m → ∃ v : NV, ∀ j, j < 6 → W.cell? (a.add (i * 6 + j)) = some ((NV.cells v).getD j undef) := by
    intro i hi
    obtain ⟨cs', h1, h2⟩ := hx i hi
    rw [ce] at h1
    obtain ⟨_, hlen, hcell⟩ := World.cells?_some h1
    obtain ⟨xs, k, _, _, _, hxl, hf⟩ := DataW.trod_struct he h2
    have g : ∀ (j : Nat) (fj : Field) (c : Value), #[f0, f1, f2, f3, f4, f5][j]? = some fj → P.underlying fj.type = some (.int .i64) → cs'[j]? = some c → ∃ z : Int, c = .int .i64 z := fun j fj c hj hi hc => by
      obtain ⟨oj, kj⟩ := hone_of hone j fj hj
      have hjl := (Array.getElem?_eq_some_iff.1 hj).1
      have := hf j fj hj
      rw [oj, kj, take1_drop cs' j undef (by rw [hlen]; exact hjl)] at this
      rw [show cs'.getD j undef = c from by rw [List.getD_eq_getElem?_getD, hc]; rfl] at this
      have hjx : j < xs.length := by rw [hxl]; exact hjl
      rw [List.getElem?_eq_getElem hjx] at this
      obtain ⟨z, hz, _⟩ := DataW.trod_int hi this
      simp only [List.cons.injEq, and_true] at hz
      exact ⟨z, hz⟩
    match cs', hlen with
    | [c0, c1, c2, c3, c4, c5], _ =>
      obtain ⟨z0, rfl⟩ := g 0 f0 c0 rfl i0 rfl
      obtain ⟨z1, rfl⟩ := g 1 f1 c1 rfl i1 rfl
      obtain ⟨z2, rfl⟩ := g 2 f2 c2 rfl i2 rfl
      obtain ⟨z3, rfl⟩ := g 3 f3 c3 rfl i3 rfl
      obtain ⟨z4, rfl⟩ := g 4 f4 c4 rfl i4 rfl
      obtain ⟨z5, rfl⟩ := g 5 f5 c5 rfl i5 rfl
      refine ⟨⟨z0, z1, z2, z3, z4, z5⟩, fun j hj => ?_⟩
      have := hcell j hj
      rw [Go.Deep.add_add] at this
      rw [this]
      have : j = 0 ∨ j = 1 ∨ j = 2 ∨ j = 3 ∨ j = 4 ∨ j = 5 := by omega
      rcases this with rfl | rfl | rfl | rfl | rfl | rfl <;> rfl
  obtain ⟨V, hV⟩ := choose_lt each
  have hfl : ((List.range len).map V).length = len := by simp
  refine ⟨some a, (List.range len).map V, cap, by rw [hfl], ⟨sl_of (fun q hq => ?_)⟩, by rw [hfl]; omega, by rw [hfl]; exact hl⟩
  rw [flatN, hfl] at hq
  have hi : q / 6 < len := by omega
  have := hV (q / 6) (by omega) (q % 6) (by omega)
  rw [show q / 6 * 6 + q % 6 = q from by omega] at this
  rw [this]
  have hg := flat_get (enc := NV.cells) (sz := 6) (fun _ => rfl) (xs := (List.range len).map V) (j := q / 6) (by rw [hfl]; exact hi) (i := q % 6) (by omega)
  rw [show q / 6 * 6 + q % 6 = q from by omega] at hg
  rw [List.getD_eq_getElem?_getD, List.getD_eq_getElem?_getD, hg]
  simp
/-- an argument that is a list of nodes -/
theorem open_nodes {W : World} {t e : TypeId} {f0 f1 f2 f3 f4 f5 : Field} (ht : P.underlying t = some (.slice e)) (he : P.underlying e = some (.struct #[f0, f1, f2, f3, f4, f5])) (hone : oneCellFields P #[f0, f1, f2, f3, f4, f5] = true) (ce : P.cellsOf e = 6)
    (i0 : P.underlying f0.type = some (.int .i64)) (i1 : P.underlying f1.type = some (.int .i64)) (i2 : P.underlying f2.type = some (.int .i64)) (i3 : P.underlying f3.type = some (.int .i64)) (i4 : P.underlying f4.type = some (.int .i64)) (i5 : P.underlying f5.type = some (.int .i64))
    {v : Value} {d : DataW H} {ps : List MemPlace} (h : DataW.Trod enc P W 0 (fun _ => true) true t v d ps) {r : Reach} {b0 : Nat} (hok : Value.okWide P W r b0 t v) : ∃ (a : Option Addr) (f : List NV) (cap : Nat), v = .slice a f.length cap ∧ FA W a f ∧ f.length ≤ maxLen ∧ f.length ≤ cap := by
  obtain ⟨fuel, hf⟩ := h
  obtain ⟨a', n', c', rfl⟩ := okWide_slice ht hok
  obtain ⟨a, f, cap, e1, h1, h2, h3⟩ := open_nodes' ht he hone ce i0 i1 i2 i3 i4 i5 hf
  refine ⟨a, f, cap, ?_, h1, h2, h3⟩
  simpa [Value.cells] using e1
end
end Go.Proofs.Wit
