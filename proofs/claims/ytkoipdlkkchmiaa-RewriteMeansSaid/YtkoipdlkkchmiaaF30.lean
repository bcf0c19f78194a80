/- Laws of walks, for any program, under the conditions that each theorem states. -/
import Derived.Test.YtkoipdlkkchmiaaF02
import Derived.ChangeSame
import Derived.ChangeVars
import Derived.JoinedOf
import Derived.RowKit
import Derived.ProofKit
import Derived.OpenShut
import Derived.LaidMore
import Derived.Lay
import Derived.Carry
import Derived.SevenTiedAt
import Derived.Stop.Joined
import Derived.Deep.Matrix
import Derived.Lib.SmallJoins
import Derived.Test.YtkoipdlkkchmiaaF12
import Derived.Deep.Slices
namespace Go.Proofs.Wit
open Go Go.RowKit Go.ChangeShapes Go.WideShapes Go.ChangeAt
/-! from a law's contract to its row -/
section
variable {H : Type} {enc : TypeId × Value → H} {P : Program}
/-- what was read stays -/
theorem trodAll_stays (hl : laidOutB P = true) {W W' : World} (hb : Below W.heap.size W W') : ∀ {ts : List TypeId} {vs : List Value} {ds : List (DataW H)} {ps : List MemPlace}, ts.all (fun t => P.readableRec t && decide (t < P.types.size)) = true →
    DataW.TrodAll enc P W 0 (fun _ => true) true ts vs ds ps → (∀ x ∈ ps, x.block < W.heap.size) → DataW.TrodAll enc P W' 0 (fun b => decide (b < W.heap.size)) true ts vs ds ps
  | [], _, _, _, _, h, _ => by
    obtain ⟨rfl, rfl, rfl⟩ := trodAll_nil h
    exact rfl
  | t :: ts, _, _, _, hr, h, hlt => by
    obtain ⟨v, vs1, d, ds1, a, b, rfl, rfl, rfl, h1, h2⟩ := trodAll_cons h
    rw [List.all_cons, Bool.and_eq_true, Bool.and_eq_true, decide_eq_true_eq] at hr
    exact trodAll_cons_mk (Below.trod hl hr.1.1 hr.1.2 h1 hb (fun x hx => hlt x (by simp [hx]))) (trodAll_stays hl hb hr.2 h2 (fun x hx => hlt x (by simp [hx])))
theorem adr_add (a : Addr) (i : Nat) (h : a.spot = none) : a.add i = adr (some a) i := by
  obtain ⟨b, o, s⟩ := a
  simp only at h; subst h
  unfold Addr.add adr; split
  · rename_i h0; rw [h0]; rfl
  · rfl
end
end Go.Proofs.Wit
namespace Go.Proofs.Wit
open Go Go.RowKit Go.ChangeShapes Go.WideShapes Go.ChangeAt Go.Deep Go.Joins
/-! arguments of more kinds, opened -/
theorem cell_lt {w : World} {a : Addr} {v : Value} (h : w.cell? a = some v) : a.block < w.heap.size := by
  unfold World.cell? at h
  split at h
  · rename_i hb; exact (Array.getElem?_eq_some_iff.1 hb).1
  · cases h
theorem spot_of {w : World} {a : Addr} {v : Value} (h : w.cell? (a.add 0) = some v) : a.spot = none := by
  unfold World.cell? at h
  split at h
  · split at h
    · cases h
    · rename_i hs
      have e0 : a.add 0 = a := by unfold Addr.add; simp
      rw [e0] at hs
      simpa using hs
  · cases h
/-- a list whose cells are known, at an address -/
theorem sl_of {w : World} {a : Addr} {xs : List Value} (h : ∀ i, i < xs.length → w.cell? (a.add i) = some (xs.getD i undef)) : Sl w (some a) xs := by
  refine ⟨fun h0 => ?_, fun i hi => ?_⟩
  · have hs := spot_of (h 0 h0)
    have hb := cell_lt (h 0 h0)
    obtain ⟨b, o, s⟩ := a
    simp only at hs; subst hs
    refine ⟨b, o, rfl, ?_⟩
    rw [addr_off] at hb; exact hb
  · have hs := spot_of (h 0 (by omega))
    rw [← adr_add a i hs]; exact h i hi
section
variable {H : Type} {enc : TypeId × Value → H} {P : Program}
end
end Go.Proofs.Wit
namespace Go.Proofs.Wit
open Go Go.RowKit Go.ChangeShapes Go.WideShapes Go.ChangeAt Go.Deep Go.Joins
section
variable {H : Type} {enc : TypeId × Value → H} {P : Program}
theorem okWide_array {w : World} {r : Reach} {base : Nat} {t e : TypeId} {v : Value} {n : Nat} (ht : P.underlying t = some (.array n e)) (h : Value.okWide P w r base t v) : ∃ cs, v = .agg cs ∧ cs.size = P.cellsOf t := by
  simp only [Value.okWide, ht] at h
  cases v <;> simp_all
instance : Inhabited NV := ⟨nv0⟩
/-- a list of nodes, at whatever depth -/
theorem open_nodes' {W : World} {t e : TypeId} {f0 f1 f2 f3 f4 f5 : Field} (ht : P.underlying t = some (.slice e)) (he : P.underlying e = some (.struct #[f0, f1, f2, f3, f4, f5])) (hone : oneCellFields P #[f0, f1, f2, f3, f4, f5] = true) (ce : P.cellsOf e = 6)
    (i0 : P.underlying f0.type = some (.int .i64)) (i1 : P.underlying f1.type = some (.int .i64)) (i2 : P.underlying f2.type = some (.int .i64)) (i3 : P.underlying f3.type = some (.int .i64)) (i4 : P.underlying f4.type = some (.int .i64)) (i5 : P.underlying f5.type = some (.int .i64))
    {cs : List Value} {fuel : Nat} {x : DataW H × List MemPlace} (h : DataW.trod enc P W 0 (fun _ => true) true fuel t cs = some x) : ∃ (a : Option Addr) (f : List NV) (cap : Nat), cs = [.slice a f.length cap] ∧ FA W a f ∧ f.length ≤ maxLen ∧ f.length ≤ cap := by
  rcases open_slice ht h with ⟨rfl, _⟩ | ⟨a, len, cap, m, n, D, Pl, rfl, hb, hl, hm, hmm, _, hx⟩
  · exact ⟨none, [], 0, rfl, ⟨Sl.nil _ _⟩, Nat.zero_le _, Nat.le_refl _⟩
  have hm' : m = cap := by rw [hmm]; rfl
  have each : ∀ i, i < m → ∃ v : NV, ∀ j, j < 6 → W.cell? (a.add (i * 6 + j)) = some ((NV.cells v).getD j undef) := by
    intro i hi
    obtain ⟨cs', h1, h2⟩ := hx i hi
    rw [ce] at h1
    obtain ⟨_, hlen, hcell⟩ := World.cells?_some h1
    obtain ⟨xs, k, _, _, _, hxl, hf⟩ := DataW.trod_struct he h2
    have g : ∀ (j : Nat) (fj : Field) (c : Value), #[f0, f1, f2, f3, f4, f5][j]? = some fj → P.underlying fj.type = some (.int .i64) → cs'[j]? = some c → ∃ z : Int, c = .int .i64 z := fun j fj c hj hi hc => by
      obtain ⟨oj, kj⟩ := hone_of hone j fj hj
      have hjl := (Array.getElem?_eq_some_iff.1 hj).1
      have := hf j fj hj
      rw [oj, kj, take1_drop cs' j undef (by rw [hlen]; exact hjl)] at this
      rw [show cs'.getD j undef = c from by rw [List.getD_eq_getElem?_getD, hc]; rfl] at this
      have hjx : j < xs.length := by rw [hxl]; exact hjl
      rw [List.getElem?_eq_getElem hjx] at this
      obtain ⟨z, hz, _⟩ := DataW.trod_int hi this
      simp only [List.cons.injEq, and_true] at hz
      exact ⟨z, hz⟩
    match cs', hlen with
    | [c0, c1, c2, c3, c4, c5], _ =>
      obtain ⟨z0, rfl⟩ := g 0 f0 c0 rfl i0 rfl
      obtain ⟨z1, rfl⟩ := g 1 f1 c1 rfl i1 rfl
      obtain ⟨z2, rfl⟩ := g 2 f2 c2 rfl i2 rfl
      obtain ⟨z3, rfl⟩ := g 3 f3 c3 rfl i3 rfl
      obtain ⟨z4, rfl⟩ := g 4 f4 c4 rfl i4 rfl
      obtain ⟨z5, rfl⟩ := g 5 f5 c5 rfl i5 rfl
      refine ⟨⟨z0, z1, z2, z3, z4, z5⟩, fun j hj => ?_⟩
      have := hcell j hj
      rw [Go.Deep.add_add] at this
      rw [this]
      have : j = 0 ∨ j = 1 ∨ j = 2 ∨ j = 3 ∨ j = 4 ∨ j = 5 := by omega
      rcases this with rfl | rfl | rfl | rfl | rfl | rfl <;> rfl
  obtain ⟨V, hV⟩ := choose_lt each
  have hfl : ((List.range len).map V).length = len := by simp
  refine ⟨some a, (List.range len).map V, cap, by rw [hfl], ⟨sl_of (fun q hq => ?_)⟩, by rw [hfl]; omega, by rw [hfl]; exact hl⟩
  rw [flatN, hfl] at hq
  have hi : q / 6 < len := by omega
  have := hV (q / 6) (by omega) (q % 6) (by omega)
  rw [show q / 6 * 6 + q % 6 = q from by omega] at this
  rw [this]
  have hg := flat_get (enc := NV.cells) (sz := 6) (fun _ => rfl) (xs := (List.range len).map V) (j := q / 6) (by rw [hfl]; exact hi) (i := q % 6) (by omega)
  rw [show q / 6 * 6 + q % 6 = q from by omega] at hg
  rw [List.getD_eq_getElem?_getD, List.getD_eq_getElem?_getD, hg]
  simp
/-- an argument that is a list of nodes -/
theorem open_nodes {W : World} {t e : TypeId} {f0 f1 f2 f3 f4 f5 : Field} (ht : P.underlying t = some (.slice e)) (he : P.underlying e = some (.struct #[f0, f1, f2, f3, f4, f5])) (hone : oneCellFields P #[f0, f1, f2, f3, f4, f5] = true) (ce : P.cellsOf e = 6)
    (i0 : P.underlying f0.type = some (.int .i64)) (i1 : P.underlying f1.type = some (.int .i64)) (i2 : P.underlying f2.type = some (.int .i64)) (i3 : P.underlying f3.type = some (.int .i64)) (i4 : P.underlying f4.type = some (.int .i64)) (i5 : P.underlying f5.type = some (.int .i64))
    {v : Value} {d : DataW H} {ps : List MemPlace} (h : DataW.Trod enc P W 0 (fun _ => true) true t v d ps) {r : Reach} {b0 : Nat} (hok : Value.okWide P W r b0 t v) : ∃ (a : Option Addr) (f : List NV) (cap : Nat), v = .slice a f.length cap ∧ FA W a f ∧ f.length ≤ maxLen ∧ f.length ≤ cap := by
  obtain ⟨fuel, hf⟩ := h
  obtain ⟨a', n', c', rfl⟩ := okWide_slice ht hok
  obtain ⟨a, f, cap, e1, h1, h2, h3⟩ := open_nodes' ht he hone ce i0 i1 i2 i3 i4 i5 hf
  refine ⟨a, f, cap, ?_, h1, h2, h3⟩
  simpa [Value.cells] using e1
end
end Go.Proofs.Wit
