/- Laws of walks, for any program, under the conditions that each theorem states. -/
import Derived.Test.YthojdcaojjmoaaaDoorA02
import Derived.ChangeSame
import Derived.ChangeVars
import Derived.JoinedOf
import Derived.RowKit
import Derived.ProofKit
import Derived.OpenShut
import Derived.LaidMore
import Derived.Lay
import Derived.Carry
import Derived.SevenTiedAt
import Derived.Stop.Joined
import Derived.Test.YthojdcaojjmoaaaDoorA03
import Derived.Deep.Matrix
import Derived.Lib.SmallJoins
namespace Go.Proofs.Wit
open Go Go.RowKit Go.ChangeShapes Go.WideShapes Go.ChangeAt
/-! from a law's contract to its row -/
section
variable {H : Type} {enc : TypeId × Value → H} {P : Program}
/-- what was read stays -/
theorem trodAll_stays (hl : laidOutB P = true) {W W' : World} (hb : Below W.heap.size W W') : ∀ {ts : List TypeId} {vs : List Value} {ds : List (DataW H)} {ps : List MemPlace}, ts.all (fun t => P.readableRec t && decide (t < P.types.size)) = true →
    DataW.TrodAll enc P W 0 (fun _ => true) true ts vs ds ps → (∀ x ∈ ps, x.block < W.heap.size) → DataW.TrodAll enc P W' 0 (fun b => decide (b < W.heap.size)) true ts vs ds ps
  | [], _, _, _, _, h, _ => by
    obtain ⟨rfl, rfl, rfl⟩ := trodAll_nil h
    exact rfl
  | t :: ts, _, _, _, hr, h, hlt => by
    obtain ⟨v, vs1, d, ds1, a, b, rfl, rfl, rfl, h1, h2⟩ := trodAll_cons h
    rw [List.all_cons, Bool.and_eq_true, Bool.and_eq_true, decide_eq_true_eq] at hr
    exact trodAll_cons_mk (Below.trod hl hr.1.1 hr.1.2 h1 hb (fun x hx => hlt x (by simp [hx]))) (trodAll_stays hl hb hr.2 h2 (fun x hx => hlt x (by simp [hx])))
theorem wf_u64 {n : Int} (h : (Lit.int .u64 n).wf = true) : (Value.int .u64 n) = U (BitVec.ofInt 64 n) := by
  have := bounds_u64 h
  unfold U
  congr 1
  rw [BitVec.toNat_ofInt]
  omega
theorem adr_add (a : Addr) (i : Nat) (h : a.spot = none) : a.add i = adr (some a) i := by
  obtain ⟨b, o, s⟩ := a
  simp only at h; subst h
  unfold Addr.add adr; split
  · rename_i h0; rw [h0]; rfl
  · rfl
end
end Go.Proofs.Wit
namespace Go.Proofs.Wit
open Go Go.RowKit Go.ChangeShapes Go.WideShapes Go.ChangeAt Go.Deep Go.Joins
/-! arguments of more kinds, opened -/
theorem cell_lt {w : World} {a : Addr} {v : Value} (h : w.cell? a = some v) : a.block < w.heap.size := by
  unfold World.cell? at h
  split at h
  · rename_i hb; exact (Array.getElem?_eq_some_iff.1 hb).1
  · cases h
theorem spot_of {w : World} {a : Addr} {v : Value} (h : w.cell? (a.add 0) = some v) : a.spot = none := by
  unfold World.cell? at h
  split at h
  · split at h
    · cases h
    · rename_i hs
      have e0 : a.add 0 = a := by unfold Addr.add; simp
      rw [e0] at hs
      simpa using hs
  · cases h
/-- a list whose cells are known, at an address -/
theorem sl_of {w : World} {a : Addr} {xs : List Value} (h : ∀ i, i < xs.length → w.cell? (a.add i) = some (xs.getD i undef)) : Sl w (some a) xs := by
  refine ⟨fun h0 => ?_, fun i hi => ?_⟩
  · have hs := spot_of (h 0 h0)
    have hb := cell_lt (h 0 h0)
    obtain ⟨b, o, s⟩ := a
    simp only at hs; subst hs
    refine ⟨b, o, rfl, ?_⟩
    rw [addr_off] at hb; exact hb
  · have hs := spot_of (h 0 (by omega))
    rw [← adr_add a i hs]; exact h i hi
section
variable {H : Type} {enc : TypeId × Value → H} {P : Program}
/-- []uint64 at whatever depth -/
theorem open_words' {W : World} {t e : TypeId} (ht : P.underlying t = some (.slice e)) (he : P.underlying e = some (.int .u64)) (hc : P.cellsOf e = 1) {v : Value} {n : Nat} {y : DataW H × List MemPlace}
    (h : DataW.trod enc P W 0 (fun _ => true) true n t [v] = some y) : ∃ (a : Option Addr) (xs : List W64) (cap : Nat), v = .slice a xs.length cap ∧ SlU W a xs ∧ xs.length ≤ maxLen ∧ xs.length ≤ cap := by
  rcases open_ints ht he hc h with ⟨hcs, _⟩ | ⟨a, len, cap, zs, hcs, hb, hlc, hcm, hzl, _, hcell, hw⟩
  · exact ⟨none, [], 0, by simpa using hcs, .nil _ _, Nat.zero_le _, Nat.le_refl _⟩
  · rw [if_pos rfl] at hzl
    have hxl : ((zs.take len).map (BitVec.ofInt 64)).length = len := by simp; omega
    refine ⟨some a, (zs.take len).map (BitVec.ofInt 64), cap, by rw [hxl]; simpa using hcs, sl_of (fun i hi => ?_), by rw [hxl]; omega, by rw [hxl]; exact hlc⟩
    have hi2 : i < len := by simp at hi; omega
    have hil : i < zs.length := by omega
    rw [hcell i hil, wf_u64 (hw _ (by rw [List.getD_eq_getElem?_getD, List.getElem?_eq_getElem hil]; exact List.getElem_mem hil))]
    simp [List.getD_eq_getElem?_getD, hi2, hil]
/-- [][]uint64 -/
theorem open_rows' {W : World} {t e q : TypeId} (ht : P.underlying t = some (.slice e)) (he : P.underlying e = some (.slice q)) (hq : P.underlying q = some (.int .u64)) (ce : P.cellsOf e = 1) (cq : P.cellsOf q = 1) {v : Value} {n : Nat} {y : DataW H × List MemPlace}
    (h : DataW.trod enc P W 0 (fun _ => true) true n t [v] = some y) : ∃ (a : Option Addr) (rows : List Row) (cap : Nat), v = .slice a rows.length cap ∧ SlR W a rows ∧ (∀ r ∈ rows, r.At W) ∧ rows.length ≤ maxLen ∧ rows.length ≤ cap := by
  rcases open_int_rows ht he hq ce cq h with ⟨hcs, _⟩ | ⟨a, len, cap, A, L, C, Z, hcs, hb, hlc, hcm, _, hx⟩
  · exact ⟨none, [], 0, by simpa using hcs, Sl.nil _ _, by simp, Nat.zero_le _, Nat.le_refl _⟩
  · have hrow : ∀ r, r < cap → ((((Z r).take (L r)).map (BitVec.ofInt 64)).length = L r) := fun r hr => by
      obtain ⟨_, h1, _, h3, _⟩ := hx r hr
      simp; omega
    let rows : List Row := (List.range len).map fun r => ⟨A r, C r, ((Z r).take (L r)).map (BitVec.ofInt 64)⟩
    have hrl : rows.length = len := by simp [rows]
    refine ⟨some a, rows, cap, by rw [hrl]; simpa using hcs, sl_of (fun i hi => ?_), fun r hr => ?_, by omega, by omega⟩
    · have hi2 : i < len := by simpa [rows] using hi
      rw [(hx i (by omega)).1]
      simp [List.getD_eq_getElem?_getD, rows, hi2, Row.v]
      have := (hrow i (by omega))
      simp at this
      omega
    · obtain ⟨i, hi, rfl⟩ := List.mem_map.1 hr
      have hi2 : i < len := by simpa using hi
      obtain ⟨_, h1, h2, h3, h4, h5, h6⟩ := hx i (by omega)
      have hl := hrow i (by omega)
      refine ⟨?_, by show (List.map _ _).length ≤ _; rw [hl]; omega, by show (List.map _ _).length ≤ _; rw [hl]; exact h1⟩
      show SlU W (A i) _
      cases hA : A i with
      | none =>
        have := h5 hA
        have e : ((Z i).take (L i)).map (BitVec.ofInt 64) = [] := List.eq_nil_of_length_eq_zero (by rw [hl]; omega)
        rw [e]; exact .nil _ _
      | some a' =>
        obtain ⟨_, hcell⟩ := h6 a' hA
        refine sl_of (fun c hc => ?_)
        have hcL : c < L i := by rw [List.length_map, hl] at hc; exact hc
        have hcZ : c < (Z i).length := by omega
        rw [hcell c (by omega), wf_u64 (h4 _ (by rw [List.getD_eq_getElem?_getD, List.getElem?_eq_getElem hcZ]; exact List.getElem_mem hcZ))]
        simp [List.getD_eq_getElem?_getD, hcL, hcZ]
/-- a model -/
theorem open_model {W : World} {r : Reach} {b0 : Nat} {t : TypeId} {f0 f1 f2 : Field} {e q : TypeId} {v : Value} {d : DataW H} {p : List MemPlace} (hs : P.underlying t = some (.struct #[f0, f1, f2])) (hone : oneCellFields P #[f0, f1, f2] = true) (hC : P.cellsOf t = 3)
    (hi : P.underlying f0.type = some (.int .i64)) (hv : P.underlying f1.type = some (.slice q)) (hr : P.underlying f2.type = some (.slice e)) (he : P.underlying e = some (.slice q)) (hq : P.underlying q = some (.int .u64)) (ce : P.cellsOf e = 1) (cq : P.cellsOf q = 1)
    (hok : Value.okWide P W r b0 t v) (h : DataW.Trod enc P W 0 (fun _ => true) true t v d p) : ∃ m : MV, v = m.v ∧ m.At W := by
  obtain ⟨v0, v1, v2, y0, y1, y2, n, rfl, _, _, h0, h1, h2⟩ := open_agg3 hs hone hC hok h
  obtain ⟨z, hz, _⟩ := DataW.trod_int hi h0
  obtain ⟨va, val, vc, rfl, hva, hvl, hvc⟩ := open_words' hv hq cq h1
  obtain ⟨ra, rows, rc, rfl, hra, hrow, hrl, hrc⟩ := open_rows' hr he hq ce cq h2
  simp only [List.cons.injEq, and_true] at hz
  subst hz
  exact ⟨⟨z, ra, rc, rows, va, vc, val⟩, rfl, hra, hrow, hva, hrl, hvl, hrc, hvc⟩
end
end Go.Proofs.Wit
