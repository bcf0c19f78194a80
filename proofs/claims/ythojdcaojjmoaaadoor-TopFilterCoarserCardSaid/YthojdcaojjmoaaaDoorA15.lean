/- What calls of the program return, under the conditions that each theorem states. -/
import Derived.Test.YthojdcaojjmoaaaDoorA13
import Derived.Test.YthojdcaojjmoaaaDoorA14
import Derived.Test.YthojdcaojjmoaaaDoorTie
import Derived.Test.YthojdcaojjmoaaaDoorCards
import Derived.Test.YthojdcaojjmoaaaDoorA04
import Derived.Test.YthojdcaojjmoaaaDoorA05
namespace Go.Proofs.YthojdcaojjmoaaaDoor
open Go Go.RowKit Go.ChangeShapes Go.WideShapes Go.ChangeAt Go.Proofs.Wit
/-! from the contracts to the rows -/
theorem ownK : ownKnob Tryd.prog.godebug = none := by kernel_rfl
theorem laidOk : laidOutB Tryd.prog = true := by kernel_rfl
theorem tab_of_laid {W : World} (h : laidMetH Tryd.prog [("math/bits.deBruijn32tab", Rows.laid_math_bits_deBruijn32tab), ("math/bits.deBruijn64tab", Rows.laid_math_bits_deBruijn64tab), ("internal/strconv.uint64pow10", Rows.laid_internal_strconv_uint64pow10)] W) : Tab W := by
  rw [MakeChecks.laidMetH_plain _ _ _ (by kernel_rfl)] at h
  obtain ⟨ps, ⟨_, _, _, _, _, _, _, _, _, _, ⟨g, t, cs, fuel, p, q, hg, ht, hv, hd, _, _⟩, _⟩, _, _⟩ := h
  obtain rfl := Option.some.inj ((show Tryd.prog.globalNamed "math/bits.deBruijn64tab" = some gTab by kernel_rfl).symm.trans hg)
  obtain rfl := Option.some.inj ((show (Tryd.prog.globals[gTab]?).map (·.type) = some 119 by kernel_rfl).symm.trans ht)
  obtain ⟨xs, m, _, ex, _, hl, hel⟩ := DataW.trod_array Tryd.underlying119 hd
  have c5 : Tryd.prog.cellsOf 5 = 1 := by kernel_rfl
  have key : ∀ r : Nat, r < 64 → W.cell? ⟨gTab, r, none⟩ = some (.int .u8 (dbtab.getD r 0)) := by
    intro r hr
    have hE := hel r hr
    rw [c5, Nat.mul_one, List.getElem?_eq_getElem (by omega)] at hE
    obtain ⟨z, e1, e2, _⟩ := DataW.trod_int Tryd.underlying5 hE
    have hlen : dbtab.length = 64 := by decide
    have e3 : (xs.map (·.1)) = dbtab.map fun n => .lit (.int .u8 n) := (DataW.agg.inj (Prod.mk.inj ex).1).symm
    have e4 : (xs.map (·.1))[r]? = (dbtab.map fun n => (DataW.lit (.int .u8 n) : DataW Unit))[r]? := by rw [e3]
    rw [List.getElem?_map, List.getElem?_map, List.getElem?_eq_getElem (by omega : r < xs.length), List.getElem?_eq_getElem (by omega : r < dbtab.length), e2] at e4
    have hz : z = dbtab.getD r 0 := by
      simp only [Option.map_some, Option.some.injEq, DataW.lit.injEq, Lit.int.injEq, true_and] at e4
      rw [e4, List.getD, List.getElem?_eq_getElem (by omega : r < dbtab.length)]; rfl
    rw [World.var?_cell hg hv r, ← hz]
    have : cs.toList[r]? = some (.int .u8 z) := by
      have h0 : ((cs.toList.drop r).take 1)[0]? = some (.int .u8 z) := by rw [e1]; rfl
      simpa using h0
    simpa using this
  refine ⟨?_, key⟩
  have h0 := key 0 (by decide)
  unfold World.cell? at h0
  split at h0
  · rename_i hb; exact (Array.getElem?_eq_some_iff.1 hb).1
  · cases h0
end Go.Proofs.YthojdcaojjmoaaaDoor
namespace Go.Proofs.YthojdcaojjmoaaaDoor
open Go.RowKit Go.Proofs.Wit
/-! closing a relation to a logic -/
/-- where the relation lies that is being closed: still where it came from, or in a block of one's own -/
structure CurAt (a : Option Addr) (ca : Nat) (r : List W64) (A : Option Addr) (cA : Nat) (cur : List W64) (q : Option Nat) (sp : List Value) : Prop where
  cap : cur.length ≤ cA
  at_ : (A = a ∧ cur = r) ∨ (A = q.map (fun b => ⟨b, 0, none⟩) ∧ (q = none → cur.length = 0))
end Go.Proofs.YthojdcaojjmoaaaDoor
