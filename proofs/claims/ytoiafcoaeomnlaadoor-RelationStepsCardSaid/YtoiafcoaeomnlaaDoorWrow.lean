/- Laws of a calculus of walks, proved for any program: no condition beyond those that each theorem states. -/
import Derived.Test.YtoiafcoaeomnlaaDoorWturn
import Derived.ChangeSame
import Derived.ChangeVars
import Derived.JoinedOf
import Derived.RowKit
import Derived.ProofKit
import Derived.OpenShut
import Derived.LaidMore
import Derived.Lay
import Derived.Carry
import Derived.SevenTiedAt
import Derived.Stop.Joined
namespace Go.Proofs.Wit
open Go Go.RowKit Go.ChangeShapes Go.WideShapes Go.ChangeAt
/-! from a law's contract to its row -/
section
variable {H : Type} {enc : TypeId × Value → H} {P : Program}
/-- what was read stays -/
theorem trodAll_stays (hl : laidOutB P = true) {W W' : World} (hb : Below W.heap.size W W') : ∀ {ts : List TypeId} {vs : List Value} {ds : List (DataW H)} {ps : List MemPlace}, ts.all (fun t => P.readableRec t && decide (t < P.types.size)) = true →
    DataW.TrodAll enc P W 0 (fun _ => true) true ts vs ds ps → (∀ x ∈ ps, x.block < W.heap.size) → DataW.TrodAll enc P W' 0 (fun b => decide (b < W.heap.size)) true ts vs ds ps
  | [], _, _, _, _, h, _ => by
    obtain ⟨rfl, rfl, rfl⟩ := trodAll_nil h
    exact rfl
  | t :: ts, _, _, _, hr, h, hlt => by
    obtain ⟨v, vs1, d, ds1, a, b, rfl, rfl, rfl, h1, h2⟩ := trodAll_cons h
    rw [List.all_cons, Bool.and_eq_true, Bool.and_eq_true, decide_eq_true_eq] at hr
    exact trodAll_cons_mk (Below.trod hl hr.1.1 hr.1.2 h1 hb (fun x hx => hlt x (by simp [hx]))) (trodAll_stays hl hb hr.2 h2 (fun x hx => hlt x (by simp [hx])))
theorem wf_u64 {n : Int} (h : (Lit.int .u64 n).wf = true) : (Value.int .u64 n) = U (BitVec.ofInt 64 n) := by
  have := bounds_u64 h
  unfold U
  congr 1
  rw [BitVec.toNat_ofInt]
  omega
theorem adr_add (a : Addr) (i : Nat) (h : a.spot = none) : a.add i = adr (some a) i := by
  obtain ⟨b, o, s⟩ := a
  simp only at h; subst h
  unfold Addr.add adr; split
  · rename_i h0; rw [h0]; rfl
  · rfl
/-- an argument of type []uint64 -/
theorem open_words {W : World} {t e : TypeId} (ht : P.underlying t = some (.slice e)) (he : P.underlying e = some (.int .u64)) (hc : P.cellsOf e = 1) {v : Value} {d : DataW H} {ps : List MemPlace}
    (h : DataW.Trod enc P W 0 (fun _ => true) true t v d ps) (hlt : ∀ x ∈ ps, x.block < W.heap.size) {r : Reach} {b0 : Nat} (hok : Value.okWide P W r b0 t v) :
    ∃ (a : Option Addr) (xs : List W64) (cap : Nat), v = .slice a xs.length cap ∧ SlU W a xs ∧ xs.length ≤ maxLen ∧ xs.length ≤ cap := by
  obtain ⟨fuel, hf⟩ := h
  have hcv : ∀ a n c, v.cells.toList = [Value.slice a n c] → v = .slice a n c := by
    intro a n c e1
    obtain ⟨a', n', c', rfl⟩ := okWide_slice ht hok
    simpa [Value.cells] using e1
  rcases open_ints ht he hc hf with ⟨hcs, hx⟩ | ⟨a, len, cap, zs, hcs, hb, hlc, hcm, hzl, hx, hcell, hw⟩
  · exact ⟨none, [], 0, hcv _ _ _ hcs, .nil _ _, Nat.zero_le _, Nat.le_refl _⟩
  · rw [if_pos rfl] at hzl
    have hxl : ((zs.take len).map (BitVec.ofInt 64)).length = len := by simp; omega
    refine ⟨some a, (zs.take len).map (BitVec.ofInt 64), cap, by rw [hxl]; exact hcv _ _ _ hcs, ⟨fun h0 => ?_, fun i hi => ?_⟩, by rw [hxl]; omega, by rw [hxl]; exact hlc⟩
    · have h0' : 0 < zs.length := by simp at h0; omega
      have hsp : a.spot = none := by
        have := hcell 0 h0'
        unfold World.cell? at this
        split at this
        · split at this
          · cases this
          · rename_i hs
            have e0 : a.add 0 = a := by unfold Addr.add; simp
            rw [e0] at hs
            simpa using hs
        · cases this
      obtain ⟨b, o, s⟩ := a
      simp only at hsp; subst hsp
      refine ⟨b, o, rfl, ?_⟩
      obtain ⟨rfl, rfl⟩ := Prod.mk.inj hx
      have := hlt (.cell b o) (by
        rw [show zs.length = (zs.length - 1) + 1 from by omega]
        simp [MemPlace.row, List.range_succ_eq_map])
      exact this
    · have hil : i < zs.length := by simp at hi; omega
      have hsp : a.spot = none := by
        have := hcell 0 (by omega)
        unfold World.cell? at this
        split at this
        · split at this
          · cases this
          · rename_i hs
            have e0 : a.add 0 = a := by unfold Addr.add; simp
            rw [e0] at hs
            simpa using hs
        · cases this
      rw [← adr_add a i hsp, hcell i hil]
      have hi2 : i < len := by simp at hi; omega
      rw [wf_u64 (hw _ (by rw [List.getD_eq_getElem?_getD, List.getElem?_eq_getElem hil]; exact List.getElem_mem hil))]
      simp [List.getD_eq_getElem?_getD, hi2, hil]
end
end Go.Proofs.Wit
