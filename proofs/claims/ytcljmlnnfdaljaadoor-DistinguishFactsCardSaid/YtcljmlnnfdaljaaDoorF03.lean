/- What calls of the program return, under the conditions that each theorem states. -/
import Derived.Test.YtcljmlnnfdaljaaDoorF02
import Derived.Test.YtcljmlnnfdaljaaDoorProg
namespace Go.Proofs.YtcljmlnnfdaljaaDoor
open Go.RowKit Go.Proofs.Wit
/-- the library's table of bit positions -/
abbrev gTab : Nat := 0
abbrev Tab := TabAt gTab
theorem mixed : Tryd.prog.follows .mixedOrders = true := by kernel_rfl

theorem infoU : (Tryd.prog.info? 33).map (fun i => (i.zero, i.size, i.bytes)) = some (some (U 0#64), 1, 8) := by kernel_rfl
theorem infoI : (Tryd.prog.info? 3).map (fun i => (i.zero, i.size, i.bytes)) = some (some (.int .i64 0), 1, 8) := by kernel_rfl
theorem tz_c (s : W64) (w : World) (hT : Tab w) (hs : s ≠ 0#64) : Cn Tryd.prog 76 [U s] w (fun v _ => v = .int .i64 (tz s)) := by
  have h1 := tz_lt hs
  refine Cn.of Tryd.func76 rfl rfl ?_
  refine GoH.seq (GoH.region ?_)
  refine GoH.v (Vop.asg rfl rfl rfl rfl) ?_
  refine GoH.regionEnd (GoH.seq (GoH.seq (GoH.region ?_)))
  refine GoH.v (Vop.mv rfl rfl rfl rfl) ?_
  refine GoH.v (Vop.bin (b := U 0#64) rfl rfl rfl rfl bEqU rfl) ?_
  refine GoH.regionEnd ?_
  refine GoH.cond rfl (fun hc => ?_) (fun hc => ?_)
  ·
   exact absurd (by simpa using hc) hs
  ·
   refine GoH.skip (GoH.seq (GoH.region ?_))
   iterate 2 refine GoH.v (Vop.mv rfl rfl rfl rfl) ?_
   refine GoH.v (Vop.un rfl rfl rfl uNegU rfl) ?_
   refine GoH.v (Vop.bin rfl rfl rfl rfl bAnd rfl) ?_
   refine GoH.v (Vop.bin (b := U 285870213051353865#64) rfl rfl rfl rfl bMulU rfl) ?_
   refine GoH.v (Vop.bin rfl rfl rfl rfl (bShr 58 rfl) rfl) ?_
   refine GoH.v (Vop.idxA rfl rfl rfl rfl rfl Tryd.underlying128 Tryd.sizeOf5 (dbix s).toNat rfl (dbix_lt s)) ?_
   refine GoH.v (Vop.ld rfl rfl rfl rfl Tryd.isAgg5 (fun w _ hS => (by rw [Nat.zero_add, (hT.ex hS.ext).2 _ (dbix_lt s), db_tz hs]))) ?_
   refine GoH.v (Vop.conv rfl rfl rfl (cInt (a := (tz s : Int)) (k := .i64) Tryd.underlying5 Tryd.underlying3 (IntWalk.i64_in _ (by omega))) rfl) ?_
   refine GoH.v (Vop.asg rfl rfl rfl rfl) ?_
   refine GoH.regionEnd ?_
   refine GoH.ret Tryd.f76 Tryd.func76 rfl (fun w' hS => ?_)
   exact ⟨hS.ext, rfl⟩
end Go.Proofs.YtcljmlnnfdaljaaDoor
namespace Go.Proofs.YtcljmlnnfdaljaaDoor
open Go.RowKit Go.Proofs.Wit
/-- a list of words in a block of one's own, or nil -/
def Own (w w' : World) (v : Value) (xs : List W64) : Prop :=
  ∃ q cap sp, v = osv q xs.length cap ∧ (q = none → xs.length = 0 ∧ cap = 0) ∧ (xs.map U ++ sp).length = cap ∧ ∀ b, q = some b → w.heap.size ≤ b ∧ w'.heap[b]? = some (ob U 33 xs sp)
end Go.Proofs.YtcljmlnnfdaljaaDoor
namespace Go.Proofs.YtcljmlnnfdaljaaDoor
open Go.RowKit Go.Proofs.Wit
theorem own_nil (w w' : World) : Own w w' (.slice none 0 0) [] := ⟨none, 0, [], rfl, fun _ => ⟨rfl, rfl⟩, rfl, fun _ h => by cases h⟩
theorem gainO {w0 w w' : World} {S : List Nat} {h : Hl} {Y : List (Nat × Obj)} (s : St w0 S w h Y) (e : Ex [] w w') {v : Value} {xs : List W64} (ho : Own w w' v xs) :
    ∃ q cap sp, v = osv q xs.length cap ∧ (q = none → xs.length = 0 ∧ cap = 0) ∧ (xs.map U ++ sp).length = cap ∧ St w0 S w' ((q, ob U 33 xs sp) :: h) Y := by
  obtain ⟨q, cap, sp, h1, h2, h3, h4⟩ := ho
  refine ⟨q, cap, sp, h1, h2, h3, ?_⟩
  cases q with
  | none => exact (s.later e).none _
  | some b => exact s.gain e (h4 b rfl).2 rfl (h4 b rfl).1
theorem sluAt {w0 w : World} {S : List Nat} {h : Hl} {Y : List (Nat × Obj)} (s : St w0 S w h Y) {q : Option Nat} {xs : List W64} {sp : List Value} (j : Nat) (hj : h[j]? = some (q, ob U 33 xs sp)) {c : Nat} (hq : q = none → xs.length = 0 ∧ c = 0) : SlU w (q.map (fun b => ⟨b, 0, none⟩)) xs :=
  .blk (fun e => List.eq_nil_of_length_eq_zero (hq e).1) (fun b e => by subst e; exact s.get hj)

end Go.Proofs.YtcljmlnnfdaljaaDoor
namespace Go.Proofs.YtcljmlnnfdaljaaDoor
open Go.RowKit Go.Proofs.Wit
/-- o is the least set that contains what a step leads to from s0, and what a step leads to from it -/
structure LeastReach (r : List W64) (s0 o : W64) : Prop where
  base : mapR r s0 &&& ~~~o = 0#64
  step : mapR r o &&& ~~~o = 0#64
  least : ∀ c, mapR r s0 &&& ~~~c = 0#64 → mapR r c &&& ~~~c = 0#64 → o &&& ~~~c = 0#64
end Go.Proofs.YtcljmlnnfdaljaaDoor
