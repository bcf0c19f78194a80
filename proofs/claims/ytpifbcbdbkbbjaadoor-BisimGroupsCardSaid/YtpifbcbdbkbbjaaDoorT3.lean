/- Contracts of functions of the program: what each call returns and that nothing else of memory is turned, under the conditions that each theorem states. -/
import Derived.Test.YtpifbcbdbkbbjaaDoorWB
import Derived.Test.YtpifbcbdbkbbjaaDoorProg
namespace Go.Proofs.YtpifbcbdbkbbjaaDoor
open Go.RowKit Go.Proofs.Wit
/-- the library's table of bit positions -/
abbrev gTab : Nat := 0
abbrev Tab := TabAt gTab
theorem mixed : Tryd.prog.follows .mixedOrders = true := by kernel_rfl

theorem infoU : (Tryd.prog.info? 44).map (fun i => (i.zero, i.size, i.bytes)) = some (some (U 0#64), 1, 8) := by kernel_rfl
theorem infoI : (Tryd.prog.info? 3).map (fun i => (i.zero, i.size, i.bytes)) = some (some (.int .i64 0), 1, 8) := by kernel_rfl
theorem tz_c (s : W64) (w : World) (hT : Tab w) (hs : s ≠ 0#64) : Cn Tryd.prog 65 [U s] w (fun v _ => v = .int .i64 (tz s)) := by
  have h1 := tz_lt hs
  refine Cn.of Tryd.func65 rfl rfl ?_
  refine GoH.seq ?_
  refine GoH.region ?_
  refine GoH.v (Vop.asg rfl rfl rfl rfl) ?_
  refine GoH.regionEnd ?_
  refine GoH.seq ?_
  refine GoH.seq ?_
  refine GoH.region ?_
  refine GoH.v (Vop.mv rfl rfl rfl rfl) ?_
  refine GoH.v (Vop.bin (b := U 0#64) rfl rfl rfl rfl bEqU rfl) ?_
  refine GoH.regionEnd ?_
  refine GoH.cond rfl (fun hc => ?_) (fun hc => ?_)
  · -- yes
    exact absurd (by simpa using hc) hs
  · -- no
    refine GoH.skip ?_
    refine GoH.seq ?_
    refine GoH.region ?_
    refine GoH.v (Vop.mv rfl rfl rfl rfl) ?_
    refine GoH.v (Vop.mv rfl rfl rfl rfl) ?_
    refine GoH.v (Vop.un rfl rfl rfl uNegU rfl) ?_
    refine GoH.v (Vop.bin rfl rfl rfl rfl bAnd rfl) ?_
    refine GoH.v (Vop.bin (b := U 285870213051353865#64) rfl rfl rfl rfl bMulU rfl) ?_
    refine GoH.v (Vop.bin rfl rfl rfl rfl (bShr 58 rfl) rfl) ?_
    refine GoH.v (Vop.idxA rfl rfl rfl rfl rfl Tryd.underlying91 Tryd.sizeOf5 (dbix s).toNat rfl (dbix_lt s)) ?_
    refine GoH.v (Vop.ld rfl rfl rfl rfl Tryd.isAgg5 (fun w _ hS => (by rw [Nat.zero_add, (hT.ex hS.ext).2 _ (dbix_lt s), db_tz hs]))) ?_
    refine GoH.v (Vop.conv rfl rfl rfl (cInt (a := (tz s : Int)) (k := .i64) Tryd.underlying5 Tryd.underlying3 (IntWalk.i64_in _ (by omega))) rfl) ?_
    refine GoH.v (Vop.asg rfl rfl rfl rfl) ?_
    refine GoH.regionEnd ?_
    refine GoH.ret Tryd.f65 Tryd.func65 rfl (fun w' hS => ?_)
    exact ⟨hS.ext, rfl⟩
