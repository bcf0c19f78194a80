/- Contracts of functions of the program: what each call returns and that nothing else of memory is turned, under the conditions that each theorem states. -/
import Derived.Test.YtcljmlnnfdaljaaDoorS17
import Derived.Test.YtcljmlnnfdaljaaDoorS18
namespace Go.Proofs.YtcljmlnnfdaljaaDoor
open Go.RowKit Go.Proofs.Wit
/-! bisimulations -/
set_option maxRecDepth 8000 in
theorem len64_c (s : W64) (w : World) : Cn Tryd.prog 56 [U s] w (fun v _ => v = .int .i64 (lenN s.toNat)) := by
  have hL64 : lenN s.toNat ≤ 64 := lenN_le.2 s.isLt
  refine Cn.of Tryd.func56 rfl rfl ?_
  refine GoH.seq ?_
  refine GoH.region ?_
  refine GoH.v (Vop.asg rfl rfl rfl rfl) ?_
  refine GoH.regionEnd ?_
  refine GoH.seq ?_
  refine GoH.seq ?_
  refine GoH.region ?_
  refine GoH.v (Vop.mv rfl rfl rfl rfl) ?_
  refine GoH.v (Vop.bin (b := U 4294967296#64) rfl rfl rfl rfl bGeUB rfl) ?_
  refine GoH.regionEnd ?_
  refine GoH.cond rfl (fun hc => ?_) (fun hc => ?_)
  · -- yes
    have hc32 : 2 ^ 32 ≤ s.toNat := by simpa using hc
    have hl32 : lenN s.toNat = 32 + lenN (s >>> 32).toNat := lenW_shift hc32
    have hb32 : (s >>> 32).toNat < 2 ^ 32 := shr_lt (by omega)
    refine GoH.seq ?_
    refine GoH.region ?_
    refine GoH.v (Vop.mv rfl rfl rfl rfl) ?_
    refine GoH.v (Vop.bin rfl rfl rfl rfl (bShr 32 rfl) rfl) ?_
    refine GoH.v (Vop.asg rfl rfl rfl rfl) ?_
    refine GoH.regionEnd ?_
    refine GoH.region ?_
    refine GoH.v (Vop.asg rfl rfl rfl rfl) ?_
    refine GoH.regionEnd ?_
    refine GoH.seq ?_
    refine GoH.seq ?_
    refine GoH.region ?_
    refine GoH.v (Vop.mv rfl rfl rfl rfl) ?_
    refine GoH.v (Vop.bin (b := U 65536#64) rfl rfl rfl rfl bGeUB rfl) ?_
    refine GoH.regionEnd ?_
    refine GoH.cond rfl (fun hc => ?_) (fun hc => ?_)
    · -- yes
      have hc16 : 2 ^ 16 ≤ (s >>> 32).toNat := by simpa using hc
      have hl16 : lenN (s >>> 32).toNat = 16 + lenN ((s >>> 32) >>> 16).toNat := lenW_shift hc16
      have hb16 : ((s >>> 32) >>> 16).toNat < 2 ^ 16 := shr_lt (by omega)
      refine GoH.seq ?_
      refine GoH.region ?_
      refine GoH.v (Vop.mv rfl rfl rfl rfl) ?_
      refine GoH.v (Vop.bin rfl rfl rfl rfl (bShr 16 rfl) rfl) ?_
      refine GoH.v (Vop.asg rfl rfl rfl rfl) ?_
      refine GoH.regionEnd ?_
      refine GoH.region ?_
      refine GoH.v (Vop.mv rfl rfl rfl rfl) ?_
      refine GoH.v (Vop.bin rfl rfl rfl rfl (bAdd (by omega)) rfl) ?_
      refine GoH.v (Vop.asg rfl rfl rfl rfl) ?_
      refine GoH.regionEnd ?_
      refine GoH.seq ?_
      refine GoH.seq ?_
      refine GoH.region ?_
      refine GoH.v (Vop.mv rfl rfl rfl rfl) ?_
      refine GoH.v (Vop.bin (b := U 256#64) rfl rfl rfl rfl bGeUB rfl) ?_
      refine GoH.regionEnd ?_
      refine GoH.cond rfl (fun hc => ?_) (fun hc => ?_)
      · -- yes
        have hc8 : 2 ^ 8 ≤ ((s >>> 32) >>> 16).toNat := by simpa using hc
        have hl8 : lenN ((s >>> 32) >>> 16).toNat = 8 + lenN (((s >>> 32) >>> 16) >>> 8).toNat := lenW_shift hc8
        have hb8 : (((s >>> 32) >>> 16) >>> 8).toNat < 2 ^ 8 := shr_lt (by omega)
        have hx : (((s >>> 32) >>> 16) >>> 8).toNat < 256 := by omega
        have hl : lenN s.toNat = 56 + lenN (((s >>> 32) >>> 16) >>> 8).toNat := by omega
        refine GoH.seq ?_
        refine GoH.region ?_
        refine GoH.v (Vop.mv rfl rfl rfl rfl) ?_
        refine GoH.v (Vop.bin rfl rfl rfl rfl (bShr 8 rfl) rfl) ?_
        refine GoH.v (Vop.asg rfl rfl rfl rfl) ?_
        refine GoH.regionEnd ?_
        refine GoH.region ?_
        refine GoH.v (Vop.mv rfl rfl rfl rfl) ?_
        refine GoH.v (Vop.bin rfl rfl rfl rfl (bAdd (by omega)) rfl) ?_
        refine GoH.v (Vop.asg rfl rfl rfl rfl) ?_
        refine GoH.regionEnd ?_
        refine GoH.seq ?_
        refine GoH.region ?_
        refine GoH.v (Vop.mv rfl rfl rfl rfl) ?_
        refine GoH.v (Vop.mv rfl rfl rfl rfl) ?_
        refine GoH.v (Vop.conv rfl rfl rfl (cInt (a := (((((s >>> 32) >>> 16) >>> 8)).toNat : Int)) (k := .u8) Tryd.underlying33 Tryd.underlying5 (IntWalk.u8_in _ (by omega))) rfl) ?_
        refine GoH.v (Vop.idxC (l8 := len8tab) rfl rfl rfl rfl rfl Tryd.underlying9 ((((s >>> 32) >>> 16) >>> 8)).toNat ⟨rfl, hx⟩) ?_
        refine GoH.v (Vop.conv rfl rfl rfl (cInt (a := ((len8tab.getD ((((s >>> 32) >>> 16) >>> 8)).toNat 0).toNat : Int)) (k := .i64) Tryd.underlying5 Tryd.underlying3 (IntWalk.i64_in _ (by rw [len8_get hx]; omega))) rfl) ?_
        refine GoH.v (Vop.bin rfl rfl rfl rfl (bAddE (c := (lenN s.toNat : Int)) (by rw [len8_get hx, hl]; omega) (by omega)) rfl) ?_
        refine GoH.v (Vop.asg rfl rfl rfl rfl) ?_
        refine GoH.regionEnd ?_
        refine GoH.ret Tryd.f56 Tryd.func56 rfl (fun w' hS => ?_)
        exact ⟨hS.ext, rfl⟩
      · -- no
        have hc8 : ¬ 2 ^ 8 ≤ ((s >>> 32) >>> 16).toNat := by simpa using hc
        have hb8 : ((s >>> 32) >>> 16).toNat < 2 ^ 8 := by omega
        have hx : ((s >>> 32) >>> 16).toNat < 256 := by omega
        have hl : lenN s.toNat = 48 + lenN ((s >>> 32) >>> 16).toNat := by omega
        refine GoH.skip ?_
        refine GoH.seq ?_
        refine GoH.region ?_
        refine GoH.v (Vop.mv rfl rfl rfl rfl) ?_
        refine GoH.v (Vop.mv rfl rfl rfl rfl) ?_
        refine GoH.v (Vop.conv rfl rfl rfl (cInt (a := ((((s >>> 32) >>> 16)).toNat : Int)) (k := .u8) Tryd.underlying33 Tryd.underlying5 (IntWalk.u8_in _ (by omega))) rfl) ?_
        refine GoH.v (Vop.idxC (l8 := len8tab) rfl rfl rfl rfl rfl Tryd.underlying9 (((s >>> 32) >>> 16)).toNat ⟨rfl, hx⟩) ?_
        refine GoH.v (Vop.conv rfl rfl rfl (cInt (a := ((len8tab.getD (((s >>> 32) >>> 16)).toNat 0).toNat : Int)) (k := .i64) Tryd.underlying5 Tryd.underlying3 (IntWalk.i64_in _ (by rw [len8_get hx]; omega))) rfl) ?_
        refine GoH.v (Vop.bin rfl rfl rfl rfl (bAddE (c := (lenN s.toNat : Int)) (by rw [len8_get hx, hl]; omega) (by omega)) rfl) ?_
        refine GoH.v (Vop.asg rfl rfl rfl rfl) ?_
        refine GoH.regionEnd ?_
        refine GoH.ret Tryd.f56 Tryd.func56 rfl (fun w' hS => ?_)
        exact ⟨hS.ext, rfl⟩
    · -- no
      have hc16 : ¬ 2 ^ 16 ≤ (s >>> 32).toNat := by simpa using hc
      have hb16 : (s >>> 32).toNat < 2 ^ 16 := by omega
      refine GoH.skip ?_
      refine GoH.seq ?_
      refine GoH.seq ?_
      refine GoH.region ?_
      refine GoH.v (Vop.mv rfl rfl rfl rfl) ?_
      refine GoH.v (Vop.bin (b := U 256#64) rfl rfl rfl rfl bGeUB rfl) ?_
      refine GoH.regionEnd ?_
      refine GoH.cond rfl (fun hc => ?_) (fun hc => ?_)
      · -- yes
        have hc8 : 2 ^ 8 ≤ (s >>> 32).toNat := by simpa using hc
        have hl8 : lenN (s >>> 32).toNat = 8 + lenN ((s >>> 32) >>> 8).toNat := lenW_shift hc8
        have hb8 : ((s >>> 32) >>> 8).toNat < 2 ^ 8 := shr_lt (by omega)
        have hx : ((s >>> 32) >>> 8).toNat < 256 := by omega
        have hl : lenN s.toNat = 40 + lenN ((s >>> 32) >>> 8).toNat := by omega
        refine GoH.seq ?_
        refine GoH.region ?_
        refine GoH.v (Vop.mv rfl rfl rfl rfl) ?_
        refine GoH.v (Vop.bin rfl rfl rfl rfl (bShr 8 rfl) rfl) ?_
        refine GoH.v (Vop.asg rfl rfl rfl rfl) ?_
        refine GoH.regionEnd ?_
        refine GoH.region ?_
        refine GoH.v (Vop.mv rfl rfl rfl rfl) ?_
        refine GoH.v (Vop.bin rfl rfl rfl rfl (bAdd (by omega)) rfl) ?_
        refine GoH.v (Vop.asg rfl rfl rfl rfl) ?_
        refine GoH.regionEnd ?_
        refine GoH.seq ?_
        refine GoH.region ?_
        refine GoH.v (Vop.mv rfl rfl rfl rfl) ?_
        refine GoH.v (Vop.mv rfl rfl rfl rfl) ?_
        refine GoH.v (Vop.conv rfl rfl rfl (cInt (a := ((((s >>> 32) >>> 8)).toNat : Int)) (k := .u8) Tryd.underlying33 Tryd.underlying5 (IntWalk.u8_in _ (by omega))) rfl) ?_
        refine GoH.v (Vop.idxC (l8 := len8tab) rfl rfl rfl rfl rfl Tryd.underlying9 (((s >>> 32) >>> 8)).toNat ⟨rfl, hx⟩) ?_
        refine GoH.v (Vop.conv rfl rfl rfl (cInt (a := ((len8tab.getD (((s >>> 32) >>> 8)).toNat 0).toNat : Int)) (k := .i64) Tryd.underlying5 Tryd.underlying3 (IntWalk.i64_in _ (by rw [len8_get hx]; omega))) rfl) ?_
        refine GoH.v (Vop.bin rfl rfl rfl rfl (bAddE (c := (lenN s.toNat : Int)) (by rw [len8_get hx, hl]; omega) (by omega)) rfl) ?_
        refine GoH.v (Vop.asg rfl rfl rfl rfl) ?_
        refine GoH.regionEnd ?_
        refine GoH.ret Tryd.f56 Tryd.func56 rfl (fun w' hS => ?_)
        exact ⟨hS.ext, rfl⟩
      · -- no
        have hc8 : ¬ 2 ^ 8 ≤ (s >>> 32).toNat := by simpa using hc
        have hb8 : (s >>> 32).toNat < 2 ^ 8 := by omega
        have hx : (s >>> 32).toNat < 256 := by omega
        have hl : lenN s.toNat = 32 + lenN (s >>> 32).toNat := by omega
        refine GoH.skip ?_
        refine GoH.seq ?_
        refine GoH.region ?_
        refine GoH.v (Vop.mv rfl rfl rfl rfl) ?_
        refine GoH.v (Vop.mv rfl rfl rfl rfl) ?_
        refine GoH.v (Vop.conv rfl rfl rfl (cInt (a := (((s >>> 32)).toNat : Int)) (k := .u8) Tryd.underlying33 Tryd.underlying5 (IntWalk.u8_in _ (by omega))) rfl) ?_
        refine GoH.v (Vop.idxC (l8 := len8tab) rfl rfl rfl rfl rfl Tryd.underlying9 ((s >>> 32)).toNat ⟨rfl, hx⟩) ?_
        refine GoH.v (Vop.conv rfl rfl rfl (cInt (a := ((len8tab.getD ((s >>> 32)).toNat 0).toNat : Int)) (k := .i64) Tryd.underlying5 Tryd.underlying3 (IntWalk.i64_in _ (by rw [len8_get hx]; omega))) rfl) ?_
        refine GoH.v (Vop.bin rfl rfl rfl rfl (bAddE (c := (lenN s.toNat : Int)) (by rw [len8_get hx, hl]; omega) (by omega)) rfl) ?_
        refine GoH.v (Vop.asg rfl rfl rfl rfl) ?_
        refine GoH.regionEnd ?_
        refine GoH.ret Tryd.f56 Tryd.func56 rfl (fun w' hS => ?_)
        exact ⟨hS.ext, rfl⟩
  · -- no
    have hc32 : ¬ 2 ^ 32 ≤ s.toNat := by simpa using hc
    have hb32 : s.toNat < 2 ^ 32 := by omega
    refine GoH.skip ?_
    refine GoH.seq ?_
    refine GoH.seq ?_
    refine GoH.region ?_
    refine GoH.v (Vop.mv rfl rfl rfl rfl) ?_
    refine GoH.v (Vop.bin (b := U 65536#64) rfl rfl rfl rfl bGeUB rfl) ?_
    refine GoH.regionEnd ?_
    refine GoH.cond rfl (fun hc => ?_) (fun hc => ?_)
    · -- yes
      have hc16 : 2 ^ 16 ≤ s.toNat := by simpa using hc
      have hl16 : lenN s.toNat = 16 + lenN (s >>> 16).toNat := lenW_shift hc16
      have hb16 : (s >>> 16).toNat < 2 ^ 16 := shr_lt (by omega)
      refine GoH.seq ?_
      refine GoH.region ?_
      refine GoH.v (Vop.mv rfl rfl rfl rfl) ?_
      refine GoH.v (Vop.bin rfl rfl rfl rfl (bShr 16 rfl) rfl) ?_
      refine GoH.v (Vop.asg rfl rfl rfl rfl) ?_
      refine GoH.regionEnd ?_
      refine GoH.region ?_
      refine GoH.v (Vop.mv rfl rfl rfl rfl) ?_
      refine GoH.v (Vop.bin rfl rfl rfl rfl (bAdd (by omega)) rfl) ?_
      refine GoH.v (Vop.asg rfl rfl rfl rfl) ?_
      refine GoH.regionEnd ?_
      refine GoH.seq ?_
      refine GoH.seq ?_
      refine GoH.region ?_
      refine GoH.v (Vop.mv rfl rfl rfl rfl) ?_
      refine GoH.v (Vop.bin (b := U 256#64) rfl rfl rfl rfl bGeUB rfl) ?_
      refine GoH.regionEnd ?_
      refine GoH.cond rfl (fun hc => ?_) (fun hc => ?_)
      · -- yes
        have hc8 : 2 ^ 8 ≤ (s >>> 16).toNat := by simpa using hc
        have hl8 : lenN (s >>> 16).toNat = 8 + lenN ((s >>> 16) >>> 8).toNat := lenW_shift hc8
        have hb8 : ((s >>> 16) >>> 8).toNat < 2 ^ 8 := shr_lt (by omega)
        have hx : ((s >>> 16) >>> 8).toNat < 256 := by omega
        have hl : lenN s.toNat = 24 + lenN ((s >>> 16) >>> 8).toNat := by omega
        refine GoH.seq ?_
        refine GoH.region ?_
        refine GoH.v (Vop.mv rfl rfl rfl rfl) ?_
        refine GoH.v (Vop.bin rfl rfl rfl rfl (bShr 8 rfl) rfl) ?_
        refine GoH.v (Vop.asg rfl rfl rfl rfl) ?_
        refine GoH.regionEnd ?_
        refine GoH.region ?_
        refine GoH.v (Vop.mv rfl rfl rfl rfl) ?_
        refine GoH.v (Vop.bin rfl rfl rfl rfl (bAdd (by omega)) rfl) ?_
        refine GoH.v (Vop.asg rfl rfl rfl rfl) ?_
        refine GoH.regionEnd ?_
        refine GoH.seq ?_
        refine GoH.region ?_
        refine GoH.v (Vop.mv rfl rfl rfl rfl) ?_
        refine GoH.v (Vop.mv rfl rfl rfl rfl) ?_
        refine GoH.v (Vop.conv rfl rfl rfl (cInt (a := ((((s >>> 16) >>> 8)).toNat : Int)) (k := .u8) Tryd.underlying33 Tryd.underlying5 (IntWalk.u8_in _ (by omega))) rfl) ?_
        refine GoH.v (Vop.idxC (l8 := len8tab) rfl rfl rfl rfl rfl Tryd.underlying9 (((s >>> 16) >>> 8)).toNat ⟨rfl, hx⟩) ?_
        refine GoH.v (Vop.conv rfl rfl rfl (cInt (a := ((len8tab.getD (((s >>> 16) >>> 8)).toNat 0).toNat : Int)) (k := .i64) Tryd.underlying5 Tryd.underlying3 (IntWalk.i64_in _ (by rw [len8_get hx]; omega))) rfl) ?_
        refine GoH.v (Vop.bin rfl rfl rfl rfl (bAddE (c := (lenN s.toNat : Int)) (by rw [len8_get hx, hl]; omega) (by omega)) rfl) ?_
        refine GoH.v (Vop.asg rfl rfl rfl rfl) ?_
        refine GoH.regionEnd ?_
        refine GoH.ret Tryd.f56 Tryd.func56 rfl (fun w' hS => ?_)
        exact ⟨hS.ext, rfl⟩
      · -- no
        have hc8 : ¬ 2 ^ 8 ≤ (s >>> 16).toNat := by simpa using hc
        have hb8 : (s >>> 16).toNat < 2 ^ 8 := by omega
        have hx : (s >>> 16).toNat < 256 := by omega
        have hl : lenN s.toNat = 16 + lenN (s >>> 16).toNat := by omega
        refine GoH.skip ?_
        refine GoH.seq ?_
        refine GoH.region ?_
        refine GoH.v (Vop.mv rfl rfl rfl rfl) ?_
        refine GoH.v (Vop.mv rfl rfl rfl rfl) ?_
        refine GoH.v (Vop.conv rfl rfl rfl (cInt (a := (((s >>> 16)).toNat : Int)) (k := .u8) Tryd.underlying33 Tryd.underlying5 (IntWalk.u8_in _ (by omega))) rfl) ?_
        refine GoH.v (Vop.idxC (l8 := len8tab) rfl rfl rfl rfl rfl Tryd.underlying9 ((s >>> 16)).toNat ⟨rfl, hx⟩) ?_
        refine GoH.v (Vop.conv rfl rfl rfl (cInt (a := ((len8tab.getD ((s >>> 16)).toNat 0).toNat : Int)) (k := .i64) Tryd.underlying5 Tryd.underlying3 (IntWalk.i64_in _ (by rw [len8_get hx]; omega))) rfl) ?_
        refine GoH.v (Vop.bin rfl rfl rfl rfl (bAddE (c := (lenN s.toNat : Int)) (by rw [len8_get hx, hl]; omega) (by omega)) rfl) ?_
        refine GoH.v (Vop.asg rfl rfl rfl rfl) ?_
        refine GoH.regionEnd ?_
        refine GoH.ret Tryd.f56 Tryd.func56 rfl (fun w' hS => ?_)
        exact ⟨hS.ext, rfl⟩
    · -- no
      have hc16 : ¬ 2 ^ 16 ≤ s.toNat := by simpa using hc
      have hb16 : s.toNat < 2 ^ 16 := by omega
      refine GoH.skip ?_
      refine GoH.seq ?_
      refine GoH.seq ?_
      refine GoH.region ?_
      refine GoH.v (Vop.mv rfl rfl rfl rfl) ?_
      refine GoH.v (Vop.bin (b := U 256#64) rfl rfl rfl rfl bGeUB rfl) ?_
      refine GoH.regionEnd ?_
      refine GoH.cond rfl (fun hc => ?_) (fun hc => ?_)
      · -- yes
        have hc8 : 2 ^ 8 ≤ s.toNat := by simpa using hc
        have hl8 : lenN s.toNat = 8 + lenN (s >>> 8).toNat := lenW_shift hc8
        have hb8 : (s >>> 8).toNat < 2 ^ 8 := shr_lt (by omega)
        have hx : (s >>> 8).toNat < 256 := by omega
        have hl : lenN s.toNat = 8 + lenN (s >>> 8).toNat := by omega
        refine GoH.seq ?_
        refine GoH.region ?_
        refine GoH.v (Vop.mv rfl rfl rfl rfl) ?_
        refine GoH.v (Vop.bin rfl rfl rfl rfl (bShr 8 rfl) rfl) ?_
        refine GoH.v (Vop.asg rfl rfl rfl rfl) ?_
        refine GoH.regionEnd ?_
        refine GoH.region ?_
        refine GoH.v (Vop.mv rfl rfl rfl rfl) ?_
        refine GoH.v (Vop.bin rfl rfl rfl rfl (bAdd (by omega)) rfl) ?_
        refine GoH.v (Vop.asg rfl rfl rfl rfl) ?_
        refine GoH.regionEnd ?_
        refine GoH.seq ?_
        refine GoH.region ?_
        refine GoH.v (Vop.mv rfl rfl rfl rfl) ?_
        refine GoH.v (Vop.mv rfl rfl rfl rfl) ?_
        refine GoH.v (Vop.conv rfl rfl rfl (cInt (a := (((s >>> 8)).toNat : Int)) (k := .u8) Tryd.underlying33 Tryd.underlying5 (IntWalk.u8_in _ (by omega))) rfl) ?_
        refine GoH.v (Vop.idxC (l8 := len8tab) rfl rfl rfl rfl rfl Tryd.underlying9 ((s >>> 8)).toNat ⟨rfl, hx⟩) ?_
        refine GoH.v (Vop.conv rfl rfl rfl (cInt (a := ((len8tab.getD ((s >>> 8)).toNat 0).toNat : Int)) (k := .i64) Tryd.underlying5 Tryd.underlying3 (IntWalk.i64_in _ (by rw [len8_get hx]; omega))) rfl) ?_
        refine GoH.v (Vop.bin rfl rfl rfl rfl (bAddE (c := (lenN s.toNat : Int)) (by rw [len8_get hx, hl]; omega) (by omega)) rfl) ?_
        refine GoH.v (Vop.asg rfl rfl rfl rfl) ?_
        refine GoH.regionEnd ?_
        refine GoH.ret Tryd.f56 Tryd.func56 rfl (fun w' hS => ?_)
        exact ⟨hS.ext, rfl⟩
      · -- no
        have hc8 : ¬ 2 ^ 8 ≤ s.toNat := by simpa using hc
        have hb8 : s.toNat < 2 ^ 8 := by omega
        have hx : s.toNat < 256 := by omega
        have hl : lenN s.toNat = 0 + lenN s.toNat := by omega
        refine GoH.skip ?_
        refine GoH.seq ?_
        refine GoH.region ?_
        refine GoH.v (Vop.mv rfl rfl rfl rfl) ?_
        refine GoH.v (Vop.mv rfl rfl rfl rfl) ?_
        refine GoH.v (Vop.conv rfl rfl rfl (cInt (a := (s.toNat : Int)) (k := .u8) Tryd.underlying33 Tryd.underlying5 (IntWalk.u8_in _ (by omega))) rfl) ?_
        refine GoH.v (Vop.idxC (l8 := len8tab) rfl rfl rfl rfl rfl Tryd.underlying9 s.toNat ⟨rfl, hx⟩) ?_
        refine GoH.v (Vop.conv rfl rfl rfl (cInt (a := ((len8tab.getD s.toNat 0).toNat : Int)) (k := .i64) Tryd.underlying5 Tryd.underlying3 (IntWalk.i64_in _ (by rw [len8_get hx]; omega))) rfl) ?_
        refine GoH.v (Vop.bin rfl rfl rfl rfl (bAddE (c := (lenN s.toNat : Int)) (by rw [len8_get hx, hl]; omega) (by omega)) rfl) ?_
        refine GoH.v (Vop.asg rfl rfl rfl rfl) ?_
        refine GoH.regionEnd ?_
        refine GoH.ret Tryd.f56 Tryd.func56 rfl (fun w' hS => ?_)
        exact ⟨hS.ext, rfl⟩
theorem bboth_c (a b : MV) (w : World) (ha : a.At w) (hb : b.At w) : Cn Tryd.prog 55 [a.v, b.v] w (fun v _ => v = .int .i64 (bothE a.n a.val a.rel b.n b.val b.rel)) := by
  have hra : a.rel.length = a.rows.length := by simp [MV.rel]
  have hrb : b.rel.length = b.rows.length := by simp [MV.rel]
  refine Cn.of Tryd.func55 rfl rfl ?_
  refine GoH.seq ?_
  refine GoH.region ?_
  refine GoH.bx rfl rfl rfl rfl (fun b2 => ?_)
  refine GoH.bx rfl rfl rfl rfl (fun b3 => ?_)
  refine GoH.v (Vop.asg rfl rfl rfl rfl) ?_
  refine GoH.regionEnd ?_
  refine GoH.seq ?_
  refine GoH.seq ?_
  refine GoH.region ?_
  refine GoH.v (Vop.ldB rfl rfl rfl rfl Tryd.isAgg25 1 rfl Tryd.sizeOf25 rfl) ?_
  refine GoH.callP rfl rfl rfl rfl rfl (fun _ _ => Tryd.call35 _ _) (fun w _ hS => (by exact mcheck_c a w (ha.ex0 hS.ext))) ?_
  refine GoH.v (Vop.asg rfl rfl rfl rfl) ?_
  refine GoH.regionEnd ?_
  refine GoH.seq ?_
  refine GoH.region ?_
  refine GoH.v (Vop.mv rfl rfl rfl rfl) ?_
  refine GoH.v (Vop.bin rfl rfl rfl rfl bNe rfl) ?_
  refine GoH.regionEnd ?_
  refine GoH.cond rfl (fun hc => ?_) (fun hc => ?_)
  · -- yes
    have h1 : checkM a.n a.val a.rel ≠ 0 := by simpa using hc
    refine GoH.seq ?_
    refine GoH.region ?_
    refine GoH.v (Vop.mv rfl rfl rfl rfl) ?_
    refine GoH.v (Vop.asg rfl rfl rfl rfl) ?_
    refine GoH.regionEnd ?_
    refine GoH.ret Tryd.f55 Tryd.func55 rfl (fun w' hS => ?_)
    exact ⟨hS.ext, by rw [bothE, if_pos h1]; rfl⟩
  · -- no
    have h1 : checkM a.n a.val a.rel = 0 := by simpa using hc
    refine GoH.skip ?_
    refine GoH.seq ?_
    refine GoH.seq ?_
    refine GoH.region ?_
    refine GoH.v (Vop.ldB rfl rfl rfl rfl Tryd.isAgg25 0 rfl Tryd.sizeOf25 rfl) ?_
    refine GoH.callP rfl rfl rfl rfl rfl (fun _ _ => Tryd.call35 _ _) (fun w _ hS => (by exact mcheck_c b w (hb.ex0 hS.ext))) ?_
    refine GoH.v (Vop.asg rfl rfl rfl rfl) ?_
    refine GoH.regionEnd ?_
    refine GoH.seq ?_
    refine GoH.region ?_
    refine GoH.v (Vop.mv rfl rfl rfl rfl) ?_
    refine GoH.v (Vop.bin rfl rfl rfl rfl bNe rfl) ?_
    refine GoH.regionEnd ?_
    refine GoH.cond rfl (fun hc => ?_) (fun hc => ?_)
    · -- yes
      have h2 : checkM b.n b.val b.rel ≠ 0 := by simpa using hc
      refine GoH.seq ?_
      refine GoH.region ?_
      refine GoH.v (Vop.mv rfl rfl rfl rfl) ?_
      refine GoH.v (Vop.asg rfl rfl rfl rfl) ?_
      refine GoH.regionEnd ?_
      refine GoH.ret Tryd.f55 Tryd.func55 rfl (fun w' hS => ?_)
      exact ⟨hS.ext, by rw [bothE, if_neg (by simp [h1]), if_pos h2]; rfl⟩
    · -- no
      have h2 : checkM b.n b.val b.rel = 0 := by simpa using hc
      refine GoH.skip ?_
      refine GoH.seq ?_
      refine GoH.seq ?_
      refine GoH.region ?_
      refine GoH.v (Vop.fldP rfl rfl rfl rfl Tryd.underlying25 rfl (by exact Tryd.sizeOf23) 2 rfl) ?_
      refine GoH.v (Vop.ldo (v := .slice a.ra a.rows.length a.rc) rfl rfl rfl rfl Tryd.isAgg23 1 rfl rfl) ?_
      refine GoH.v (Vop.blt rfl rfl rfl (blt_len_slice Tryd.underlying23) rfl) ?_
      refine GoH.v (Vop.fldP rfl rfl rfl rfl Tryd.underlying25 rfl (by exact Tryd.sizeOf23) 2 rfl) ?_
      refine GoH.v (Vop.ldo (v := .slice b.ra b.rows.length b.rc) rfl rfl rfl rfl Tryd.isAgg23 0 rfl rfl) ?_
      refine GoH.v (Vop.blt rfl rfl rfl (blt_len_slice Tryd.underlying23) rfl) ?_
      refine GoH.v (Vop.bin rfl rfl rfl rfl bNe rfl) ?_
      refine GoH.v (Vop.mv rfl rfl rfl rfl) ?_
      -- guard on slot 24 (bisim.go:139)
      refine GoH.cases (d := 24) rfl (fun hc => ?_) (fun hc => ?_)
      · -- yes
        have h3 : a.rows.length ≠ b.rows.length := by simp at hc; omega
        refine GoH.no rfl rfl rfl rfl ?_
        refine GoH.no rfl rfl rfl rfl ?_
        refine GoH.no rfl rfl rfl rfl ?_
        refine GoH.no rfl rfl rfl rfl ?_
        refine GoH.no rfl rfl rfl rfl ?_
        refine GoH.no rfl rfl rfl rfl ?_
        refine GoH.no rfl rfl rfl rfl ?_
        refine GoH.v (Vop.pickT rfl rfl rfl rfl rfl) ?_
        refine GoH.regionEnd ?_
        refine GoH.condT rfl ?_
        refine GoH.seq ?_
        refine GoH.region ?_
        refine GoH.v (Vop.asg rfl rfl rfl rfl) ?_
        refine GoH.regionEnd ?_
        refine GoH.ret Tryd.f55 Tryd.func55 rfl (fun w' hS => ?_)
        exact ⟨hS.ext, by rw [bothE, if_neg (by simp [h1]), if_neg (by simp [h2]), if_pos (.inl (by omega))]; rfl⟩
      · -- no
        have h3 : a.rows.length = b.rows.length := by simp at hc; omega
        refine GoH.v (Vop.fldP rfl rfl rfl rfl Tryd.underlying25 rfl (by exact Tryd.sizeOf22) 1 rfl) ?_
        refine GoH.v (Vop.ldo (v := .slice a.va a.val.length a.vc) rfl rfl rfl rfl Tryd.isAgg22 1 rfl rfl) ?_
        refine GoH.v (Vop.blt rfl rfl rfl (blt_len_slice Tryd.underlying22) rfl) ?_
        refine GoH.v (Vop.fldP rfl rfl rfl rfl Tryd.underlying25 rfl (by exact Tryd.sizeOf22) 1 rfl) ?_
        refine GoH.v (Vop.ldo (v := .slice b.va b.val.length b.vc) rfl rfl rfl rfl Tryd.isAgg22 0 rfl rfl) ?_
        refine GoH.v (Vop.blt rfl rfl rfl (blt_len_slice Tryd.underlying22) rfl) ?_
        refine GoH.v (Vop.bin rfl rfl rfl rfl bNe rfl) ?_
        refine GoH.v (Vop.pickF rfl rfl rfl rfl rfl) ?_
        refine GoH.regionEnd ?_
        refine GoH.cond rfl (fun hc => ?_) (fun hc => ?_)
        · -- yes
          have h4 : a.val.length ≠ b.val.length := by simp at hc; omega
          refine GoH.seq ?_
          refine GoH.region ?_
          refine GoH.v (Vop.asg rfl rfl rfl rfl) ?_
          refine GoH.regionEnd ?_
          refine GoH.ret Tryd.f55 Tryd.func55 rfl (fun w' hS => ?_)
          exact ⟨hS.ext, by rw [bothE, if_neg (by simp [h1]), if_neg (by simp [h2]), if_pos (.inr (by omega))]; rfl⟩
        · -- no
          have h4 : a.val.length = b.val.length := by simp at hc; omega
          refine GoH.skip ?_
          refine GoH.seq ?_
          refine GoH.region ?_
          refine GoH.v (Vop.asg rfl rfl rfl rfl) ?_
          refine GoH.regionEnd ?_
          refine GoH.ret Tryd.f55 Tryd.func55 rfl (fun w' hS => ?_)
          exact ⟨hS.ext, by rw [bothE, if_neg (by simp [h1]), if_neg (by simp [h2]), if_neg (by omega)]; rfl⟩
theorem relD {m : MV} {i : Nat} (h : i < m.rows.length) : m.rel.getD i [] = m.rows[i].xs := by simp [MV.rel, List.getD_eq_getElem?_getD, h]
set_option maxRecDepth 8000 in
theorem matched_c (a b : MV) (za : Option Addr) (zc : Nat) (z : List W64) (v x : Nat) (w : World) (hT : Tab w) (ha : a.At w) (hb : b.At w) (hva : ValM a.n a.val a.rel) (hvb : ValM b.n b.val b.rel) (hlr : a.rel.length = b.rel.length)
    (hz : SlU w za z) (hzl : (z.length : Int) = a.n) (hv : (v : Int) < a.n) (hx : (x : Int) < b.n) :
    Cn Tryd.prog 58 [a.v, b.v, .slice za z.length zc, .int .i64 v, .int .i64 x] w (fun r _ => r = .bool (matB a.val b.val a.rel b.rel z v x)) := by
  have hra : a.rel.length = a.rows.length := by simp [MV.rel]
  have hrb : b.rel.length = b.rows.length := by simp [MV.rel]
  have hn64 := hva.n64
  have hag := hva.agents
  refine Cn.of Tryd.func58 rfl rfl ?_
  refine GoH.seq ?_
  refine GoH.region ?_
  refine GoH.bx rfl rfl rfl rfl (fun b5 => ?_)
  refine GoH.bx rfl rfl rfl rfl (fun b6 => ?_)
  refine GoH.bx rfl rfl rfl rfl (fun b7 => ?_)
  refine GoH.bx rfl rfl rfl rfl (fun b9 => ?_)
  refine GoH.alc rfl rfl rfl (fun _ => Tryd.zeroValue4 _) (fun b10 => ?_)
  refine GoH.regionEnd ?_
  refine GoH.seq ?_
  refine GoH.seq ?_
  refine GoH.draw 7 mixed rfl ?_
  refine RdGo.v (Vop.ldB rfl rfl rfl rfl Tryd.isAgg25 4 rfl Tryd.sizeOf25 rfl) ?_
  refine RdGo.v (Vop.mv rfl rfl rfl rfl) ?_
  refine RdGo.callP rfl rfl rfl rfl rfl (fun _ _ => Tryd.call65 _ _) (fun w _ hS => facts_c a v w (ha.ex0 hS.ext) hva hv) ?_
  refine RdGo.v (Vop.ldB rfl rfl rfl rfl Tryd.isAgg25 3 rfl Tryd.sizeOf25 rfl) ?_
  refine RdGo.v (Vop.ldo rfl rfl rfl rfl Tryd.isAgg3 1 rfl rfl) ?_
  refine RdGo.callP rfl rfl rfl rfl rfl (fun _ _ => Tryd.call65 _ _) (fun w _ hS => facts_c b x w (hb.ex0 hS.ext) hvb hx) ?_
  refine RdGo.v (Vop.bin rfl rfl rfl rfl bNe rfl) ?_
  refine RdGo.nil ?_
  refine GoH.regionEnd ?_
  refine GoH.cond rfl (fun hc => ?_) (fun hc => ?_)
  · -- yes
    have h1 : fm a.val v ≠ fm b.val x := by simp at hc; omega
    refine GoH.seq ?_
    refine GoH.region ?_
    refine GoH.st rfl rfl rfl rfl Tryd.sizeOf4 rfl 0 rfl rfl ?_
    refine GoH.regionEnd ?_
    refine GoH.retC Tryd.f58 Tryd.func58 0 rfl rfl Tryd.isAgg4 rfl rfl (fun w' hS => ?_)
    exact ⟨hS.ext, by rw [matB, beq_false_of_ne h1]; rfl⟩
  · -- no
    have h1 : fm a.val v = fm b.val x := by simp at hc; omega
    refine GoH.skip ?_
    refine GoH.seq ?_
    refine GoH.seq ?_
    refine GoH.region ?_
    refine GoH.v (Vop.fldP rfl rfl rfl rfl Tryd.underlying25 rfl (by exact Tryd.sizeOf23) 2 rfl) ?_
    refine GoH.v (Vop.ldo (v := .slice a.ra a.rows.length a.rc) rfl rfl rfl rfl Tryd.isAgg23 4 rfl rfl) ?_
    refine GoH.v (Vop.blt rfl rfl rfl (blt_len_slice Tryd.underlying23) rfl) ?_
    refine GoH.v (Vop.mv rfl rfl rfl rfl) ?_
    refine GoH.regionEnd ?_
    refine GoH.block ?_
    refine GoH.loop (σ := Nat) (fun i => [(3, .int .i64 v), (5, .pointer (some ⟨b5, 0, none⟩)), (6, .pointer (some ⟨b6, 0, none⟩)), (7, .pointer (some ⟨b7, 0, none⟩)), (9, .pointer (some ⟨b9, 0, none⟩)), (10, .pointer (some ⟨b10, 0, none⟩)), (23, .int .i64 a.rows.length), (24, .int .i64 i)])
      (fun _ => [(some b10, .cells #[.bool false] 4 (0, 0)), (some b9, .cells #[.int .i64 x] 3 (0, 0)), (some b7, .cells #[.slice za z.length zc] 22 (0, 0)), (some b6, .cells b.v.cells 25 (0, 0)), (some b5, .cells a.v.cells 25 (0, 0))])
      (fun i => i ≤ a.rows.length ∧ ∀ j, j < i → forB (a.rel.getD j []) (b.rel.getD j []) z v x = true) (fun i => a.rows.length - i) 0 ⟨Nat.zero_le _, fun j hj => absurd hj (Nat.not_lt_zero _)⟩ ⟨rfl, rfl, rfl, rfl, rfl, rfl, rfl, rfl, trivial⟩ (List.Sublist.refl _) (fun i hI IH => ?_)
    obtain ⟨hi, hall⟩ := hI
    -- heap: b10 b9 b7 b6 b5
    -- ptr: 5=b5 6=b6 7=b7 9=b9 10=b10
    refine GoH.seq ?_
    refine GoH.region ?_
    refine GoH.v (Vop.bin rfl rfl rfl rfl bLt rfl) ?_
    refine GoH.regionEnd ?_
    refine GoH.seq ?_
    refine GoH.cond rfl (fun hc => ?_) (fun hc => ?_)
    · -- yes
      have hlt : i < a.rows.length := by simpa using hc
      have hlt2 : i < b.rows.length := by omega
      have hrowA := ha.row a.rows[i] (List.getElem_mem hlt)
      have hrowB := hb.row b.rows[i] (List.getElem_mem hlt2)
      have hrA : a.rows[i].xs ∈ a.rel := List.mem_map.2 ⟨_, List.getElem_mem hlt, rfl⟩
      have hlA := hva.len a.rows[i].xs hrA
      have hlB := hvb.len b.rows[i].xs (List.mem_map.2 ⟨_, List.getElem_mem hlt2, rfl⟩)
      have hpA := (hva.rels a.rows[i].xs hrA).pts v
      have hvr : v < a.rows[i].xs.length := by omega
      have hxr : x < b.rows[i].xs.length := by omega
      have hdA := relD hlt
      have hdB := relD hlt2
      refine GoH.skip ?_
      refine GoH.seq ?_
      refine GoH.block ?_
      refine GoH.seq ?_
      refine GoH.region ?_
      refine GoH.v (Vop.mv rfl rfl rfl rfl) ?_
      refine GoH.alc rfl rfl rfl (fun _ => Tryd.zeroValue3 _) (fun b11 => ?_)
      refine GoH.st rfl rfl rfl rfl Tryd.sizeOf3 rfl 0 rfl rfl ?_
      refine GoH.regionEnd ?_
      refine GoH.seq ?_
      refine GoH.region ?_
      refine GoH.alc rfl rfl rfl (fun _ => Tryd.zeroValue33 _) (fun b12 => ?_)
      refine GoH.regionEnd ?_
      refine GoH.seq ?_
      refine GoH.seq ?_
      refine GoH.region ?_
      refine GoH.v (Vop.fldP rfl rfl rfl rfl Tryd.underlying25 rfl (by exact Tryd.sizeOf23) 2 rfl) ?_
      refine GoH.v (Vop.ldo (v := .slice a.ra a.rows.length a.rc) rfl rfl rfl rfl Tryd.isAgg23 6 rfl rfl) ?_
      refine GoH.v (Vop.ldo rfl rfl rfl rfl Tryd.isAgg3 1 rfl rfl) ?_
      refine GoH.v (Vop.idx rfl rfl rfl rfl rfl Tryd.underlying23 Tryd.sizeOf22 ⟨_, ha.rel⟩ (by simp) (i) ⟨rfl, by simpa using hlt⟩) ?_
      refine GoH.v (Vop.ld rfl rfl rfl rfl Tryd.isAgg22 (fun w _ hS => (SlR.ex0 ha.rel hS.ext).at (i) hlt)) ?_
      refine GoH.v (Vop.mv rfl rfl rfl rfl) ?_
      refine GoH.v (Vop.idx rfl rfl rfl rfl rfl Tryd.underlying22 Tryd.sizeOf33 ⟨_, hrowA.at_⟩ (by simp) (v) ⟨rfl, by simpa using hvr⟩) ?_
      refine GoH.v (Vop.ld rfl rfl rfl rfl Tryd.isAgg33 (fun w _ hS => (SlU.ex0 hrowA.at_ hS.ext).at (v) hvr)) ?_
      refine GoH.callM _ rfl rfl rfl rfl rfl (fun _ _ => Tryd.call57 _ _) (fun w _ hS => members_c (a.rows[i].xs.getD v 0#64) w) ?_
      rintro r w1 w2 Y' hS he ⟨bp, rfl, hbp, hh⟩
      refine ⟨_, hS.gain he hh rfl hbp, ?_⟩
      -- heap: bp b12 b11 b10 b9 b7 b6 b5
      refine GoH.regionEnd ?_
      refine GoH.block ?_
      refine GoH.rangeF (σ := W64) (cap := [(some bp, .cells #[U (a.rows[i].xs.getD v 0#64)] 33 (0, 0))]) (fun acc => [(some b12, .cells #[U acc] 33 (0, 0)), (some b11, .cells #[.int .i64 i] 3 (0, 0)), (some b10, .cells #[.bool false] 4 (0, 0)), (some b9, .cells #[.int .i64 x] 3 (0, 0)), (some b7, .cells #[.slice za z.length zc] 22 (0, 0)), (some b6, .cells b.v.cells 25 (0, 0)), (some b5, .cells a.v.cells 25 (0, 0))])
        (fun q acc => acc = ((pts (a.rows[i].xs.getD v 0#64)).take q).foldl (fun o y => o ||| z.getD y 0#64) 0#64 ∧ ∀ y ∈ (pts (a.rows[i].xs.getD v 0#64)).take q, (z.getD y 0#64 &&& b.rows[i].xs.getD x 0#64 != 0#64) = true)
        (fun c _ => c = .ret ∧ forB (a.rel.getD i []) (b.rel.getD i []) z v x = false) 0#64
        rfl (fun _ _ => Tryd.call75 _ _) (members1_it w [] hT (by simp) _ bp) (args1 rfl) rfl ⟨rfl, fun y hy => by simp at hy⟩ (List.Sublist.refl _) ?_ ?_ ?_
      -- heap: b12 b11 b10 b9 b7 b6 b5
      · -- a round
        intro L Y' rec hi' q az acc haz hI hrec
        obtain ⟨hacc, hmet⟩ := hI
        rw [List.getElem?_map] at haz
        obtain ⟨y, hy, rfl⟩ := Option.map_eq_some_iff.1 haz
        have hyr : y < z.length := by have := hpA y (List.mem_of_getElem? hy); omega
        obtain ⟨hq1, hq2⟩ := List.getElem?_eq_some_iff.1 hy
        refine GoH.region ?_
        refine GoH.v (Vop.asg rfl rfl rfl rfl) ?_
        refine GoH.regionEnd ?_
        refine GoH.beginRound hrec ?_
        refine GoH.block ?_
        refine GoH.seq ?_
        refine GoH.seq ?_
        refine GoH.draw 14 mixed rfl ?_
        refine RdGo.v (Vop.ldo rfl rfl rfl rfl Tryd.isAgg22 4 rfl rfl) ?_
        refine RdGo.v (Vop.mv rfl rfl rfl rfl) ?_
        refine RdGo.v (Vop.idx rfl rfl rfl rfl rfl Tryd.underlying22 Tryd.sizeOf33 ⟨_, hz⟩ (by simp) (y) ⟨rfl, by simpa using hyr⟩) ?_
        refine RdGo.v (Vop.ld rfl rfl rfl rfl Tryd.isAgg33 (fun w _ hS => (SlU.ex0 hz hS.ext).at (y) hyr)) ?_
        refine RdGo.v (Vop.fldP rfl rfl rfl rfl Tryd.underlying25 rfl (by exact Tryd.sizeOf23) 2 rfl) ?_
        refine RdGo.v (Vop.ldo (v := .slice b.ra b.rows.length b.rc) rfl rfl rfl rfl Tryd.isAgg23 5 rfl rfl) ?_
        refine RdGo.v (Vop.ldo rfl rfl rfl rfl Tryd.isAgg3 1 rfl rfl) ?_
        refine RdGo.v (Vop.idx rfl rfl rfl rfl rfl Tryd.underlying23 Tryd.sizeOf22 ⟨_, hb.rel⟩ (by simp) (i) ⟨rfl, by simpa using hlt2⟩) ?_
        refine RdGo.v (Vop.ld rfl rfl rfl rfl Tryd.isAgg22 (fun w _ hS => (SlR.ex0 hb.rel hS.ext).at (i) hlt2)) ?_
        refine RdGo.v (Vop.ldo rfl rfl rfl rfl Tryd.isAgg3 3 rfl rfl) ?_
        refine RdGo.v (Vop.idx rfl rfl rfl rfl rfl Tryd.underlying22 Tryd.sizeOf33 ⟨_, hrowB.at_⟩ (by simp) (x) ⟨rfl, by simpa using hxr⟩) ?_
        refine RdGo.v (Vop.ld rfl rfl rfl rfl Tryd.isAgg33 (fun w _ hS => (SlU.ex0 hrowB.at_ hS.ext).at (x) hxr)) ?_
        refine RdGo.v (Vop.bin rfl rfl rfl rfl bAnd rfl) ?_
        refine RdGo.v (Vop.bin (b := U 0#64) rfl rfl rfl rfl bEqU rfl) ?_
        refine RdGo.nil ?_
        refine GoH.regionEnd ?_
        refine GoH.cond rfl (fun hc => ?_) (fun hc => ?_)
        · -- yes
          have h2 : z.getD y 0#64 &&& b.rows[i].xs.getD x 0#64 = 0#64 := by simpa using hc
          refine GoH.seq ?_
          refine GoH.region ?_
          refine GoH.st rfl rfl rfl rfl Tryd.sizeOf4 rfl 2 rfl rfl ?_
          refine GoH.regionEnd ?_
          refine GoH.rRet acc ⟨rfl, ?_⟩ (List.Sublist.refl _)
          rw [Bool.eq_false_iff]
          intro hf
          unfold forB at hf
          rw [hdA, hdB, Bool.and_eq_true, List.all_eq_true] at hf
          have h3 := hf.1 y (List.mem_of_getElem? hy)
          rw [h2] at h3
          simp at h3
        · -- no
          have h2 : z.getD y 0#64 &&& b.rows[i].xs.getD x 0#64 ≠ 0#64 := by simpa using hc
          refine GoH.skip ?_
          refine GoH.draw 6 mixed rfl ?_
          refine RdGo.v (Vop.ldo rfl rfl rfl rfl Tryd.isAgg33 0 rfl rfl) ?_
          refine RdGo.v (Vop.ldo rfl rfl rfl rfl Tryd.isAgg22 4 rfl rfl) ?_
          refine RdGo.v (Vop.mv rfl rfl rfl rfl) ?_
          refine RdGo.v (Vop.idx rfl rfl rfl rfl rfl Tryd.underlying22 Tryd.sizeOf33 ⟨_, hz⟩ (by simp) (y) ⟨rfl, by simpa using hyr⟩) ?_
          refine RdGo.v (Vop.ld rfl rfl rfl rfl Tryd.isAgg33 (fun w _ hS => (SlU.ex0 hz hS.ext).at (y) hyr)) ?_
          refine RdGo.v (Vop.bin rfl rfl rfl rfl bOr rfl) ?_
          refine RdGo.nil ?_
          refine GoH.st rfl rfl rfl rfl Tryd.sizeOf33 rfl 0 rfl rfl ?_
          refine GoH.regionEnd ?_
          refine GoH.inBlock ?_
          exact GoH.rEnd (acc ||| z.getD y 0#64) ⟨by rw [List.take_succ_eq_append_getElem hq1, List.foldl_append, ← hacc, hq2]; rfl, fun u hu => by
            rw [List.take_succ_eq_append_getElem hq1] at hu
            rcases List.mem_append.1 hu with hu | hu
            · exact hmet u hu
            · rw [List.mem_singleton.1 hu, hq2]; simpa using h2⟩ (List.Sublist.refl _)
      · -- all have come
        rintro acc ⟨hacc, hmet⟩
        rw [List.length_map, List.take_length] at hacc hmet
        have hmr : acc = mapR z (a.rows[i].xs.getD v 0#64) := by rw [hacc]; rfl
        refine GoH.inBlock ?_
        refine GoH.seq ?_
        refine GoH.draw 11 mixed rfl ?_
        refine RdGo.v (Vop.fldP rfl rfl rfl rfl Tryd.underlying25 rfl (by exact Tryd.sizeOf23) 2 rfl) ?_
        refine RdGo.v (Vop.ldo (v := .slice b.ra b.rows.length b.rc) rfl rfl rfl rfl Tryd.isAgg23 5 rfl rfl) ?_
        refine RdGo.v (Vop.ldo rfl rfl rfl rfl Tryd.isAgg3 1 rfl rfl) ?_
        refine RdGo.v (Vop.idx rfl rfl rfl rfl rfl Tryd.underlying23 Tryd.sizeOf22 ⟨_, hb.rel⟩ (by simp) (i) ⟨rfl, by simpa using hlt2⟩) ?_
        refine RdGo.v (Vop.ld rfl rfl rfl rfl Tryd.isAgg22 (fun w _ hS => (SlR.ex0 hb.rel hS.ext).at (i) hlt2)) ?_
        refine RdGo.v (Vop.ldo rfl rfl rfl rfl Tryd.isAgg3 3 rfl rfl) ?_
        refine RdGo.v (Vop.idx rfl rfl rfl rfl rfl Tryd.underlying22 Tryd.sizeOf33 ⟨_, hrowB.at_⟩ (by simp) (x) ⟨rfl, by simpa using hxr⟩) ?_
        refine RdGo.v (Vop.ld rfl rfl rfl rfl Tryd.isAgg33 (fun w _ hS => (SlU.ex0 hrowB.at_ hS.ext).at (x) hxr)) ?_
        refine RdGo.v (Vop.ldo rfl rfl rfl rfl Tryd.isAgg33 0 rfl rfl) ?_
        refine RdGo.v (Vop.bin rfl rfl rfl rfl bAndNot rfl) ?_
        refine RdGo.v (Vop.bin (b := U 0#64) rfl rfl rfl rfl bNeU rfl) ?_
        refine RdGo.nil ?_
        refine GoH.regionEnd ?_
        refine GoH.cond rfl (fun hc => ?_) (fun hc => ?_)
        · -- yes
          have h2 : b.rows[i].xs.getD x 0#64 &&& ~~~acc ≠ 0#64 := by simpa using hc
          refine GoH.seq ?_
          refine GoH.region ?_
          refine GoH.st rfl rfl rfl rfl Tryd.sizeOf4 rfl 2 rfl rfl ?_
          refine GoH.regionEnd ?_
          refine GoH.retC Tryd.f58 Tryd.func58 2 rfl rfl Tryd.isAgg4 rfl rfl (fun w' hS => ?_)
          refine ⟨hS.ext, ?_⟩
          have hf : forB (a.rel.getD i []) (b.rel.getD i []) z v x = false := by
            unfold forB
            rw [hdA, hdB, ← hmr, beq_false_of_ne h2, Bool.and_false]
          rw [matB, List.all_eq_false.2 ⟨i, List.mem_range.2 (by omega), by rw [hf]; decide⟩, Bool.and_false]
          rfl
        · -- no
          have h2 : b.rows[i].xs.getD x 0#64 &&& ~~~acc = 0#64 := by simpa using hc
          have hf : forB (a.rel.getD i []) (b.rel.getD i []) z v x = true := by
            unfold forB
            rw [hdA, hdB, ← hmr, h2, Bool.and_eq_true, List.all_eq_true]
            exact ⟨fun y hy => hmet y hy, rfl⟩
          refine GoH.skip ?_
          refine GoH.inBlock ?_
          refine GoH.region ?_
          refine GoH.v (Vop.bin rfl rfl rfl rfl (bAdd (by omega)) rfl) ?_
          refine GoH.v (Vop.mv rfl rfl rfl rfl) ?_
          refine GoH.regionEnd ?_
          exact IH (i + 1) _ _ ⟨hlt, fun j hj => by
          by_cases e : j = i
          · subst e; exact hf
          · exact hall j (by omega)⟩ (by omega) ⟨rfl, rfl, rfl, rfl, rfl, rfl, rfl, rfl, trivial⟩ (.cons _ (.cons _ (List.Sublist.refl _)))
      · -- stopped
        rintro c acc ⟨rfl, hf⟩
        refine GoH.retC Tryd.f58 Tryd.func58 2 rfl rfl Tryd.isAgg4 rfl rfl (fun w' hS => ?_)
        refine ⟨hS.ext, ?_⟩
        rw [matB, List.all_eq_false.2 ⟨i, List.mem_range.2 (by omega), by rw [hf]; decide⟩, Bool.and_false]
        rfl
    · -- no
      have hge : ¬ i < a.rows.length := by simpa using hc
      refine GoH.exit rfl ?_
      refine GoH.seq ?_
      refine GoH.region ?_
      refine GoH.st rfl rfl rfl rfl Tryd.sizeOf4 rfl 0 rfl rfl ?_
      refine GoH.regionEnd ?_
      refine GoH.retC Tryd.f58 Tryd.func58 0 rfl rfl Tryd.isAgg4 rfl rfl (fun w' hS => ?_)
      refine ⟨hS.ext, ?_⟩
      rw [matB_iff.2 ⟨h1, fun j hj => hall j (by omega)⟩]
      rfl
end Go.Proofs.YtcljmlnnfdaljaaDoor
