/- Contracts of functions of the program: what each call returns and that nothing else of memory is turned, under the conditions that each theorem states. -/
import Derived.Test.YtoiafcoaeomnlaaDoorL1
namespace Go.Proofs.YtoiafcoaeomnlaaDoor
open Go.RowKit Go.Proofs.Wit
/-! the laws, 1 -/
theorem checks_c (n : Int) (a : Option Addr) (ca : Nat) (r : List W64) (p : Int) (w : World) (hT : Tab w) (ha : SlU w a r) (hl : r.length ≤ maxLen) :
    Cn Tryd.prog 3 [.int .i64 n, .slice a r.length ca, .int .i64 p] w (fun v _ => v = .bool true) := by
  refine Cn.of Tryd.func3 rfl rfl ?_
  refine GoH.seq ?_
  refine GoH.region ?_
  refine GoH.v (Vop.asg rfl rfl rfl rfl) ?_
  refine GoH.regionEnd ?_
  refine GoH.seq ?_
  refine GoH.seq ?_
  refine GoH.region ?_
  refine GoH.v (Vop.mv rfl rfl rfl rfl) ?_
  refine GoH.v (Vop.blt rfl rfl rfl (blt_len_slice Tryd.underlying22) rfl) ?_
  refine GoH.v (Vop.bin rfl rfl rfl rfl bGt rfl) ?_
  refine GoH.regionEnd ?_
  refine GoH.cond rfl (fun hc => ?_) (fun hc => ?_)
  · -- yes
    refine GoH.seq ?_
    refine GoH.region ?_
    refine GoH.callP rfl rfl rfl rfl rfl (fun _ _ => Tryd.call12 _ _) (fun w _ hS => awake_c w (hT.ex hS.ext)) ?_
    refine GoH.v (Vop.asg rfl rfl rfl rfl) ?_
    refine GoH.regionEnd ?_
    refine GoH.ret Tryd.f3 Tryd.func3 rfl (fun w' hS => ?_)
    exact ⟨hS.ext, rfl⟩
  · -- no
    refine GoH.skip ?_
    refine GoH.seq ?_
    refine GoH.region ?_
    refine GoH.v (Vop.mv rfl rfl rfl rfl) ?_
    refine GoH.v (Vop.mv rfl rfl rfl rfl) ?_
    refine GoH.callP rfl rfl rfl rfl rfl (fun _ _ => Tryd.call13 _ _) (fun w _ hS => check_c n a ca r w (ha.ex0 hS.ext) hl) ?_
    refine GoH.v (Vop.mv rfl rfl rfl rfl) ?_
    refine GoH.v (Vop.mv rfl rfl rfl rfl) ?_
    refine GoH.callP rfl rfl rfl rfl rfl (fun _ _ => Tryd.call14 _ _) (fun w _ hS => rCheck_c n a ca r w (ha.ex0 hS.ext) hl) ?_
    refine GoH.v (Vop.bin rfl rfl rfl rfl (bEqV (v := true) (beq_self_eq_true _)) rfl) ?_
    refine GoH.v (Vop.mv rfl rfl rfl rfl) ?_
    refine GoH.v (Vop.mv rfl rfl rfl rfl) ?_
    refine GoH.v (Vop.blt rfl rfl rfl (blt_len_slice Tryd.underlying22) rfl) ?_
    refine GoH.v (Vop.mv rfl rfl rfl rfl) ?_
    refine GoH.callP rfl rfl rfl rfl rfl (fun _ _ => Tryd.call13 _ _) (fun w _ hS => check_c _ a ca r w (ha.ex0 hS.ext) hl) ?_
    refine GoH.v (Vop.mv rfl rfl rfl rfl) ?_
    refine GoH.v (Vop.blt rfl rfl rfl (blt_len_slice Tryd.underlying22) rfl) ?_
    refine GoH.v (Vop.mv rfl rfl rfl rfl) ?_
    refine GoH.callP rfl rfl rfl rfl rfl (fun _ _ => Tryd.call14 _ _) (fun w _ hS => rCheck_c _ a ca r w (ha.ex0 hS.ext) hl) ?_
    refine GoH.v (Vop.bin rfl rfl rfl rfl (bEqV (v := true) (beq_self_eq_true _)) rfl) ?_
    refine GoH.v (Vop.pickT rfl rfl rfl rfl rfl) ?_
    refine GoH.v (Vop.mv rfl rfl rfl rfl) ?_
    refine GoH.v (Vop.mv rfl rfl rfl rfl) ?_
    refine GoH.v (Vop.mv rfl rfl rfl rfl) ?_
    refine GoH.callP rfl rfl rfl rfl rfl (fun _ _ => Tryd.call15 _ _) (fun w _ hS => has_c a ca r p w (hT.ex hS.ext) (ha.ex0 hS.ext) hl) ?_
    refine GoH.v (Vop.mv rfl rfl rfl rfl) ?_
    refine GoH.v (Vop.mv rfl rfl rfl rfl) ?_
    refine GoH.callP rfl rfl rfl rfl rfl (fun _ _ => Tryd.call16 _ _) (fun w _ hS => rHas_c a ca r p w (ha.ex0 hS.ext) hl) ?_
    refine GoH.v (Vop.bin rfl rfl rfl rfl (bEqBV Tryd.underlying4 (v := true) (beq_self_eq_true _)) rfl) ?_
    refine GoH.v (Vop.pickT rfl rfl rfl rfl rfl) ?_
    refine GoH.v (Vop.mv rfl rfl rfl rfl) ?_
    refine GoH.callP rfl rfl rfl rfl rfl (fun _ _ => Tryd.call12 _ _) (fun w _ hS => awake_c w (hT.ex hS.ext)) ?_
    refine GoH.v (Vop.pickT rfl rfl rfl rfl rfl) ?_
    refine GoH.v (Vop.asg rfl rfl rfl rfl) ?_
    refine GoH.regionEnd ?_
    refine GoH.ret Tryd.f3 Tryd.func3 rfl (fun w' hS => ?_)
    exact ⟨hS.ext, rfl⟩
theorem looks_c (a : Option Addr) (ca : Nat) (r : List W64) (s : W64) (w : World) (hT : Tab w) (ha : SlU w a r) (hl : r.length ≤ maxLen) :
    Cn Tryd.prog 4 [.slice a r.length ca, U s] w (fun v _ => v = .bool true) := by
  refine Cn.of Tryd.func4 rfl rfl ?_
  refine GoH.seq ?_
  refine GoH.region ?_
  refine GoH.v (Vop.asg rfl rfl rfl rfl) ?_
  refine GoH.regionEnd ?_
  refine GoH.seq ?_
  refine GoH.seq ?_
  refine GoH.region ?_
  refine GoH.v (Vop.mv rfl rfl rfl rfl) ?_
  refine GoH.v (Vop.blt rfl rfl rfl (blt_len_slice Tryd.underlying22) rfl) ?_
  refine GoH.v (Vop.bin rfl rfl rfl rfl bGt rfl) ?_
  refine GoH.regionEnd ?_
  refine GoH.cond rfl (fun hc => ?_) (fun hc => ?_)
  · -- yes
    refine GoH.seq ?_
    refine GoH.region ?_
    refine GoH.callP rfl rfl rfl rfl rfl (fun _ _ => Tryd.call12 _ _) (fun w _ hS => awake_c w (hT.ex hS.ext)) ?_
    refine GoH.v (Vop.asg rfl rfl rfl rfl) ?_
    refine GoH.regionEnd ?_
    refine GoH.ret Tryd.f4 Tryd.func4 rfl (fun w' hS => ?_)
    exact ⟨hS.ext, rfl⟩
  · -- no
    refine GoH.skip ?_
    refine GoH.seq ?_
    refine GoH.region ?_
    refine GoH.v (Vop.mv rfl rfl rfl rfl) ?_
    refine GoH.v (Vop.mv rfl rfl rfl rfl) ?_
    refine GoH.callP rfl rfl rfl rfl rfl (fun _ _ => Tryd.call17 _ _) (fun w _ hS => box_c a ca r s w (ha.ex0 hS.ext) hl) ?_
    refine GoH.v (Vop.mv rfl rfl rfl rfl) ?_
    refine GoH.v (Vop.mv rfl rfl rfl rfl) ?_
    refine GoH.callP rfl rfl rfl rfl rfl (fun _ _ => Tryd.call18 _ _) (fun w _ hS => rBox_c a ca r s w (ha.ex0 hS.ext) hl) ?_
    refine GoH.v (Vop.bin rfl rfl rfl rfl (bEqUV (v := true) (beq_self_eq_true _)) rfl) ?_
    refine GoH.v (Vop.mv rfl rfl rfl rfl) ?_
    refine GoH.v (Vop.mv rfl rfl rfl rfl) ?_
    refine GoH.v (Vop.mv rfl rfl rfl rfl) ?_
    refine GoH.callP rfl rfl rfl rfl rfl (fun _ _ => Tryd.call19 _ _) (fun w _ hS => diamond_c a ca r s w (ha.ex0 hS.ext) hl) ?_
    refine GoH.v (Vop.mv rfl rfl rfl rfl) ?_
    refine GoH.v (Vop.mv rfl rfl rfl rfl) ?_
    refine GoH.callP rfl rfl rfl rfl rfl (fun _ _ => Tryd.call20 _ _) (fun w _ hS => rDiamond_c a ca r s w (ha.ex0 hS.ext) hl) ?_
    refine GoH.v (Vop.bin rfl rfl rfl rfl (bEqUV (v := true) (beq_self_eq_true _)) rfl) ?_
    refine GoH.v (Vop.pickT rfl rfl rfl rfl rfl) ?_
    refine GoH.v (Vop.mv rfl rfl rfl rfl) ?_
    refine GoH.v (Vop.mv rfl rfl rfl rfl) ?_
    refine GoH.v (Vop.mv rfl rfl rfl rfl) ?_
    refine GoH.callM _ rfl rfl rfl rfl rfl (fun _ _ => Tryd.call21 _ _) (fun w _ hS => reach_c a ca r s w (hT.ex hS.ext) (ha.ex0 hS.ext) hl) ?_
    rintro v w1 w2 Y' hS he ⟨o1, rfl, ho1⟩
    refine ⟨_, hS.later he, ?_⟩
    refine GoH.v (Vop.mv rfl rfl rfl rfl) ?_
    refine GoH.v (Vop.mv rfl rfl rfl rfl) ?_
    refine GoH.callM _ rfl rfl rfl rfl rfl (fun _ _ => Tryd.call22 _ _) (fun w _ hS => rReach_c a ca r s w (ha.ex0 hS.ext) hl) ?_
    rintro v w1 w2 Y' hS he ⟨o2, rfl, ho2⟩
    obtain rfl := ho1.uniq ho2
    refine ⟨_, hS.later he, ?_⟩
    refine GoH.v (Vop.bin rfl rfl rfl rfl (bEqUV (v := true) (beq_self_eq_true _)) rfl) ?_
    refine GoH.v (Vop.pickT rfl rfl rfl rfl rfl) ?_
    refine GoH.v (Vop.mv rfl rfl rfl rfl) ?_
    refine GoH.callP rfl rfl rfl rfl rfl (fun _ _ => Tryd.call12 _ _) (fun w _ hS => awake_c w (hT.ex hS.ext)) ?_
    refine GoH.v (Vop.pickT rfl rfl rfl rfl rfl) ?_
    refine GoH.v (Vop.asg rfl rfl rfl rfl) ?_
    refine GoH.regionEnd ?_
    refine GoH.ret Tryd.f4 Tryd.func4 rfl (fun w' hS => ?_)
    exact ⟨hS.ext, rfl⟩
end Go.Proofs.YtoiafcoaeomnlaaDoor
