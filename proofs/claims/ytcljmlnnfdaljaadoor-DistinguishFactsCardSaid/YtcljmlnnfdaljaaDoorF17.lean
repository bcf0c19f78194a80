/- What calls of the program return, under the conditions that each theorem states. -/
import Derived.Test.YtcljmlnnfdaljaaDoorF15
import Derived.Test.YtcljmlnnfdaljaaDoorF16
namespace Go.Proofs.YtcljmlnnfdaljaaDoor
open Go.RowKit Go.Proofs.Wit
/-! the reference on partitions -/
theorem rBit_c (s : W64) (i : Nat) (w : World) : Cn Tryd.prog 109 [U s, .int .i64 i] w (fun v _ => v = .bool (s.getLsbD i)) := by
  refine Cn.of Tryd.func109 rfl rfl ?_
  refine GoH.seq (GoH.region ?_)
  refine GoH.v (Vop.asg rfl rfl rfl rfl) ?_
  refine GoH.regionEnd (GoH.seq (GoH.region ?_))
  refine GoH.v (Vop.mv rfl rfl rfl rfl) ?_
  refine GoH.v (Vop.bin rfl rfl rfl rfl (bGeV (v := true) (decide_eq_true (by omega))) rfl) ?_
  iterate 2 refine GoH.v (Vop.mv rfl rfl rfl rfl) ?_
  refine GoH.v (Vop.bin rfl rfl rfl rfl bLt rfl) ?_
  refine GoH.v (Vop.pickT rfl rfl rfl rfl rfl) ?_
  refine GoH.v (Vop.mv rfl rfl rfl rfl) ?_
  refine GoH.cases (d := 11) rfl (fun hc => ?_) (fun hc => ?_)
  ·
   have hlt : i < 64 := by simp at hc; omega
   iterate 2 refine GoH.v (Vop.mv rfl rfl rfl rfl) ?_
   refine GoH.v (Vop.bin rfl rfl rfl rfl (bShr i rfl) rfl) ?_
   refine GoH.v (Vop.bin (b := U 2#64) rfl rfl rfl rfl bRem2 rfl) ?_
   refine GoH.v (Vop.bin (b := U 1#64) rfl rfl rfl rfl bEqU rfl) ?_
   refine GoH.v (Vop.pickT rfl rfl rfl rfl rfl) ?_
   refine GoH.v (Vop.asg rfl rfl rfl rfl) ?_
   refine GoH.regionEnd ?_
   refine GoH.ret Tryd.f109 Tryd.func109 rfl (fun w' hS => ?_)
   exact ⟨hS.ext, by rw [← in_bit]; rfl⟩
  ·
   have hge : ¬ i < 64 := by simp at hc; omega
   iterate 5 refine GoH.no rfl rfl rfl rfl ?_
   refine GoH.v (Vop.pickF rfl rfl rfl rfl rfl) ?_
   refine GoH.v (Vop.asg rfl rfl rfl rfl) ?_
   refine GoH.regionEnd ?_
   refine GoH.ret Tryd.f109 Tryd.func109 rfl (fun w' hS => ?_)
   refine ⟨hS.ext, ?_⟩
   cases h : s.getLsbD i with
   | false => rfl
   | true => exact absurd (bit_lt h) hge
end Go.Proofs.YtcljmlnnfdaljaaDoor
