/- What calls of the program return, under the conditions that each theorem states. -/
import Derived.Test.YtcljmlnnfdaljaaDoorF30
import Derived.Test.YtcljmlnnfdaljaaDoorF31
namespace Go.Proofs.YtcljmlnnfdaljaaDoor
open Go.RowKit Go.Proofs.Wit
/-! the program's makers of formulas -/
theorem poss_c (i : Int) (a : Option Addr) (ca : Nat) (f : List NV) (w : World) (ha : FA w a f) (hl : f.length ≤ maxLen) : Cn Tryd.prog 97 [.int .i64 i, .slice a f.length ca] w (fun v w' => OwnN 43 w w' v (bldF ⟨10, i, 0, 0, 0, 0⟩ [f])) := by
  refine Cn.of Tryd.func97 rfl rfl ?_
  refine GoH.seq (GoH.region ?_)
  refine GoH.v (Vop.asg rfl rfl rfl rfl) ?_
  refine GoH.regionEnd (GoH.seq (GoH.region ?_))
  refine GoH.v (Vop.mv rfl rfl rfl rfl) ?_
  refine GoH.v (Vop.bld rfl rfl rfl rfl (bld (c := [_, _, _, _, _, _]) Tryd.underlying43 (Szs.cons Tryd.sizeOf3 (Szs.cons Tryd.sizeOf3 (Szs.cons Tryd.sizeOf3 (Szs.cons Tryd.sizeOf3 (Szs.cons Tryd.sizeOf3 (Szs.cons Tryd.sizeOf3 Szs.nil)))))) Tryd.zeroValue43 rfl)) ?_
  refine GoH.v (Vop.mv rfl rfl rfl rfl) ?_
  refine GoH.bsN (c := [_]) rfl rfl rfl rfl Tryd.underlying107 Tryd.sizeOf26 Tryd.zeroValue26 rfl rfl (fun b8 => ?_)
  refine GoH.callM _ rfl rfl rfl rfl rfl (fun _ _ => Tryd.call107 _ _) (fun w _ hS => (by exact build_c ⟨10, i, 0, 0, 0, 0⟩ (some ⟨b8, 0, none⟩) 1 [⟨a, ca, f⟩] [f] w rfl (Sl.blk (sp := []) (hS.get (j := 0) rfl)) (fun g hg => by rw [List.mem_singleton.1 hg]; exact ha.ex0 hS.ext) (fun g hg => by rw [List.mem_singleton.1 hg]; exact hl) (by simp))) ?_
  rintro v w1 w2 Y' hS he ho
  obtain ⟨q, cap, sp, rfl, hq, hcap, hS'⟩ := gainN hS he ho
  refine ⟨_, hS', ?_⟩
  refine GoH.v (Vop.asg rfl rfl rfl rfl) ?_
  refine GoH.regionEnd ?_
  refine GoH.ret Tryd.f97 Tryd.func97 rfl (fun w' hS => ?_)
  exact ⟨hS.ext, OwnN.mk hS 0 rfl rfl hq hcap⟩
theorem fact_c (i : Int) (w : World) : Cn Tryd.prog 108 [.int .i64 i] w (fun v w' => OwnN 43 w w' v (bldF ⟨3, i, 0, 0, 0, 0⟩ [])) := by
  refine Cn.of Tryd.func108 rfl rfl ?_
  refine GoH.seq (GoH.region ?_)
  refine GoH.v (Vop.asg rfl rfl rfl rfl) ?_
  refine GoH.regionEnd (GoH.seq (GoH.region ?_))
  refine GoH.v (Vop.mv rfl rfl rfl rfl) ?_
  refine GoH.v (Vop.bld rfl rfl rfl rfl (bld (c := [_, _, _, _, _, _]) Tryd.underlying43 (Szs.cons Tryd.sizeOf3 (Szs.cons Tryd.sizeOf3 (Szs.cons Tryd.sizeOf3 (Szs.cons Tryd.sizeOf3 (Szs.cons Tryd.sizeOf3 (Szs.cons Tryd.sizeOf3 Szs.nil)))))) Tryd.zeroValue43 rfl)) ?_
  refine GoH.callM _ rfl rfl rfl rfl rfl (fun _ _ => Tryd.call107 _ _) (fun w _ hS => (by exact build_c ⟨3, i, 0, 0, 0, 0⟩ none 0 [] [] w rfl (Sl.nil _ _) (fun g hg => by cases hg) (fun g hg => by cases hg) (by simp))) ?_
  rintro v w1 w2 Y' hS he ho
  obtain ⟨q, cap, sp, rfl, hq, hcap, hS'⟩ := gainN hS he ho
  refine ⟨_, hS', ?_⟩
  refine GoH.v (Vop.asg rfl rfl rfl rfl) ?_
  refine GoH.regionEnd ?_
  refine GoH.ret Tryd.f108 Tryd.func108 rfl (fun w' hS => ?_)
  exact ⟨hS.ext, OwnN.mk hS 0 rfl rfl hq hcap⟩
end Go.Proofs.YtcljmlnnfdaljaaDoor
