/- What calls of the program return, under the conditions that each theorem states. -/
import Derived.Test.YthojdcaojjmoaaaGreatDoorB22
import Derived.Test.YthojdcaojjmoaaaGreatDoorB23
import Derived.Test.YthojdcaojjmoaaaGreatDoorB04
namespace Go.Proofs.YthojdcaojjmoaaaGreatDoor
open Go.RowKit Go.Proofs.Wit
/-! the program's makers of formulas -/
theorem poss_c (i : Int) (a : Option Addr) (ca : Nat) (f : List NV) (w : World) (ha : FA w a f) (hl : f.length ≤ maxLen) : Cn Tryz.prog 78 [.int .i64 i, .slice a f.length ca] w (fun v w' => OwnN 54 w w' v (bldF ⟨10, i, 0, 0, 0, 0⟩ [f])) := by
  refine Cn.of Tryz.func78 rfl rfl ?_
  refine gS (gR ?_)
  refine gAs ?_
  refine gE (gS (gR ?_))
  refine gMv ?_
  refine GoH.v (Vop.bld rfl rfl rfl rfl (bld (c := [_, _, _, _, _, _]) Tryz.underlying54 (Szs.cons Tryz.sizeOf3 (Szs.cons Tryz.sizeOf3 (Szs.cons Tryz.sizeOf3 (Szs.cons Tryz.sizeOf3 (Szs.cons Tryz.sizeOf3 (Szs.cons Tryz.sizeOf3 Szs.nil)))))) Tryz.zeroValue54 rfl)) ?_
  refine gMv ?_
  refine GoH.bsN (c := [_]) rfl rfl rfl rfl Tryz.underlying138 Tryz.sizeOf26 Tryz.zeroValue26 rfl rfl (fun b8 => ?_)
  refine GoH.callM _ rfl rfl rfl rfl rfl (fun _ _ => Tryz.call102 _ _) (fun w _ hS => (by exact build_c ⟨10, i, 0, 0, 0, 0⟩ (some ⟨b8, 0, none⟩) 1 [⟨a, ca, f⟩] [f] w rfl (Sl.blk (sp := []) (hS.get (j := 0) rfl)) (fun g hg => by rw [List.mem_singleton.1 hg]; exact ha.ex0 hS.ext) (fun g hg => by rw [List.mem_singleton.1 hg]; exact hl) (by simp))) ?_
  rintro v w1 w2 Y' hS he ho
  obtain ⟨q, cap, sp, rfl, hq, hcap, hS'⟩ := gainN hS he ho
  refine ⟨_, hS', ?_⟩
  refine gAs ?_
  refine gE ?_
  refine GoH.ret Tryz.f78 Tryz.func78 rfl (fun w' hS => ?_)
  exact ⟨hS.ext, OwnN.mk hS 0 rfl rfl hq hcap⟩
theorem fact_c (i : Int) (w : World) : Cn Tryz.prog 101 [.int .i64 i] w (fun v w' => OwnN 54 w w' v (bldF ⟨3, i, 0, 0, 0, 0⟩ [])) := by
  refine Cn.of Tryz.func101 rfl rfl ?_
  refine gS (gR ?_)
  refine gAs ?_
  refine gE (gS (gR ?_))
  refine gMv ?_
  refine GoH.v (Vop.bld rfl rfl rfl rfl (bld (c := [_, _, _, _, _, _]) Tryz.underlying54 (Szs.cons Tryz.sizeOf3 (Szs.cons Tryz.sizeOf3 (Szs.cons Tryz.sizeOf3 (Szs.cons Tryz.sizeOf3 (Szs.cons Tryz.sizeOf3 (Szs.cons Tryz.sizeOf3 Szs.nil)))))) Tryz.zeroValue54 rfl)) ?_
  refine GoH.callM _ rfl rfl rfl rfl rfl (fun _ _ => Tryz.call102 _ _) (fun w _ hS => (by exact build_c ⟨3, i, 0, 0, 0, 0⟩ none 0 [] [] w rfl (Sl.nil _ _) (fun g hg => by cases hg) (fun g hg => by cases hg) (by simp))) ?_
  rintro v w1 w2 Y' hS he ho
  obtain ⟨q, cap, sp, rfl, hq, hcap, hS'⟩ := gainN hS he ho
  refine ⟨_, hS', ?_⟩
  refine gAs ?_
  refine gE ?_
  refine GoH.ret Tryz.f101 Tryz.func101 rfl (fun w' hS => ?_)
  exact ⟨hS.ext, OwnN.mk hS 0 rfl rfl hq hcap⟩
end Go.Proofs.YthojdcaojjmoaaaGreatDoor
