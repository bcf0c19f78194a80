/- What calls of the program return, under the conditions that each theorem states. -/
import Derived.Test.YtlihcmknfdckdaaDoorS11
import Derived.Test.YtlihcmknfdckdaaDoorS12
import Derived.Test.YtlihcmknfdckdaaDoorS04
namespace Go.Proofs.YtlihcmknfdckdaaDoor
open Go.RowKit Go.Proofs.Wit Tryd
/-! the program's makers of formulas -/
theorem know_c (i : Int) (a : Option Addr) (ca : Nat) (f : List NV) (w : World) (ha : FA w a f) (hl : f.length ≤ maxLen) : Cn Tryd.prog 102 [.int .i64 i, .slice a f.length ca] w (fun v w' => OwnN 80 w w' v (bldF ⟨9, i, 0, 0, 0, 0⟩ [f])) := by
 refine Cn.of func102 rfl rfl ?_
 refine gS (gR ?_); refine gAs ?_; refine gE (gS (gR ?_)); refine gMv ?_
 refine GoH.v (Vop.bld rfl rfl rfl rfl (bld (c := [_, _, _, _, _, _]) underlying80 (Szs.cons sizeOf3 (Szs.cons sizeOf3 (Szs.cons sizeOf3 (Szs.cons sizeOf3 (Szs.cons sizeOf3 (Szs.cons sizeOf3 Szs.nil)))))) zeroValue80 rfl)) ?_
 refine gMv ?_
 refine GoH.bsN (c := [_]) rfl rfl rfl rfl underlying111 sizeOf23 zeroValue23 rfl rfl (fun b8 => ?_)
 refine gM rfl rfl rfl rfl rfl call99 (fun w _ hS => (by exact build_c ⟨9, i, 0, 0, 0, 0⟩ (some ⟨b8, 0, none⟩) 1 [⟨a, ca, f⟩] [f] w rfl (Sl.blk (sp := []) (hS.get (j := 0) rfl)) (fun g hg => by rw [List.mem_singleton.1 hg]; exact ha.ex0 hS.ext) (fun g hg => by rw [List.mem_singleton.1 hg]; exact hl) (by simp))) ?_
 rintro v w1 w2 Y' hS he ho
 obtain ⟨q, cap, sp, rfl, hq, hcap, hS'⟩ := gainN hS he ho
 refine ⟨_, hS', ?_⟩
 refine gAs ?_; refine gE ?_
 refine gT func102 fun w' hS => ?_
 exact ⟨hS.ext, OwnN.mk hS 0 rfl rfl hq hcap⟩
theorem imp_c (a : Option Addr) (ca : Nat) (f : List NV) (b : Option Addr) (cb : Nat) (g : List NV) (w : World) (ha : FA w a f) (hl : f.length ≤ maxLen) (hb : FA w b g) (hl2 : g.length ≤ maxLen) : Cn Tryd.prog 60 [.slice a f.length ca, .slice b g.length cb] w (fun v w' => OwnN 80 w w' v (bldF ⟨7, 0, 0, 0, 0, 0⟩ [f, g])) := by
 refine Cn.of func60 rfl rfl ?_
 refine gS (gR ?_); refine gAs ?_; refine gE (gS (gR ?_))
 refine GoH.v (Vop.bld rfl rfl rfl rfl (bld (c := [_, _, _, _, _, _]) underlying80 (Szs.cons sizeOf3 (Szs.cons sizeOf3 (Szs.cons sizeOf3 (Szs.cons sizeOf3 (Szs.cons sizeOf3 (Szs.cons sizeOf3 Szs.nil)))))) zeroValue80 rfl)) ?_
 iterate 2 refine gMv ?_
 refine GoH.bsN (c := [_, _]) rfl rfl rfl rfl underlying111 sizeOf23 zeroValue23 rfl rfl (fun b8 => ?_)
 refine gM rfl rfl rfl rfl rfl call99 (fun w _ hS => (by exact build_c ⟨7, 0, 0, 0, 0, 0⟩ (some ⟨b8, 0, none⟩) 2 [⟨a, ca, f⟩, ⟨b, cb, g⟩] [f, g] w rfl (Sl.blk (sp := []) (hS.get (j := 0) rfl)) (all2 (p := fun g : FV => FA _ g.a g.f) (ha.ex0 hS.ext) (hb.ex0 hS.ext)) (all2 (p := fun g : FV => g.f.length ≤ maxLen) hl hl2) (by simp))) ?_
 rintro v w1 w2 Y' hS he ho
 obtain ⟨q, cap, sp, rfl, hq, hcap, hS'⟩ := gainN hS he ho
 refine ⟨_, hS', ?_⟩
 refine gAs ?_; refine gE ?_
 refine gT func60 fun w' hS => ?_
 exact ⟨hS.ext, OwnN.mk hS 0 rfl rfl hq hcap⟩
end Go.Proofs.YtlihcmknfdckdaaDoor
