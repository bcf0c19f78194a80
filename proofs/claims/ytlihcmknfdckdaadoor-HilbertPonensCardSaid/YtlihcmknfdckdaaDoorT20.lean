/- What calls of the program return, under the conditions that each theorem states. -/
import Derived.Test.YtlihcmknfdckdaaDoorT17
import Derived.Test.YtlihcmknfdckdaaDoorT18
import Derived.Test.YtlihcmknfdckdaaDoorT19
import Derived.Test.YtlihcmknfdckdaaDoorT04
namespace Go.Proofs.YtlihcmknfdckdaaDoor
open Go.RowKit Go.Proofs.Wit Tryd
/-! the reference of proofs: formulas, tops, parts -/
theorem gnot_c (x : FV) (t : Tr) (w : World) (ha : FA w x.a x.f) (hf : x.f = bT t) (ht : t.ok) : Cn Tryd.prog 35 [x.v] w (fun v w' => OwnN 80 w w' v (bT (ntT t))) := by
 refine Cn.of func35 rfl rfl ?_
 refine gS (gR ?_); refine gAs ?_; refine gE (gS (gR ?_))
 refine GoH.v (Vop.bld rfl rfl rfl rfl (bld (c := [_, _, _, _, _, _]) underlying80 (Szs.cons sizeOf3 (Szs.cons sizeOf3 (Szs.cons sizeOf3 (Szs.cons sizeOf3 (Szs.cons sizeOf3 (Szs.cons sizeOf3 Szs.nil)))))) zeroValue80 rfl)) ?_
 refine gMv ?_
 refine gM rfl rfl rfl rfl rfl call70 (fun w _ hS => (by exact runary_c 4 0 0 0 x.a x.c x.f t w (by decide) rfl rfl rfl (ha.ex0 hS.ext) hf ht)) ?_
 rintro v w1 w2 Y' hS he ho
 obtain ⟨q, cap, sp, rfl, hq, hcap, hS'⟩ := gainN hS he ho
 refine ⟨_, hS', ?_⟩
 refine gAs ?_; refine gE ?_
 refine gT func35 fun w' hS => ?_
 exact ⟨hS.ext, OwnN.mk hS 0 rfl rfl hq hcap⟩
theorem gknow_c (i : Int) (hi : 0 ≤ i ∧ i < 4) (x : FV) (t : Tr) (w : World) (ha : FA w x.a x.f) (hf : x.f = bT t) (ht : t.ok) : Cn Tryd.prog 36 [.int .i64 i, x.v] w (fun v w' => OwnN 80 w w' v (bT (kwT i t))) := by
 refine Cn.of func36 rfl rfl ?_
 refine gS (gR ?_); refine gAs ?_; refine gE (gS (gR ?_)); refine gMv ?_
 refine GoH.v (Vop.bld rfl rfl rfl rfl (bld (c := [_, _, _, _, _, _]) underlying80 (Szs.cons sizeOf3 (Szs.cons sizeOf3 (Szs.cons sizeOf3 (Szs.cons sizeOf3 (Szs.cons sizeOf3 (Szs.cons sizeOf3 Szs.nil)))))) zeroValue80 rfl)) ?_
 refine gMv ?_
 refine gM rfl rfl rfl rfl rfl call70 (fun w _ hS => (by exact runary_c 9 i 0 0 x.a x.c x.f t w (by decide) rfl rfl (fld_kw hi) (ha.ex0 hS.ext) hf ht)) ?_
 rintro v w1 w2 Y' hS he ho
 obtain ⟨q, cap, sp, rfl, hq, hcap, hS'⟩ := gainN hS he ho
 refine ⟨_, hS', ?_⟩
 refine gAs ?_; refine gE ?_
 refine gT func36 fun w' hS => ?_
 exact ⟨hS.ext, OwnN.mk hS 0 rfl rfl hq hcap⟩
theorem gand_c (x y : FV) (t u : Tr) (w : World) (ha : FA w x.a x.f) (hf : x.f = bT t) (ht : t.ok) (hb : FA w y.a y.f) (hg : y.f = bT u) (hu : u.ok) : Cn Tryd.prog 71 [x.v, y.v] w (fun v w' => OwnN 80 w w' v (bT (adT t u))) := by
 refine Cn.of func71 rfl rfl ?_
 refine gS (gR ?_); refine gAs ?_; refine gE (gS (gR ?_))
 refine GoH.v (Vop.bld rfl rfl rfl rfl (bld (c := [_, _, _, _, _, _]) underlying80 (Szs.cons sizeOf3 (Szs.cons sizeOf3 (Szs.cons sizeOf3 (Szs.cons sizeOf3 (Szs.cons sizeOf3 (Szs.cons sizeOf3 Szs.nil)))))) zeroValue80 rfl)) ?_
 iterate 2 refine gMv ?_
 refine gM rfl rfl rfl rfl rfl call58 (fun w _ hS => (by exact rbinary_c 5 0 0 0 x.a x.c x.f t y.a y.c y.f u w (by decide) rfl rfl (ha.ex0 hS.ext) hf ht (hb.ex0 hS.ext) hg hu)) ?_
 rintro v w1 w2 Y' hS he ho
 obtain ⟨q, cap, sp, rfl, hq, hcap, hS'⟩ := gainN hS he ho
 refine ⟨_, hS', ?_⟩
 refine gAs ?_; refine gE ?_
 refine gT func71 fun w' hS => ?_
 exact ⟨hS.ext, OwnN.mk hS 0 rfl rfl hq hcap⟩
theorem gor_c (x y : FV) (t u : Tr) (w : World) (ha : FA w x.a x.f) (hf : x.f = bT t) (ht : t.ok) (hb : FA w y.a y.f) (hg : y.f = bT u) (hu : u.ok) : Cn Tryd.prog 28 [x.v, y.v] w (fun v w' => OwnN 80 w w' v (bT (.bin 6 0 0 0 t u))) := by
 refine Cn.of func28 rfl rfl ?_
 refine gS (gR ?_); refine gAs ?_; refine gE (gS (gR ?_))
 refine GoH.v (Vop.bld rfl rfl rfl rfl (bld (c := [_, _, _, _, _, _]) underlying80 (Szs.cons sizeOf3 (Szs.cons sizeOf3 (Szs.cons sizeOf3 (Szs.cons sizeOf3 (Szs.cons sizeOf3 (Szs.cons sizeOf3 Szs.nil)))))) zeroValue80 rfl)) ?_
 iterate 2 refine gMv ?_
 refine gM rfl rfl rfl rfl rfl call58 (fun w _ hS => (by exact rbinary_c 6 0 0 0 x.a x.c x.f t y.a y.c y.f u w (by decide) rfl rfl (ha.ex0 hS.ext) hf ht (hb.ex0 hS.ext) hg hu)) ?_
 rintro v w1 w2 Y' hS he ho
 obtain ⟨q, cap, sp, rfl, hq, hcap, hS'⟩ := gainN hS he ho
 refine ⟨_, hS', ?_⟩
 refine gAs ?_; refine gE ?_
 refine gT func28 fun w' hS => ?_
 exact ⟨hS.ext, OwnN.mk hS 0 rfl rfl hq hcap⟩
theorem gimp_c (x y : FV) (t u : Tr) (w : World) (ha : FA w x.a x.f) (hf : x.f = bT t) (ht : t.ok) (hb : FA w y.a y.f) (hg : y.f = bT u) (hu : u.ok) : Cn Tryd.prog 27 [x.v, y.v] w (fun v w' => OwnN 80 w w' v (bT (imT t u))) := by
 refine Cn.of func27 rfl rfl ?_
 refine gS (gR ?_); refine gAs ?_; refine gE (gS (gR ?_))
 refine GoH.v (Vop.bld rfl rfl rfl rfl (bld (c := [_, _, _, _, _, _]) underlying80 (Szs.cons sizeOf3 (Szs.cons sizeOf3 (Szs.cons sizeOf3 (Szs.cons sizeOf3 (Szs.cons sizeOf3 (Szs.cons sizeOf3 Szs.nil)))))) zeroValue80 rfl)) ?_
 iterate 2 refine gMv ?_
 refine gM rfl rfl rfl rfl rfl call58 (fun w _ hS => (by exact rbinary_c 7 0 0 0 x.a x.c x.f t y.a y.c y.f u w (by decide) rfl rfl (ha.ex0 hS.ext) hf ht (hb.ex0 hS.ext) hg hu)) ?_
 rintro v w1 w2 Y' hS he ho
 obtain ⟨q, cap, sp, rfl, hq, hcap, hS'⟩ := gainN hS he ho
 refine ⟨_, hS', ?_⟩
 refine gAs ?_; refine gE ?_
 refine gT func27 fun w' hS => ?_
 exact ⟨hS.ext, OwnN.mk hS 0 rfl rfl hq hcap⟩
end Go.Proofs.YtlihcmknfdckdaaDoor
