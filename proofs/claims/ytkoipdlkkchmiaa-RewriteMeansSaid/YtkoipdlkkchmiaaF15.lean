/- What calls of the program return, under the conditions that each theorem states. -/
import Derived.Test.YtkoipdlkkchmiaaF13
import Derived.Test.YtkoipdlkkchmiaaF14
import Derived.Test.YtkoipdlkkchmiaaF03
namespace Go.Proofs.Ytkoipdlkkchmiaa
open Go.RowKit Go.Proofs.Wit
/-! the program's other makers of formulas -/
theorem true_c (w : World) : Cn Try.prog 82 [] w (fun v w' => OwnN 49 w w' v (bldF ⟨1, 0, 0, 0, 0, 0⟩ [])) := by
  refine Cn.of Try.func82 rfl rfl ?_
  refine gS (gR ?_)
  refine gAs ?_
  refine gE (gS (gR ?_))
  refine GoH.v (Vop.bld rfl rfl rfl rfl (bld (c := [_, _, _, _, _, _]) Try.underlying49 (Szs.cons Try.sizeOf3 (Szs.cons Try.sizeOf3 (Szs.cons Try.sizeOf3 (Szs.cons Try.sizeOf3 (Szs.cons Try.sizeOf3 (Szs.cons Try.sizeOf3 Szs.nil)))))) Try.zeroValue49 rfl)) ?_
  refine GoH.callM _ rfl rfl rfl rfl rfl (fun _ _ => Try.call53 _ _) (fun w _ hS => (by exact build_c ⟨1, 0, 0, 0, 0, 0⟩ none 0 [] [] w rfl (Sl.nil _ _) (fun g hg => by cases hg) (fun g hg => by cases hg) (by simp))) ?_
  rintro v w1 w2 Y' hS he ho
  obtain ⟨q, cap, sp, rfl, hq, hcap, hS'⟩ := gainN hS he ho
  refine ⟨_, hS', ?_⟩
  refine gAs ?_
  refine gE ?_
  refine GoH.ret Try.f82 Try.func82 rfl (fun w' hS => ?_)
  exact ⟨hS.ext, OwnN.mk hS 0 rfl rfl hq hcap⟩
theorem false_c (w : World) : Cn Try.prog 75 [] w (fun v w' => OwnN 49 w w' v (bldF ⟨2, 0, 0, 0, 0, 0⟩ [])) := by
  refine Cn.of Try.func75 rfl rfl ?_
  refine gS (gR ?_)
  refine gAs ?_
  refine gE (gS (gR ?_))
  refine GoH.v (Vop.bld rfl rfl rfl rfl (bld (c := [_, _, _, _, _, _]) Try.underlying49 (Szs.cons Try.sizeOf3 (Szs.cons Try.sizeOf3 (Szs.cons Try.sizeOf3 (Szs.cons Try.sizeOf3 (Szs.cons Try.sizeOf3 (Szs.cons Try.sizeOf3 Szs.nil)))))) Try.zeroValue49 rfl)) ?_
  refine GoH.callM _ rfl rfl rfl rfl rfl (fun _ _ => Try.call53 _ _) (fun w _ hS => (by exact build_c ⟨2, 0, 0, 0, 0, 0⟩ none 0 [] [] w rfl (Sl.nil _ _) (fun g hg => by cases hg) (fun g hg => by cases hg) (by simp))) ?_
  rintro v w1 w2 Y' hS he ho
  obtain ⟨q, cap, sp, rfl, hq, hcap, hS'⟩ := gainN hS he ho
  refine ⟨_, hS', ?_⟩
  refine gAs ?_
  refine gE ?_
  refine GoH.ret Try.f75 Try.func75 rfl (fun w' hS => ?_)
  exact ⟨hS.ext, OwnN.mk hS 0 rfl rfl hq hcap⟩
theorem not_c (a : Option Addr) (ca : Nat) (f : List NV) (w : World) (ha : FA w a f) (hl : f.length ≤ maxLen) : Cn Try.prog 72 [.slice a f.length ca] w (fun v w' => OwnN 49 w w' v (bldF ⟨4, 0, 0, 0, 0, 0⟩ [f])) := by
  refine Cn.of Try.func72 rfl rfl ?_
  refine gS (gR ?_)
  refine gAs ?_
  refine gE (gS (gR ?_))
  refine GoH.v (Vop.bld rfl rfl rfl rfl (bld (c := [_, _, _, _, _, _]) Try.underlying49 (Szs.cons Try.sizeOf3 (Szs.cons Try.sizeOf3 (Szs.cons Try.sizeOf3 (Szs.cons Try.sizeOf3 (Szs.cons Try.sizeOf3 (Szs.cons Try.sizeOf3 Szs.nil)))))) Try.zeroValue49 rfl)) ?_
  refine gMv ?_
  refine GoH.bsN (c := [_]) rfl rfl rfl rfl Try.underlying29 Try.sizeOf22 Try.zeroValue22 rfl rfl (fun b5 => ?_)
  refine GoH.callM _ rfl rfl rfl rfl rfl (fun _ _ => Try.call53 _ _) (fun w _ hS => (by exact build_c ⟨4, 0, 0, 0, 0, 0⟩ (some ⟨b5, 0, none⟩) 1 [⟨a, ca, f⟩] [f] w rfl (Sl.blk (sp := []) (hS.get (j := 0) rfl)) (fun g hg => by rw [List.mem_singleton.1 hg]; exact ha.ex0 hS.ext) (fun g hg => by rw [List.mem_singleton.1 hg]; exact hl) (by simp))) ?_
  rintro v w1 w2 Y' hS he ho
  obtain ⟨q, cap, sp, rfl, hq, hcap, hS'⟩ := gainN hS he ho
  refine ⟨_, hS', ?_⟩
  refine gAs ?_
  refine gE ?_
  refine GoH.ret Try.f72 Try.func72 rfl (fun w' hS => ?_)
  exact ⟨hS.ext, OwnN.mk hS 0 rfl rfl hq hcap⟩
theorem and_c (a : Option Addr) (ca : Nat) (f : List NV) (b : Option Addr) (cb : Nat) (g : List NV) (w : World) (ha : FA w a f) (hl : f.length ≤ maxLen) (hb : FA w b g) (hl2 : g.length ≤ maxLen) : Cn Try.prog 73 [.slice a f.length ca, .slice b g.length cb] w (fun v w' => OwnN 49 w w' v (bldF ⟨5, 0, 0, 0, 0, 0⟩ [f, g])) := by
  refine Cn.of Try.func73 rfl rfl ?_
  refine gS (gR ?_)
  refine gAs ?_
  refine gE (gS (gR ?_))
  refine GoH.v (Vop.bld rfl rfl rfl rfl (bld (c := [_, _, _, _, _, _]) Try.underlying49 (Szs.cons Try.sizeOf3 (Szs.cons Try.sizeOf3 (Szs.cons Try.sizeOf3 (Szs.cons Try.sizeOf3 (Szs.cons Try.sizeOf3 (Szs.cons Try.sizeOf3 Szs.nil)))))) Try.zeroValue49 rfl)) ?_
  iterate 2 refine gMv ?_
  refine GoH.bsN (c := [_, _]) rfl rfl rfl rfl Try.underlying29 Try.sizeOf22 Try.zeroValue22 rfl rfl (fun b8 => ?_)
  refine GoH.callM _ rfl rfl rfl rfl rfl (fun _ _ => Try.call53 _ _) (fun w _ hS => (by exact build_c ⟨5, 0, 0, 0, 0, 0⟩ (some ⟨b8, 0, none⟩) 2 [⟨a, ca, f⟩, ⟨b, cb, g⟩] [f, g] w rfl (Sl.blk (sp := []) (hS.get (j := 0) rfl)) (all2 (p := fun g : FV => FA _ g.a g.f) (ha.ex0 hS.ext) (hb.ex0 hS.ext)) (all2 (p := fun g : FV => g.f.length ≤ maxLen) hl hl2) (by simp))) ?_
  rintro v w1 w2 Y' hS he ho
  obtain ⟨q, cap, sp, rfl, hq, hcap, hS'⟩ := gainN hS he ho
  refine ⟨_, hS', ?_⟩
  refine gAs ?_
  refine gE ?_
  refine GoH.ret Try.f73 Try.func73 rfl (fun w' hS => ?_)
  exact ⟨hS.ext, OwnN.mk hS 0 rfl rfl hq hcap⟩
theorem or_c (a : Option Addr) (ca : Nat) (f : List NV) (b : Option Addr) (cb : Nat) (g : List NV) (w : World) (ha : FA w a f) (hl : f.length ≤ maxLen) (hb : FA w b g) (hl2 : g.length ≤ maxLen) : Cn Try.prog 91 [.slice a f.length ca, .slice b g.length cb] w (fun v w' => OwnN 49 w w' v (bldF ⟨6, 0, 0, 0, 0, 0⟩ [f, g])) := by
  refine Cn.of Try.func91 rfl rfl ?_
  refine gS (gR ?_)
  refine gAs ?_
  refine gE (gS (gR ?_))
  refine GoH.v (Vop.bld rfl rfl rfl rfl (bld (c := [_, _, _, _, _, _]) Try.underlying49 (Szs.cons Try.sizeOf3 (Szs.cons Try.sizeOf3 (Szs.cons Try.sizeOf3 (Szs.cons Try.sizeOf3 (Szs.cons Try.sizeOf3 (Szs.cons Try.sizeOf3 Szs.nil)))))) Try.zeroValue49 rfl)) ?_
  iterate 2 refine gMv ?_
  refine GoH.bsN (c := [_, _]) rfl rfl rfl rfl Try.underlying29 Try.sizeOf22 Try.zeroValue22 rfl rfl (fun b8 => ?_)
  refine GoH.callM _ rfl rfl rfl rfl rfl (fun _ _ => Try.call53 _ _) (fun w _ hS => (by exact build_c ⟨6, 0, 0, 0, 0, 0⟩ (some ⟨b8, 0, none⟩) 2 [⟨a, ca, f⟩, ⟨b, cb, g⟩] [f, g] w rfl (Sl.blk (sp := []) (hS.get (j := 0) rfl)) (all2 (p := fun g : FV => FA _ g.a g.f) (ha.ex0 hS.ext) (hb.ex0 hS.ext)) (all2 (p := fun g : FV => g.f.length ≤ maxLen) hl hl2) (by simp))) ?_
  rintro v w1 w2 Y' hS he ho
  obtain ⟨q, cap, sp, rfl, hq, hcap, hS'⟩ := gainN hS he ho
  refine ⟨_, hS', ?_⟩
  refine gAs ?_
  refine gE ?_
  refine GoH.ret Try.f91 Try.func91 rfl (fun w' hS => ?_)
  exact ⟨hS.ext, OwnN.mk hS 0 rfl rfl hq hcap⟩
theorem iff_c (a : Option Addr) (ca : Nat) (f : List NV) (b : Option Addr) (cb : Nat) (g : List NV) (w : World) (ha : FA w a f) (hl : f.length ≤ maxLen) (hb : FA w b g) (hl2 : g.length ≤ maxLen) : Cn Try.prog 93 [.slice a f.length ca, .slice b g.length cb] w (fun v w' => OwnN 49 w w' v (bldF ⟨8, 0, 0, 0, 0, 0⟩ [f, g])) := by
  refine Cn.of Try.func93 rfl rfl ?_
  refine gS (gR ?_)
  refine gAs ?_
  refine gE (gS (gR ?_))
  refine GoH.v (Vop.bld rfl rfl rfl rfl (bld (c := [_, _, _, _, _, _]) Try.underlying49 (Szs.cons Try.sizeOf3 (Szs.cons Try.sizeOf3 (Szs.cons Try.sizeOf3 (Szs.cons Try.sizeOf3 (Szs.cons Try.sizeOf3 (Szs.cons Try.sizeOf3 Szs.nil)))))) Try.zeroValue49 rfl)) ?_
  iterate 2 refine gMv ?_
  refine GoH.bsN (c := [_, _]) rfl rfl rfl rfl Try.underlying29 Try.sizeOf22 Try.zeroValue22 rfl rfl (fun b8 => ?_)
  refine GoH.callM _ rfl rfl rfl rfl rfl (fun _ _ => Try.call53 _ _) (fun w _ hS => (by exact build_c ⟨8, 0, 0, 0, 0, 0⟩ (some ⟨b8, 0, none⟩) 2 [⟨a, ca, f⟩, ⟨b, cb, g⟩] [f, g] w rfl (Sl.blk (sp := []) (hS.get (j := 0) rfl)) (all2 (p := fun g : FV => FA _ g.a g.f) (ha.ex0 hS.ext) (hb.ex0 hS.ext)) (all2 (p := fun g : FV => g.f.length ≤ maxLen) hl hl2) (by simp))) ?_
  rintro v w1 w2 Y' hS he ho
  obtain ⟨q, cap, sp, rfl, hq, hcap, hS'⟩ := gainN hS he ho
  refine ⟨_, hS', ?_⟩
  refine gAs ?_
  refine gE ?_
  refine GoH.ret Try.f93 Try.func93 rfl (fun w' hS => ?_)
  exact ⟨hS.ext, OwnN.mk hS 0 rfl rfl hq hcap⟩
theorem every_c (g : Int) (a : Option Addr) (ca : Nat) (f : List NV) (w : World) (ha : FA w a f) (hl : f.length ≤ maxLen) : Cn Try.prog 95 [.int .i64 g, .slice a f.length ca] w (fun v w' => OwnN 49 w w' v (bldF ⟨11, 0, 0, g, 0, 0⟩ [f])) := by
  refine Cn.of Try.func95 rfl rfl ?_
  refine gS (gR ?_)
  refine gAs ?_
  refine gE (gS (gR ?_))
  refine gMv ?_
  refine GoH.v (Vop.bld rfl rfl rfl rfl (bld (c := [_, _, _, _, _, _]) Try.underlying49 (Szs.cons Try.sizeOf3 (Szs.cons Try.sizeOf3 (Szs.cons Try.sizeOf3 (Szs.cons Try.sizeOf3 (Szs.cons Try.sizeOf3 (Szs.cons Try.sizeOf3 Szs.nil)))))) Try.zeroValue49 rfl)) ?_
  refine gMv ?_
  refine GoH.bsN (c := [_]) rfl rfl rfl rfl Try.underlying29 Try.sizeOf22 Try.zeroValue22 rfl rfl (fun b8 => ?_)
  refine GoH.callM _ rfl rfl rfl rfl rfl (fun _ _ => Try.call53 _ _) (fun w _ hS => (by exact build_c ⟨11, 0, 0, g, 0, 0⟩ (some ⟨b8, 0, none⟩) 1 [⟨a, ca, f⟩] [f] w rfl (Sl.blk (sp := []) (hS.get (j := 0) rfl)) (fun g hg => by rw [List.mem_singleton.1 hg]; exact ha.ex0 hS.ext) (fun g hg => by rw [List.mem_singleton.1 hg]; exact hl) (by simp))) ?_
  rintro v w1 w2 Y' hS he ho
  obtain ⟨q, cap, sp, rfl, hq, hcap, hS'⟩ := gainN hS he ho
  refine ⟨_, hS', ?_⟩
  refine gAs ?_
  refine gE ?_
  refine GoH.ret Try.f95 Try.func95 rfl (fun w' hS => ?_)
  exact ⟨hS.ext, OwnN.mk hS 0 rfl rfl hq hcap⟩
theorem distr_c (g : Int) (a : Option Addr) (ca : Nat) (f : List NV) (w : World) (ha : FA w a f) (hl : f.length ≤ maxLen) : Cn Try.prog 96 [.int .i64 g, .slice a f.length ca] w (fun v w' => OwnN 49 w w' v (bldF ⟨12, 0, 0, g, 0, 0⟩ [f])) := by
  refine Cn.of Try.func96 rfl rfl ?_
  refine gS (gR ?_)
  refine gAs ?_
  refine gE (gS (gR ?_))
  refine gMv ?_
  refine GoH.v (Vop.bld rfl rfl rfl rfl (bld (c := [_, _, _, _, _, _]) Try.underlying49 (Szs.cons Try.sizeOf3 (Szs.cons Try.sizeOf3 (Szs.cons Try.sizeOf3 (Szs.cons Try.sizeOf3 (Szs.cons Try.sizeOf3 (Szs.cons Try.sizeOf3 Szs.nil)))))) Try.zeroValue49 rfl)) ?_
  refine gMv ?_
  refine GoH.bsN (c := [_]) rfl rfl rfl rfl Try.underlying29 Try.sizeOf22 Try.zeroValue22 rfl rfl (fun b8 => ?_)
  refine GoH.callM _ rfl rfl rfl rfl rfl (fun _ _ => Try.call53 _ _) (fun w _ hS => (by exact build_c ⟨12, 0, 0, g, 0, 0⟩ (some ⟨b8, 0, none⟩) 1 [⟨a, ca, f⟩] [f] w rfl (Sl.blk (sp := []) (hS.get (j := 0) rfl)) (fun g hg => by rw [List.mem_singleton.1 hg]; exact ha.ex0 hS.ext) (fun g hg => by rw [List.mem_singleton.1 hg]; exact hl) (by simp))) ?_
  rintro v w1 w2 Y' hS he ho
  obtain ⟨q, cap, sp, rfl, hq, hcap, hS'⟩ := gainN hS he ho
  refine ⟨_, hS', ?_⟩
  refine gAs ?_
  refine gE ?_
  refine GoH.ret Try.f96 Try.func96 rfl (fun w' hS => ?_)
  exact ⟨hS.ext, OwnN.mk hS 0 rfl rfl hq hcap⟩
theorem commonF_c (g : Int) (a : Option Addr) (ca : Nat) (f : List NV) (b : Option Addr) (cb : Nat) (k : List NV) (w : World) (ha : FA w a f) (hl : f.length ≤ maxLen) (hb : FA w b k) (hl2 : k.length ≤ maxLen) : Cn Try.prog 97 [.int .i64 g, .slice a f.length ca, .slice b k.length cb] w (fun v w' => OwnN 49 w w' v (bldF ⟨13, 0, 0, g, 0, 0⟩ [f, k])) := by
  refine Cn.of Try.func97 rfl rfl ?_
  refine gS (gR ?_)
  refine gAs ?_
  refine gE (gS (gR ?_))
  refine gMv ?_
  refine GoH.v (Vop.bld rfl rfl rfl rfl (bld (c := [_, _, _, _, _, _]) Try.underlying49 (Szs.cons Try.sizeOf3 (Szs.cons Try.sizeOf3 (Szs.cons Try.sizeOf3 (Szs.cons Try.sizeOf3 (Szs.cons Try.sizeOf3 (Szs.cons Try.sizeOf3 Szs.nil)))))) Try.zeroValue49 rfl)) ?_
  iterate 2 refine gMv ?_
  refine GoH.bsN (c := [_, _]) rfl rfl rfl rfl Try.underlying29 Try.sizeOf22 Try.zeroValue22 rfl rfl (fun b11 => ?_)
  refine GoH.callM _ rfl rfl rfl rfl rfl (fun _ _ => Try.call53 _ _) (fun w _ hS => (by exact build_c ⟨13, 0, 0, g, 0, 0⟩ (some ⟨b11, 0, none⟩) 2 [⟨a, ca, f⟩, ⟨b, cb, k⟩] [f, k] w rfl (Sl.blk (sp := []) (hS.get (j := 0) rfl)) (all2 (p := fun g : FV => FA _ g.a g.f) (ha.ex0 hS.ext) (hb.ex0 hS.ext)) (all2 (p := fun g : FV => g.f.length ≤ maxLen) hl hl2) (by simp))) ?_
  rintro v w1 w2 Y' hS he ho
  obtain ⟨q, cap, sp, rfl, hq, hcap, hS'⟩ := gainN hS he ho
  refine ⟨_, hS', ?_⟩
  refine gAs ?_
  refine gE ?_
  refine GoH.ret Try.f97 Try.func97 rfl (fun w' hS => ?_)
  exact ⟨hS.ext, OwnN.mk hS 0 rfl rfl hq hcap⟩
theorem belief_c (i : Int) (a : Option Addr) (ca : Nat) (f : List NV) (b : Option Addr) (cb : Nat) (g : List NV) (w : World) (ha : FA w a f) (hl : f.length ≤ maxLen) (hb : FA w b g) (hl2 : g.length ≤ maxLen) : Cn Try.prog 98 [.int .i64 i, .slice a f.length ca, .slice b g.length cb] w (fun v w' => OwnN 49 w w' v (bldF ⟨14, i, 0, 0, 0, 0⟩ [f, g])) := by
  refine Cn.of Try.func98 rfl rfl ?_
  refine gS (gR ?_)
  refine gAs ?_
  refine gE (gS (gR ?_))
  refine gMv ?_
  refine GoH.v (Vop.bld rfl rfl rfl rfl (bld (c := [_, _, _, _, _, _]) Try.underlying49 (Szs.cons Try.sizeOf3 (Szs.cons Try.sizeOf3 (Szs.cons Try.sizeOf3 (Szs.cons Try.sizeOf3 (Szs.cons Try.sizeOf3 (Szs.cons Try.sizeOf3 Szs.nil)))))) Try.zeroValue49 rfl)) ?_
  iterate 2 refine gMv ?_
  refine GoH.bsN (c := [_, _]) rfl rfl rfl rfl Try.underlying29 Try.sizeOf22 Try.zeroValue22 rfl rfl (fun b11 => ?_)
  refine GoH.callM _ rfl rfl rfl rfl rfl (fun _ _ => Try.call53 _ _) (fun w _ hS => (by exact build_c ⟨14, i, 0, 0, 0, 0⟩ (some ⟨b11, 0, none⟩) 2 [⟨a, ca, f⟩, ⟨b, cb, g⟩] [f, g] w rfl (Sl.blk (sp := []) (hS.get (j := 0) rfl)) (all2 (p := fun g : FV => FA _ g.a g.f) (ha.ex0 hS.ext) (hb.ex0 hS.ext)) (all2 (p := fun g : FV => g.f.length ≤ maxLen) hl hl2) (by simp))) ?_
  rintro v w1 w2 Y' hS he ho
  obtain ⟨q, cap, sp, rfl, hq, hcap, hS'⟩ := gainN hS he ho
  refine ⟨_, hS', ?_⟩
  refine gAs ?_
  refine gE ?_
  refine GoH.ret Try.f98 Try.func98 rfl (fun w' hS => ?_)
  exact ⟨hS.ext, OwnN.mk hS 0 rfl rfl hq hcap⟩
theorem safe_c (i : Int) (a : Option Addr) (ca : Nat) (f : List NV) (w : World) (ha : FA w a f) (hl : f.length ≤ maxLen) : Cn Try.prog 99 [.int .i64 i, .slice a f.length ca] w (fun v w' => OwnN 49 w w' v (bldF ⟨15, i, 0, 0, 0, 0⟩ [f])) := by
  refine Cn.of Try.func99 rfl rfl ?_
  refine gS (gR ?_)
  refine gAs ?_
  refine gE (gS (gR ?_))
  refine gMv ?_
  refine GoH.v (Vop.bld rfl rfl rfl rfl (bld (c := [_, _, _, _, _, _]) Try.underlying49 (Szs.cons Try.sizeOf3 (Szs.cons Try.sizeOf3 (Szs.cons Try.sizeOf3 (Szs.cons Try.sizeOf3 (Szs.cons Try.sizeOf3 (Szs.cons Try.sizeOf3 Szs.nil)))))) Try.zeroValue49 rfl)) ?_
  refine gMv ?_
  refine GoH.bsN (c := [_]) rfl rfl rfl rfl Try.underlying29 Try.sizeOf22 Try.zeroValue22 rfl rfl (fun b8 => ?_)
  refine GoH.callM _ rfl rfl rfl rfl rfl (fun _ _ => Try.call53 _ _) (fun w _ hS => (by exact build_c ⟨15, i, 0, 0, 0, 0⟩ (some ⟨b8, 0, none⟩) 1 [⟨a, ca, f⟩] [f] w rfl (Sl.blk (sp := []) (hS.get (j := 0) rfl)) (fun g hg => by rw [List.mem_singleton.1 hg]; exact ha.ex0 hS.ext) (fun g hg => by rw [List.mem_singleton.1 hg]; exact hl) (by simp))) ?_
  rintro v w1 w2 Y' hS he ho
  obtain ⟨q, cap, sp, rfl, hq, hcap, hS'⟩ := gainN hS he ho
  refine ⟨_, hS', ?_⟩
  refine gAs ?_
  refine gE ?_
  refine GoH.ret Try.f99 Try.func99 rfl (fun w' hS => ?_)
  exact ⟨hS.ext, OwnN.mk hS 0 rfl rfl hq hcap⟩
theorem announce_c (a : Option Addr) (ca : Nat) (f : List NV) (b : Option Addr) (cb : Nat) (g : List NV) (w : World) (ha : FA w a f) (hl : f.length ≤ maxLen) (hb : FA w b g) (hl2 : g.length ≤ maxLen) : Cn Try.prog 100 [.slice a f.length ca, .slice b g.length cb] w (fun v w' => OwnN 49 w w' v (bldF ⟨16, 0, 0, 0, 0, 0⟩ [f, g])) := by
  refine Cn.of Try.func100 rfl rfl ?_
  refine gS (gR ?_)
  refine gAs ?_
  refine gE (gS (gR ?_))
  refine GoH.v (Vop.bld rfl rfl rfl rfl (bld (c := [_, _, _, _, _, _]) Try.underlying49 (Szs.cons Try.sizeOf3 (Szs.cons Try.sizeOf3 (Szs.cons Try.sizeOf3 (Szs.cons Try.sizeOf3 (Szs.cons Try.sizeOf3 (Szs.cons Try.sizeOf3 Szs.nil)))))) Try.zeroValue49 rfl)) ?_
  iterate 2 refine gMv ?_
  refine GoH.bsN (c := [_, _]) rfl rfl rfl rfl Try.underlying29 Try.sizeOf22 Try.zeroValue22 rfl rfl (fun b8 => ?_)
  refine GoH.callM _ rfl rfl rfl rfl rfl (fun _ _ => Try.call53 _ _) (fun w _ hS => (by exact build_c ⟨16, 0, 0, 0, 0, 0⟩ (some ⟨b8, 0, none⟩) 2 [⟨a, ca, f⟩, ⟨b, cb, g⟩] [f, g] w rfl (Sl.blk (sp := []) (hS.get (j := 0) rfl)) (all2 (p := fun g : FV => FA _ g.a g.f) (ha.ex0 hS.ext) (hb.ex0 hS.ext)) (all2 (p := fun g : FV => g.f.length ≤ maxLen) hl hl2) (by simp))) ?_
  rintro v w1 w2 Y' hS he ho
  obtain ⟨q, cap, sp, rfl, hq, hcap, hS'⟩ := gainN hS he ho
  refine ⟨_, hS', ?_⟩
  refine gAs ?_
  refine gE ?_
  refine GoH.ret Try.f100 Try.func100 rfl (fun w' hS => ?_)
  exact ⟨hS.ext, OwnN.mk hS 0 rfl rfl hq hcap⟩
theorem act_c (i : Int) (e : Int) (a : Option Addr) (ca : Nat) (f : List NV) (w : World) (ha : FA w a f) (hl : f.length ≤ maxLen) : Cn Try.prog 101 [.int .i64 i, .int .i64 e, .slice a f.length ca] w (fun v w' => OwnN 49 w w' v (bldF ⟨17, i, e, 0, 0, 0⟩ [f])) := by
  refine Cn.of Try.func101 rfl rfl ?_
  refine gS (gR ?_)
  refine gAs ?_
  refine gE (gS (gR ?_))
  iterate 2 refine gMv ?_
  refine GoH.v (Vop.bld rfl rfl rfl rfl (bld (c := [_, _, _, _, _, _]) Try.underlying49 (Szs.cons Try.sizeOf3 (Szs.cons Try.sizeOf3 (Szs.cons Try.sizeOf3 (Szs.cons Try.sizeOf3 (Szs.cons Try.sizeOf3 (Szs.cons Try.sizeOf3 Szs.nil)))))) Try.zeroValue49 rfl)) ?_
  refine gMv ?_
  refine GoH.bsN (c := [_]) rfl rfl rfl rfl Try.underlying29 Try.sizeOf22 Try.zeroValue22 rfl rfl (fun b11 => ?_)
  refine GoH.callM _ rfl rfl rfl rfl rfl (fun _ _ => Try.call53 _ _) (fun w _ hS => (by exact build_c ⟨17, i, e, 0, 0, 0⟩ (some ⟨b11, 0, none⟩) 1 [⟨a, ca, f⟩] [f] w rfl (Sl.blk (sp := []) (hS.get (j := 0) rfl)) (fun g hg => by rw [List.mem_singleton.1 hg]; exact ha.ex0 hS.ext) (fun g hg => by rw [List.mem_singleton.1 hg]; exact hl) (by simp))) ?_
  rintro v w1 w2 Y' hS he ho
  obtain ⟨q, cap, sp, rfl, hq, hcap, hS'⟩ := gainN hS he ho
  refine ⟨_, hS', ?_⟩
  refine gAs ?_
  refine gE ?_
  refine GoH.ret Try.f101 Try.func101 rfl (fun w' hS => ?_)
  exact ⟨hS.ext, OwnN.mk hS 0 rfl rfl hq hcap⟩
theorem next_c (a : Option Addr) (ca : Nat) (f : List NV) (w : World) (ha : FA w a f) (hl : f.length ≤ maxLen) : Cn Try.prog 102 [.slice a f.length ca] w (fun v w' => OwnN 49 w w' v (bldF ⟨18, 0, 0, 0, 0, 0⟩ [f])) := by
  refine Cn.of Try.func102 rfl rfl ?_
  refine gS (gR ?_)
  refine gAs ?_
  refine gE (gS (gR ?_))
  refine GoH.v (Vop.bld rfl rfl rfl rfl (bld (c := [_, _, _, _, _, _]) Try.underlying49 (Szs.cons Try.sizeOf3 (Szs.cons Try.sizeOf3 (Szs.cons Try.sizeOf3 (Szs.cons Try.sizeOf3 (Szs.cons Try.sizeOf3 (Szs.cons Try.sizeOf3 Szs.nil)))))) Try.zeroValue49 rfl)) ?_
  refine gMv ?_
  refine GoH.bsN (c := [_]) rfl rfl rfl rfl Try.underlying29 Try.sizeOf22 Try.zeroValue22 rfl rfl (fun b5 => ?_)
  refine GoH.callM _ rfl rfl rfl rfl rfl (fun _ _ => Try.call53 _ _) (fun w _ hS => (by exact build_c ⟨18, 0, 0, 0, 0, 0⟩ (some ⟨b5, 0, none⟩) 1 [⟨a, ca, f⟩] [f] w rfl (Sl.blk (sp := []) (hS.get (j := 0) rfl)) (fun g hg => by rw [List.mem_singleton.1 hg]; exact ha.ex0 hS.ext) (fun g hg => by rw [List.mem_singleton.1 hg]; exact hl) (by simp))) ?_
  rintro v w1 w2 Y' hS he ho
  obtain ⟨q, cap, sp, rfl, hq, hcap, hS'⟩ := gainN hS he ho
  refine ⟨_, hS', ?_⟩
  refine gAs ?_
  refine gE ?_
  refine GoH.ret Try.f102 Try.func102 rfl (fun w' hS => ?_)
  exact ⟨hS.ext, OwnN.mk hS 0 rfl rfl hq hcap⟩
theorem until_c (a : Option Addr) (ca : Nat) (f : List NV) (b : Option Addr) (cb : Nat) (g : List NV) (w : World) (ha : FA w a f) (hl : f.length ≤ maxLen) (hb : FA w b g) (hl2 : g.length ≤ maxLen) : Cn Try.prog 103 [.slice a f.length ca, .slice b g.length cb] w (fun v w' => OwnN 49 w w' v (bldF ⟨19, 0, 0, 0, 0, 0⟩ [f, g])) := by
  refine Cn.of Try.func103 rfl rfl ?_
  refine gS (gR ?_)
  refine gAs ?_
  refine gE (gS (gR ?_))
  refine GoH.v (Vop.bld rfl rfl rfl rfl (bld (c := [_, _, _, _, _, _]) Try.underlying49 (Szs.cons Try.sizeOf3 (Szs.cons Try.sizeOf3 (Szs.cons Try.sizeOf3 (Szs.cons Try.sizeOf3 (Szs.cons Try.sizeOf3 (Szs.cons Try.sizeOf3 Szs.nil)))))) Try.zeroValue49 rfl)) ?_
  iterate 2 refine gMv ?_
  refine GoH.bsN (c := [_, _]) rfl rfl rfl rfl Try.underlying29 Try.sizeOf22 Try.zeroValue22 rfl rfl (fun b8 => ?_)
  refine GoH.callM _ rfl rfl rfl rfl rfl (fun _ _ => Try.call53 _ _) (fun w _ hS => (by exact build_c ⟨19, 0, 0, 0, 0, 0⟩ (some ⟨b8, 0, none⟩) 2 [⟨a, ca, f⟩, ⟨b, cb, g⟩] [f, g] w rfl (Sl.blk (sp := []) (hS.get (j := 0) rfl)) (all2 (p := fun g : FV => FA _ g.a g.f) (ha.ex0 hS.ext) (hb.ex0 hS.ext)) (all2 (p := fun g : FV => g.f.length ≤ maxLen) hl hl2) (by simp))) ?_
  rintro v w1 w2 Y' hS he ho
  obtain ⟨q, cap, sp, rfl, hq, hcap, hS'⟩ := gainN hS he ho
  refine ⟨_, hS', ?_⟩
  refine gAs ?_
  refine gE ?_
  refine GoH.ret Try.f103 Try.func103 rfl (fun w' hS => ?_)
  exact ⟨hS.ext, OwnN.mk hS 0 rfl rfl hq hcap⟩
theorem prev_c (a : Option Addr) (ca : Nat) (f : List NV) (w : World) (ha : FA w a f) (hl : f.length ≤ maxLen) : Cn Try.prog 104 [.slice a f.length ca] w (fun v w' => OwnN 49 w w' v (bldF ⟨20, 0, 0, 0, 0, 0⟩ [f])) := by
  refine Cn.of Try.func104 rfl rfl ?_
  refine gS (gR ?_)
  refine gAs ?_
  refine gE (gS (gR ?_))
  refine GoH.v (Vop.bld rfl rfl rfl rfl (bld (c := [_, _, _, _, _, _]) Try.underlying49 (Szs.cons Try.sizeOf3 (Szs.cons Try.sizeOf3 (Szs.cons Try.sizeOf3 (Szs.cons Try.sizeOf3 (Szs.cons Try.sizeOf3 (Szs.cons Try.sizeOf3 Szs.nil)))))) Try.zeroValue49 rfl)) ?_
  refine gMv ?_
  refine GoH.bsN (c := [_]) rfl rfl rfl rfl Try.underlying29 Try.sizeOf22 Try.zeroValue22 rfl rfl (fun b5 => ?_)
  refine GoH.callM _ rfl rfl rfl rfl rfl (fun _ _ => Try.call53 _ _) (fun w _ hS => (by exact build_c ⟨20, 0, 0, 0, 0, 0⟩ (some ⟨b5, 0, none⟩) 1 [⟨a, ca, f⟩] [f] w rfl (Sl.blk (sp := []) (hS.get (j := 0) rfl)) (fun g hg => by rw [List.mem_singleton.1 hg]; exact ha.ex0 hS.ext) (fun g hg => by rw [List.mem_singleton.1 hg]; exact hl) (by simp))) ?_
  rintro v w1 w2 Y' hS he ho
  obtain ⟨q, cap, sp, rfl, hq, hcap, hS'⟩ := gainN hS he ho
  refine ⟨_, hS', ?_⟩
  refine gAs ?_
  refine gE ?_
  refine GoH.ret Try.f104 Try.func104 rfl (fun w' hS => ?_)
  exact ⟨hS.ext, OwnN.mk hS 0 rfl rfl hq hcap⟩
theorem since_c (a : Option Addr) (ca : Nat) (f : List NV) (b : Option Addr) (cb : Nat) (g : List NV) (w : World) (ha : FA w a f) (hl : f.length ≤ maxLen) (hb : FA w b g) (hl2 : g.length ≤ maxLen) : Cn Try.prog 105 [.slice a f.length ca, .slice b g.length cb] w (fun v w' => OwnN 49 w w' v (bldF ⟨21, 0, 0, 0, 0, 0⟩ [f, g])) := by
  refine Cn.of Try.func105 rfl rfl ?_
  refine gS (gR ?_)
  refine gAs ?_
  refine gE (gS (gR ?_))
  refine GoH.v (Vop.bld rfl rfl rfl rfl (bld (c := [_, _, _, _, _, _]) Try.underlying49 (Szs.cons Try.sizeOf3 (Szs.cons Try.sizeOf3 (Szs.cons Try.sizeOf3 (Szs.cons Try.sizeOf3 (Szs.cons Try.sizeOf3 (Szs.cons Try.sizeOf3 Szs.nil)))))) Try.zeroValue49 rfl)) ?_
  iterate 2 refine gMv ?_
  refine GoH.bsN (c := [_, _]) rfl rfl rfl rfl Try.underlying29 Try.sizeOf22 Try.zeroValue22 rfl rfl (fun b8 => ?_)
  refine GoH.callM _ rfl rfl rfl rfl rfl (fun _ _ => Try.call53 _ _) (fun w _ hS => (by exact build_c ⟨21, 0, 0, 0, 0, 0⟩ (some ⟨b8, 0, none⟩) 2 [⟨a, ca, f⟩, ⟨b, cb, g⟩] [f, g] w rfl (Sl.blk (sp := []) (hS.get (j := 0) rfl)) (all2 (p := fun g : FV => FA _ g.a g.f) (ha.ex0 hS.ext) (hb.ex0 hS.ext)) (all2 (p := fun g : FV => g.f.length ≤ maxLen) hl hl2) (by simp))) ?_
  rintro v w1 w2 Y' hS he ho
  obtain ⟨q, cap, sp, rfl, hq, hcap, hS'⟩ := gainN hS he ho
  refine ⟨_, hS', ?_⟩
  refine gAs ?_
  refine gE ?_
  refine GoH.ret Try.f105 Try.func105 rfl (fun w' hS => ?_)
  exact ⟨hS.ext, OwnN.mk hS 0 rfl rfl hq hcap⟩
end Go.Proofs.Ytkoipdlkkchmiaa
