/- What calls of the program return, under the conditions that each theorem states. -/
import Derived.Test.YtkoipdlkkchmiaaC28
import Derived.Test.YtkoipdlkkchmiaaC30
import Derived.Test.YtkoipdlkkchmiaaC31
import Derived.Test.YtkoipdlkkchmiaaC03
namespace Go.Proofs.Ytkoipdlkkchmiaa
open Go.RowKit Go.Proofs.Wit
theorem rsame_c (a : Option Addr) (ca : Nat) (f : List NV) (b : Option Addr) (cb : Nat) (g : List NV) (w : World) (ha : FA w a f) (hb : FA w b g) (hl : f.length ≤ maxLen) (hl2 : g.length ≤ maxLen) : Cn Try.prog 22 [.slice a f.length ca, .slice b g.length cb] w (fun v _ => v = .bool (sameB f g)) := by
  refine Cn.of Try.func22 rfl rfl ?_
  refine gS (gR ?_)
  refine gAs ?_
  refine gE (gS (gR ?_))
  refine gMv ?_
  refine GoH.callP rfl rfl rfl rfl rfl (fun _ _ => Try.call17 _ _) (fun w _ hS => (by exact rchk_c a ca f w (ha.ex0 hS.ext) hl)) ?_
  refine gBi bEq ?_
  refine gMv ?_
  refine GoH.cases (d := 8) rfl (fun hc => ?_) (fun hc => ?_)
  ·
   have h1 : chkF f = 0 := by simpa using hc
   refine gMv ?_
   refine GoH.callP rfl rfl rfl rfl rfl (fun _ _ => Try.call17 _ _) (fun w _ hS => (by exact rchk_c b cb g w (hb.ex0 hS.ext) hl2)) ?_
   refine gBi bEq ?_
   refine gPt ?_
   refine gMv ?_
   refine GoH.cases (d := 13) rfl (fun hc => ?_) (fun hc => ?_)
   ·
    have h2 : chkF g = 0 := by simpa using hc
    refine gMv ?_
    refine GoH.callM _ rfl rfl rfl rfl rfl (fun _ _ => Try.call19 _ _) (fun w _ hS => (by exact rcompact_c a ca f w (ha.ex0 hS.ext) hl)) ?_
    rintro v w1 w2 Y' hS he ho
    rw [subF_top] at ho
    obtain ⟨q1, cap1, sp1, rfl, hq1, hcap1, hS'⟩ := gainN hS he ho
    refine ⟨_, hS', ?_⟩
    refine gMv ?_
    refine GoH.callM _ rfl rfl rfl rfl rfl (fun _ _ => Try.call19 _ _) (fun w _ hS => (by exact rcompact_c b cb g w (hb.ex0 hS.ext) hl2)) ?_
    rintro v w1 w2 Y' hS he ho
    rw [subF_top] at ho
    obtain ⟨q2, cap2, sp2, rfl, hq2, hcap2, hS'⟩ := gainN hS he ho
    refine ⟨_, hS', ?_⟩
    refine GoH.callP rfl rfl rfl rfl rfl (fun _ _ => Try.call14 _ _) (fun w _ hS => (by exact rEqual_c (q1.map (fun b => ⟨b, 0, none⟩)) cap1 (compF f) (q2.map (fun b => ⟨b, 0, none⟩)) cap2 (compF g) w (faAt hS 1 rfl (fun e => (hq1 e).1)) (faAt hS 0 rfl (fun e => (hq2 e).1)) (by have := compF_le2 f; unfold maxLen; omega))) ?_
    refine gPt ?_
    refine gAs ?_
    refine gE ?_
    refine GoH.ret Try.f22 Try.func22 rfl (fun w' hS => ?_)
    refine ⟨hS.ext, ?_⟩
    unfold sameB
    rw [decide_eq_decide.2 (show (compF f = compF g) ↔ (chkF f = 0 ∧ chkF g = 0 ∧ compF f = compF g) from ⟨fun h => ⟨h1, h2, h⟩, fun h => h.2.2⟩)]; rfl
   ·
    have h2 : chkF g ≠ 0 := by simpa using hc
    iterate 5 refine gNo ?_
    refine gPf ?_
    refine gAs ?_
    refine gE ?_
    refine GoH.ret Try.f22 Try.func22 rfl (fun w' hS => ?_)
    exact ⟨hS.ext, by rw [sameB, decide_eq_false (fun h => h2 h.2.1)]; rfl⟩
  ·
   have h1 : chkF f ≠ 0 := by simpa using hc
   iterate 3 refine gNo ?_
   refine gPf ?_
   refine gMv ?_
   iterate 5 refine gNo ?_
   refine gPf ?_
   refine gAs ?_
   refine gE ?_
   refine GoH.ret Try.f22 Try.func22 rfl (fun w' hS => ?_)
   exact ⟨hS.ext, by rw [sameB, decide_eq_false (fun h => h1 h.1)]; rfl⟩
end Go.Proofs.Ytkoipdlkkchmiaa
