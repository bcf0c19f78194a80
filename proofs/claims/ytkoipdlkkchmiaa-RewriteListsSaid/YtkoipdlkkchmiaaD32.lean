/- What calls of the program return, under the conditions that each theorem states. -/
import Derived.Test.YtkoipdlkkchmiaaD28
import Derived.Test.YtkoipdlkkchmiaaD30
import Derived.Test.YtkoipdlkkchmiaaD31
import Derived.Test.YtkoipdlkkchmiaaD03
namespace Go.Proofs.Ytkoipdlkkchmiaa
open Go.RowKit Go.Proofs.Wit
/-! the reference's questions on formulas; the law RewriteClosed -/
set_option maxRecDepth 8000 in
theorem rsubs_c (a : Option Addr) (ca : Nat) (f : List NV) (w : World) (ha : FA w a f) (hl : f.length ≤ maxLen) : Cn Try.prog 24 [.slice a f.length ca] w (fun v w' => ∃ gs, OwnL 49 22 w w' v gs ∧ (chkF f = 0 → gs.map FV.f = (subT (topT f)).map bT)) := by
  obtain ⟨i1, hi1, hz1, hsz1, hby1⟩ := info_parts infoNs
  refine Cn.of Try.func24 rfl rfl ?_
  refine gS (gR ?_)
  refine gAs ?_
  refine gE (gS (gR ?_))
  refine gMv ?_
  refine GoH.callM _ rfl rfl rfl rfl rfl (fun _ _ => Try.call19 _ _) (fun w _ hS => (by exact rcompact_c a ca f w (ha.ex0 hS.ext) hl)) ?_
  rintro v w1 w2 Y' hS he ho
  rw [subF_top] at ho
  obtain ⟨qc, capc, spc, rfl, hqc, hcapc, hS'⟩ := gainN hS he ho
  refine ⟨_, hS', ?_⟩
  refine gAs ?_
  refine gE (gS (gR ?_))
  refine gAs ?_
  refine gE (gS (gS (gR ?_)))
  refine gAs ?_
  refine gE (gB ?_)
  have hcl := compF_le2 f
  have hNd := compF_nodes f
  refine GoH.addNone (ob FV.v 22 [] []) ?_
  refine GoH.pick (pre' := [(qc, obN 49 (compF f) spc), (none, ob FV.v 22 [] [])]) [1, 0] (by decide) rfl ?_
  refine GoH.loop (σ := Nat × Option Nat × Nat × List FV × List Value × Hl) (fun z => [(3, osv qc (compF f).length capc), (4, osv z.2.1 z.2.2.2.1.length z.2.2.1), (5, .int .i64 z.1)])
    (fun z => [(qc, obN 49 (compF f) spc), (z.2.1, ob FV.v 22 z.2.2.2.1 z.2.2.2.2.1)] ++ z.2.2.2.2.2)
    (fun z => z.1 ≤ (compF f).length ∧ z.2.2.2.1.length = z.1 ∧ (z.2.1 = none → z.2.2.2.1.length = 0 ∧ z.2.2.1 = 0) ∧ (z.2.2.2.1.map FV.v ++ z.2.2.2.2.1).length = z.2.2.1 ∧ (∀ g ∈ z.2.2.2.1, g.In 49 z.2.2.2.2.2) ∧ z.2.2.2.1.map FV.f = (List.range z.1).map (fun k : Nat => subF (compF f) k))
    (fun z => (compF f).length - z.1) (0, none, 0, [], [], []) ⟨Nat.zero_le _, rfl, fun _ => ⟨rfl, rfl⟩, rfl, (fun _ h => by cases h), rfl⟩ ⟨rfl, rfl, rfl, trivial⟩ (List.Sublist.refl _) (fun z hI IH => ?_)
  obtain ⟨i, q, cap, gs, sp, H⟩ := z
  obtain ⟨hi, hgl, hq, hcap, hin, hgs⟩ := hI
  dsimp only at hi hgl hq hcap hin hgs IH ⊢
  refine gS (gS (gR ?_))
  iterate 2 refine gMv ?_
  refine gBl Try.underlying22 ?_
  refine gBi bLt ?_
  refine gE ?_
  refine GoH.cond rfl (fun hc => ?_) (fun hc => ?_)
  ·
   have hm : i < (compF f).length := by simp at hc; omega
   refine gK (gS (gB (gR ?_)))
   iterate 3 refine gMv ?_
   refine GoH.callM _ rfl rfl rfl rfl rfl (fun _ _ => Try.call54 _ _) (fun w _ hS => (by exact rsub_c (qc.map (fun b => ⟨b, 0, none⟩)) capc (compF f) (i : Int) w (faAt hS 0 rfl (fun e => (hqc e).1)) (by unfold maxLen; omega))) ?_
   rintro v w1 w2 Y' hS he ho
   obtain ⟨qf, capf, spf, rfl, hqf, hcapf, hS'⟩ := gainN hS he ho
   refine ⟨_, hS', ?_⟩
   refine GoH.bsN (c := [_]) rfl rfl rfl rfl Try.underlying29 Try.sizeOf22 Try.zeroValue22 rfl rfl (fun b18 => ?_)
   refine GoH.appE FV.v (news := [⟨qf.map (fun b => ⟨b, 0, none⟩), capf, subF (compF f) i⟩]) (spn := []) (xs := gs) (sp := sp) (q := q) rfl rfl rfl rfl rfl Try.underlying29 hi1 hz1 hsz1 rfl hq 3 rfl 0 rfl hcap rfl (by decide) (fun _ => rfl) (by simp [maxLen]; omega) (by simp [hby1]; omega) (fun b' sp' cap' hlen => ?_)
   refine gAs ?_
   refine gE (gIb (gR ?_))
   refine gMv ?_
   refine GoH.v (Vop.bin rfl rfl rfl rfl (bAdd (by omega)) rfl) ?_
   refine gAs ?_
   refine gE ?_
   refine GoH.pickT (pre := [_, _, _, _]) (pre' := [_, _, _]) H [2, 3, 1] (by decide) rfl ?_
   refine IH (i + 1, some b', cap', gs ++ [⟨qf.map (fun b => ⟨b, 0, none⟩), capf, subF (compF f) i⟩], sp', (qf, obN 49 (subF (compF f) i) spf) :: H) _ _ ⟨hm, by simp [hgl], (fun e => by cases e), hlen, fun g hg => ?_, ?_⟩ (by dsimp only; omega) ⟨rfl, rfl, rfl, trivial⟩ (List.Sublist.refl _)
   · rcases List.mem_append.1 hg with hg | hg
     · exact (hin g hg).mono (List.subset_cons_self _ _)
     · rw [List.mem_singleton.1 hg]; exact ⟨qf, spf, List.mem_cons_self .., rfl, hqf, hcapf⟩
   · dsimp only; rw [List.map_append, hgs, List.range_succ, List.map_append]; rfl
  ·
   have hge : ¬ i < (compF f).length := by simp at hc; omega
   obtain rfl : i = (compF f).length := by omega
   refine GoH.exit rfl (gS (gR ?_))
   refine gMv ?_
   refine gAs ?_
   refine gE ?_
   refine GoH.ret Try.f24 Try.func24 rfl (fun w' hS => ?_)
   refine ⟨hS.ext, gs, OwnL.mk hS (.cons _ (List.Sublist.refl _)) hq hcap hin, fun h0 => ?_⟩
   have hT := (chkF_zero.1 h0).top
   have hck : chkF (compF f) = 0 := chkF_zero.2 (compF_ok h0)
   rw [hgs]
   have e1 : (List.range (compF f).length).map (fun k : Nat => subF (compF f) k) = (List.range (compF f).length).map (fun k => canT (treeAt (compF f) k)) := by
     refine List.map_congr_left (fun k hk => ?_)
     rw [List.mem_range] at hk
     rw [subF, if_neg (by simp [hck]; omega)]; rfl
   rw [e1, compF_eq h0]
   rw [compF_eq h0] at hcl
   exact subs_eq hT hcl
theorem rsame_c (a : Option Addr) (ca : Nat) (f : List NV) (b : Option Addr) (cb : Nat) (g : List NV) (w : World) (ha : FA w a f) (hb : FA w b g) (hl : f.length ≤ maxLen) (hl2 : g.length ≤ maxLen) : Cn Try.prog 22 [.slice a f.length ca, .slice b g.length cb] w (fun v _ => v = .bool (sameB f g)) := by
  refine Cn.of Try.func22 rfl rfl ?_
  refine gS (gR ?_)
  refine gAs ?_
  refine gE (gS (gR ?_))
  refine gMv ?_
  refine GoH.callP rfl rfl rfl rfl rfl (fun _ _ => Try.call17 _ _) (fun w _ hS => (by exact rchk_c a ca f w (ha.ex0 hS.ext) hl)) ?_
  refine gBi bEq ?_
  refine gMv ?_
  refine GoH.cases (d := 8) rfl (fun hc => ?_) (fun hc => ?_)
  ·
   have h1 : chkF f = 0 := by simpa using hc
   refine gMv ?_
   refine GoH.callP rfl rfl rfl rfl rfl (fun _ _ => Try.call17 _ _) (fun w _ hS => (by exact rchk_c b cb g w (hb.ex0 hS.ext) hl2)) ?_
   refine gBi bEq ?_
   refine gPt ?_
   refine gMv ?_
   refine GoH.cases (d := 13) rfl (fun hc => ?_) (fun hc => ?_)
   ·
    have h2 : chkF g = 0 := by simpa using hc
    refine gMv ?_
    refine GoH.callM _ rfl rfl rfl rfl rfl (fun _ _ => Try.call19 _ _) (fun w _ hS => (by exact rcompact_c a ca f w (ha.ex0 hS.ext) hl)) ?_
    rintro v w1 w2 Y' hS he ho
    rw [subF_top] at ho
    obtain ⟨q1, cap1, sp1, rfl, hq1, hcap1, hS'⟩ := gainN hS he ho
    refine ⟨_, hS', ?_⟩
    refine gMv ?_
    refine GoH.callM _ rfl rfl rfl rfl rfl (fun _ _ => Try.call19 _ _) (fun w _ hS => (by exact rcompact_c b cb g w (hb.ex0 hS.ext) hl2)) ?_
    rintro v w1 w2 Y' hS he ho
    rw [subF_top] at ho
    obtain ⟨q2, cap2, sp2, rfl, hq2, hcap2, hS'⟩ := gainN hS he ho
    refine ⟨_, hS', ?_⟩
    refine GoH.callP rfl rfl rfl rfl rfl (fun _ _ => Try.call14 _ _) (fun w _ hS => (by exact rEqual_c (q1.map (fun b => ⟨b, 0, none⟩)) cap1 (compF f) (q2.map (fun b => ⟨b, 0, none⟩)) cap2 (compF g) w (faAt hS 1 rfl (fun e => (hq1 e).1)) (faAt hS 0 rfl (fun e => (hq2 e).1)) (by have := compF_le2 f; unfold maxLen; omega))) ?_
    refine gPt ?_
    refine gAs ?_
    refine gE ?_
    refine GoH.ret Try.f22 Try.func22 rfl (fun w' hS => ?_)
    refine ⟨hS.ext, ?_⟩
    unfold sameB
    rw [decide_eq_decide.2 (show (compF f = compF g) ↔ (chkF f = 0 ∧ chkF g = 0 ∧ compF f = compF g) from ⟨fun h => ⟨h1, h2, h⟩, fun h => h.2.2⟩)]; rfl
   ·
    have h2 : chkF g ≠ 0 := by simpa using hc
    iterate 5 refine gNo ?_
    refine gPf ?_
    refine gAs ?_
    refine gE ?_
    refine GoH.ret Try.f22 Try.func22 rfl (fun w' hS => ?_)
    exact ⟨hS.ext, by rw [sameB, decide_eq_false (fun h => h2 h.2.1)]; rfl⟩
  ·
   have h1 : chkF f ≠ 0 := by simpa using hc
   iterate 3 refine gNo ?_
   refine gPf ?_
   refine gMv ?_
   iterate 5 refine gNo ?_
   refine gPf ?_
   refine gAs ?_
   refine gE ?_
   refine GoH.ret Try.f22 Try.func22 rfl (fun w' hS => ?_)
   exact ⟨hS.ext, by rw [sameB, decide_eq_false (fun h => h1 h.1)]; rfl⟩
end Go.Proofs.Ytkoipdlkkchmiaa
