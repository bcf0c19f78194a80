/- What calls of the program return, under the conditions that each theorem states. -/
import Derived.Test.YtlihcmknfdckdaaDoorS39
import Derived.Test.YtlihcmknfdckdaaDoorS04
namespace Go.Proofs.YtlihcmknfdckdaaDoor
open Go.RowKit Go.Proofs.Wit Tryd
/-! the laws HilbertJoins, HilbertPrunes and HilbertPonens -/
theorem bLeV9 {P : Program} {t : TypeId} {a b : Int} {v : Bool} {k : IntKind} (e : decide (a ≤ b) = v) : Bin P .leq t (.int k a) (.int k b) (.bool v) := e ▸ bLe
theorem two_dat {E : Int} {x y : List LV} {D : List LD} (h1 : E = 0 → x.map LV.d = D) (h2 : E ≠ 0 → x = []) (k1 : E = 0 → y.map LV.d = D) (k2 : E ≠ 0 → y = []) : x.map LV.d = y.map LV.d := by
 by_cases e : E = 0
 ·rw [h1 e, k1 e]
 ·rw [h2 e, k2 e]
theorem pru_max {l : Int} {ls x : List LV} (h1 : checkH l ls = 0 → x.map LV.d = pruL ls) (h2 : checkH l ls ≠ 0 → x = []) : x.length ≤ maxLen := by
 by_cases e : checkH l ls = 0
 ·have h3 := congrArg List.length (h1 e)
  rw [List.length_map] at h3
  have h4 := (pru_len e).2
  have h5 := (checkH_zero.1 e).2.2.1
  unfold maxLen; omega
 ·rw [h2 e]; exact Nat.zero_le _
theorem joi_max {l : Int} {a b x : List LV} (h1 : joiE l a b = 0 → x.map LV.d = joiL a b) (h2 : joiE l a b ≠ 0 → x = []) (ha : a.length ≤ 1000) (hb : b.length ≤ 1000) : x.length ≤ maxLen := by
 by_cases e : joiE l a b = 0
 ·have h3 := congrArg List.length (h1 e)
  rw [List.length_map, joi_len] at h3
  unfold maxLen; omega
 ·rw [h2 e]; exact Nat.zero_le _
set_option maxRecDepth 8000 in
theorem hilbertJoins_c (l : Int) (A : Option Addr) (cA : Nat) (a : List LV) (B : Option Addr) (cB : Nat) (b : List LV) (w : World) (hT : Axs w) (hA : LA w A a) (hB : LA w B b) :
    Cn Tryd.prog 10 [.int .i64 l, .slice A a.length cA, .slice B b.length cB] w (fun v _ => v = .bool true) := by
  refine Cn.of func10 rfl rfl ?_
  refine gS (gR ?_); refine gAs ?_; refine gE (gS (gS (gR ?_))); refine gMv ?_
  refine gM rfl rfl rfl rfl rfl call11 (fun w _ hS => (by exact gfewL_c A cA a 30 w (by decide) (hA.ex0 hS.ext))) ?_
  rintro v w1 w2 Y' hS he ⟨b1, rfl, hb1⟩
  refine ⟨_, hS.later he, ?_⟩
  refine gUn uNot ?_; refine gMv ?_
  refine gCs 18 (fun hc => ?_) fun hc => ?_
  ·
   have h1 : b1 = false := by simpa using hc
   iterate 3 refine gNo ?_
   refine gPt ?_; refine gE (GoH.condT rfl (gS (gR ?_)))
   refine gP rfl rfl rfl rfl rfl call13 (fun w _ hS => (by exact awake49_c w (hT.ex hS.ext))) ?_
   refine gAs ?_; refine gE ?_
   refine gT func10 fun w' hS => ?_
   exact ⟨hS.ext, rfl⟩
  ·
   have h1 : b1 = true := by simpa using hc
   have hal := (hb1 h1).1
   refine gMv ?_
   refine gM rfl rfl rfl rfl rfl call11 (fun w _ hS => (by exact gfewL_c B cB b 30 w (by decide) (hB.ex0 hS.ext))) ?_
   rintro v w1 w2 Y' hS he ⟨b2, rfl, hb2⟩
   refine ⟨_, hS.later he, ?_⟩
   refine gUn uNot ?_; refine gPf ?_; refine gE ?_
   refine gC (fun hc => ?_) fun hc => ?_
   ·
    have h2 : b2 = false := by simpa using hc
    refine gS (gR ?_)
    refine gP rfl rfl rfl rfl rfl call13 (fun w _ hS => (by exact awake49_c w (hT.ex hS.ext))) ?_
    refine gAs ?_; refine gE ?_
    refine gT func10 fun w' hS => ?_
    exact ⟨hS.ext, rfl⟩
   ·
    have h2 : b2 = true := by simpa using hc
    have hbl := (hb2 h2).1
    refine gK (gS (gR ?_))
    iterate 2 refine gMv ?_
    refine gM rfl rfl rfl rfl rfl call30 (fun w _ hS => (by exact hprune_c l A cA a w (hA.ex0 hS.ext) (hT.ex hS.ext))) ?_
    rintro v w1 w2 Y' hS he ⟨sv, x1, rfl, ⟨q1, c1, s1, H1, rfl, hq1, hc1, hn1, hi1⟩, hx1, hx1'⟩
    refine ⟨_, hS.gainPre (pre := [_]) he hn1, ?_⟩
    refine gMv ?_
    iterate 2 refine gEx ?_
    iterate 2 refine gAs ?_
    refine gE (gS (gR ?_))
    iterate 2 refine gMv ?_
    refine gM rfl rfl rfl rfl rfl call32 (fun w _ hS => (by exact gprune_c l A cA a w (hA.ex0 hS.ext))) ?_
    rintro v w1 w2 Y' hS he ⟨sv, x2, rfl, ⟨q2, c2, s2, H2, rfl, hq2, hc2, hn2, hi2⟩, hx2, hx2'⟩
    refine ⟨_, hS.gainPre (pre := [_]) he hn2, ?_⟩
    refine gMv ?_
    iterate 2 refine gEx ?_
    iterate 2 refine gAs ?_
    refine gE (gS (gR ?_))
    iterate 3 refine gMv ?_
    refine gM rfl rfl rfl rfl rfl call29 (fun w _ hS => (by exact hjoin_c l A cA a B cB b w (hA.ex0 hS.ext) (hB.ex0 hS.ext) (hT.ex hS.ext))) ?_
    rintro v w1 w2 Y' hS he ⟨sv, x3, rfl, ⟨q3, c3, s3, H3, rfl, hq3, hc3, hn3, hi3⟩, hx3, hx3'⟩
    refine ⟨_, hS.gainPre (pre := [_]) he hn3, ?_⟩
    refine gMv ?_
    iterate 2 refine gEx ?_
    iterate 2 refine gAs ?_
    refine gE (gS (gR ?_))
    iterate 3 refine gMv ?_
    refine gM rfl rfl rfl rfl rfl call33 (fun w _ hS => (by exact gjoin_c l A cA a B cB b w (hA.ex0 hS.ext) (hB.ex0 hS.ext))) ?_
    rintro v w1 w2 Y' hS he ⟨sv, x4, rfl, ⟨q4, c4, s4, H4, rfl, hq4, hc4, hn4, hi4⟩, hx4, hx4'⟩
    refine ⟨_, hS.gainPre (pre := [_]) he hn4, ?_⟩
    refine gMv ?_
    iterate 2 refine gEx ?_
    iterate 2 refine gAs ?_
    refine gE (gS (gR ?_))
    iterate 2 refine gMv ?_
    refine gP rfl rfl rfl rfl rfl call31 (fun w _ hS => (by exact gsame49_c (q1.map (fun b => ⟨b, 0, none⟩)) c1 x1 (q2.map (fun b => ⟨b, 0, none⟩)) c2 x2 w (laAt0 hS 3 rfl (fun e => (hq1 e).1) (fun x hx => ⟨(hi1 x hx).1.mono (fun z hz => by simp [hz]), (hi1 x hx).2⟩)) (laAt0 hS 2 rfl (fun e => (hq2 e).1) (fun x hx => ⟨(hi2 x hx).1.mono (fun z hz => by simp [hz]), (hi2 x hx).2⟩)) (pru_max hx1 hx1') (two_dat hx1 hx1' hx2 hx2'))) ?_
    iterate 3 refine gMv ?_
    refine gBx rfl rfl rfl rfl (bEqV (v := true) (beq_self_eq_true _)) ?_
    refine gPt ?_
    iterate 3 refine gMv ?_
    refine gP rfl rfl rfl rfl rfl call31 (fun w _ hS => (by exact gsame49_c (q3.map (fun b => ⟨b, 0, none⟩)) c3 x3 (q4.map (fun b => ⟨b, 0, none⟩)) c4 x4 w (laAt0 hS 1 rfl (fun e => (hq3 e).1) (fun x hx => ⟨(hi3 x hx).1.mono (fun z hz => by simp [hz]), (hi3 x hx).2⟩)) (laAt0 hS 0 rfl (fun e => (hq4 e).1) (fun x hx => ⟨(hi4 x hx).1.mono (fun z hz => by simp [hz]), (hi4 x hx).2⟩)) (joi_max hx3 hx3' (by omega) (by omega)) (two_dat hx3 hx3' hx4 hx4'))) ?_
    refine gPt ?_
    iterate 3 refine gMv ?_
    refine gBx rfl rfl rfl rfl (bEqV (v := true) (beq_self_eq_true _)) ?_
    refine gPt ?_; refine gMv ?_
    refine gP rfl rfl rfl rfl rfl call13 (fun w _ hS => (by exact awake49_c w (hT.ex hS.ext))) ?_
    refine gPt ?_; refine gAs ?_; refine gE ?_
    refine gT func10 fun w' hS => ?_
    exact ⟨hS.ext, rfl⟩
/-- the last formula of a pruned proof -/
theorem pru_f {l : Int} {ls x : List LV} (h : checkH l ls = 0) (hx : x.map LV.d = pruL ls) (hlt : ls.length - 1 < ls.length) : (x.map (fun x => x.f.f)).getD (x.length - 1) [] = compF ls[ls.length - 1].f.f := by
 obtain ⟨h1, h2, h3⟩ := pru_last h
 have e1 : x.map (fun x => x.f.f) = (pruL ls).map LD.f := by rw [← hx, List.map_map]; rfl
 have e2 : x.length = (pruL ls).length := by have := congrArg List.length hx; simpa using this
 rw [e1, e2, getD_map h1, h3]; rfl
theorem same_comp {f : List NV} (h : chkF f = 0) : sameB (compF f) f = true := decide_eq_true ⟨comp_chk h, h, comp_comp h⟩
set_option maxRecDepth 8000 in
theorem hilbertPrunes_c (l : Int) (A : Option Addr) (cA : Nat) (ls : List LV) (w : World) (hT : Axs w) (hA : LA w A ls) :
    Cn Tryd.prog 9 [.int .i64 l, .slice A ls.length cA] w (fun v _ => v = .bool true) := by
  refine Cn.of func9 rfl rfl ?_
  refine gS (gR ?_); refine gAs ?_; refine gE (gS (gS (gR ?_))); refine gMv ?_
  refine gM rfl rfl rfl rfl rfl call11 (fun w _ hS => (by exact gfewL_c A cA ls 30 w (by decide) (hA.ex0 hS.ext))) ?_
  rintro v w1 w2 Y' hS he ⟨b1, rfl, hb1⟩
  refine ⟨_, hS.later he, ?_⟩
  refine gUn uNot ?_; refine gMv ?_
  refine gCs 12 (fun hc => ?_) fun hc => ?_
  ·
   have h1 : b1 = false := by simpa using hc
   iterate 4 refine gNo ?_
   refine gPt ?_; refine gMv ?_
   iterate 3 refine gNo ?_
   refine gPt ?_; refine gE (GoH.condT rfl (gS (gR ?_)))
   refine gP rfl rfl rfl rfl rfl call13 (fun w _ hS => (by exact awake49_c w (hT.ex hS.ext))) ?_
   refine gAs ?_; refine gE ?_
   refine gT func9 fun w' hS => ?_
   exact ⟨hS.ext, rfl⟩
  ·
   have h1 : b1 = true := by simpa using hc
   have hal := (hb1 h1).1
   iterate 2 refine gMv ?_
   refine gP rfl rfl rfl rfl rfl call14 (fun w _ hS => (by exact hcheck_c l A cA ls w (hA.ex0 hS.ext) (hT.ex hS.ext))) ?_
   refine gBi bNe ?_; refine gPf ?_; refine gMv ?_
   refine gCs 18 (fun hc => ?_) fun hc => ?_
   ·
    have h2 : checkH l ls ≠ 0 := by simpa using hc
    iterate 3 refine gNo ?_
    refine gPt ?_; refine gE (GoH.condT rfl (gS (gR ?_)))
    refine gP rfl rfl rfl rfl rfl call13 (fun w _ hS => (by exact awake49_c w (hT.ex hS.ext))) ?_
    refine gAs ?_; refine gE ?_
    refine gT func9 fun w' hS => ?_
    exact ⟨hS.ext, rfl⟩
   ·
    have h2 : checkH l ls = 0 := by simpa using hc
    refine gMv ?_; refine gBl underlying22 ?_; refine gBi bEq ?_; refine gPf ?_; refine gE ?_
    refine gC (fun hc => ?_) fun hc => ?_
    ·
     have h3 : ls.length = 0 := by simpa using hc
     refine gS (gR ?_)
     refine gP rfl rfl rfl rfl rfl call13 (fun w _ hS => (by exact awake49_c w (hT.ex hS.ext))) ?_
     refine gAs ?_; refine gE ?_
     refine gT func9 fun w' hS => ?_
     exact ⟨hS.ext, rfl⟩
    ·
     have h3 : ¬ ls.length = 0 := by simpa using hc
     have hlt : ls.length - 1 < ls.length := by omega
     obtain ⟨hfa, hfal⟩ := hA.fs ls[ls.length - 1] (List.getElem_mem hlt)
     have hck := (formE_zero.1 (line_form h2 _ hlt)).1
     refine gK (gS (gR ?_))
     iterate 2 refine gMv ?_
     refine gM rfl rfl rfl rfl rfl call30 (fun w _ hS => (by exact hprune_c l A cA ls w (hA.ex0 hS.ext) (hT.ex hS.ext))) ?_
     rintro v w1 w2 Y' hS he ⟨sv, x1, rfl, ⟨q1, c1, s1, H1, rfl, hq1, hc1, hn1, hi1⟩, hx1, hx1'⟩
     have hxd := hx1 h2
     have hch1 : checkH l x1 = 0 := checkH_dat (by rw [hxd, List.map_map]; exact List.map_id _) (pru_check h2)
     have hle : x1.length ≤ ls.length := by
       have := congrArg List.length hxd
       rw [List.length_map] at this
       have := (pru_len h2).2
       omega
     rw [h2]
     refine ⟨_, hS.gainPre (pre := [_]) he hn1, ?_⟩
     refine gMv ?_
     iterate 2 refine gEx ?_
     iterate 2 refine gAs ?_
     refine gE (gS (gR ?_))
     iterate 2 refine gMv ?_
     refine gM rfl rfl rfl rfl rfl call30 (fun w _ hS => (by exact hprune_c l (q1.map (fun b => ⟨b, 0, none⟩)) c1 x1 w (laAt0 hS 0 rfl (fun e => (hq1 e).1) (fun x hx => ⟨(hi1 x hx).1.mono (fun z hz => by simp [hz]), (hi1 x hx).2⟩)) (hT.ex hS.ext))) ?_
     rintro v w1 w2 Y' hS he ⟨sv, x2, rfl, ⟨q2, c2, s2, H2, rfl, hq2, hc2, hn2, hi2⟩, hx2, hx2'⟩
     have hxd2 := hx2 hch1
     have hag := pru_again h2 hxd
     rw [hch1]
     refine ⟨_, hS.gainPre (pre := [_]) he hn2, ?_⟩
     refine gMv ?_
     iterate 2 refine gEx ?_
     iterate 2 refine gAs ?_
     refine gE (gS (gR ?_)); refine gMv ?_
     refine gBx rfl rfl rfl rfl (bEqV (v := true) rfl) ?_
     iterate 2 refine gMv ?_
     refine gBx rfl rfl rfl rfl (bEqV (v := true) rfl) ?_
     refine gPt ?_
     iterate 2 refine gMv ?_
     refine gBl underlying22 ?_; refine gMv ?_; refine gBl underlying22 ?_
     refine gBx rfl rfl rfl rfl (bLeV9 (v := true) (decide_eq_true (by omega))) ?_
     refine gPt ?_
     iterate 5 refine gMv ?_
     refine gBl underlying22 ?_
     refine gBx rfl rfl rfl rfl (bSubE (c := ((ls.length - 1 : Nat) : Int)) (by omega) (by omega)) ?_
     refine GoH.v (Vop.idxN rfl rfl rfl rfl rfl underlying22 sizeOf40 ⟨_, (hA).at_⟩ (flat_len (enc := LV.cells) (sz := 5) (fun _ => rfl)) (by decide) ((ls.length - 1)) ⟨rfl, hlt⟩) ?_
     refine GoH.v (Vop.fldA rfl rfl rfl rfl underlying40 rfl sizeOf23 (((ls.length - 1)) * 5 + 0) rfl) ?_
     refine GoH.v (Vop.ld rfl rfl rfl rfl isAgg23 (fun w _ hS => Sl.fld (enc := LV.cells) (sz := 5) ((hA).ex0 hS.ext).at_ (fun _ => rfl) hlt rfl)) ?_
     refine gP rfl rfl rfl rfl rfl call16 (fun w _ hS => (by exact hproves_c l (q1.map (fun b => ⟨b, 0, none⟩)) c1 x1 ls[ls.length - 1].f.a ls[ls.length - 1].f.c ls[ls.length - 1].f.f w (laAt0 hS 1 rfl (fun e => (hq1 e).1) (fun x hx => ⟨(hi1 x hx).1.mono (fun z hz => by simp [hz]), (hi1 x hx).2⟩)) (hT.ex hS.ext) (hfa.ex0 hS.ext) hfal)) ?_
     rw [show (decide (checkH l x1 = 0) && sameB ((x1.map (fun x => x.f.f)).getD (x1.length - 1) []) ls[ls.length - 1].f.f) = true from by rw [hch1, pru_f h2 hxd hlt, same_comp hck]; rfl]
     refine gPt ?_
     iterate 3 refine gMv ?_
     refine gP rfl rfl rfl rfl rfl call31 (fun w _ hS => (by exact gsame49_c (q1.map (fun b => ⟨b, 0, none⟩)) c1 x1 (q2.map (fun b => ⟨b, 0, none⟩)) c2 x2 w (laAt0 hS 1 rfl (fun e => (hq1 e).1) (fun x hx => ⟨(hi1 x hx).1.mono (fun z hz => by simp [hz]), (hi1 x hx).2⟩)) (laAt0 hS 0 rfl (fun e => (hq2 e).1) (fun x hx => ⟨(hi2 x hx).1.mono (fun z hz => by simp [hz]), (hi2 x hx).2⟩)) (by unfold maxLen; omega) (by rw [hxd, hxd2, hag]))) ?_
     refine gPt ?_; refine gMv ?_
     refine gP rfl rfl rfl rfl rfl call13 (fun w _ hS => (by exact awake49_c w (hT.ex hS.ext))) ?_
     refine gPt ?_; refine gAs ?_; refine gE ?_
     refine gT func9 fun w' hS => ?_
     exact ⟨hS.ext, rfl⟩
end Go.Proofs.YtlihcmknfdckdaaDoor
