/- What calls of the program return, under the conditions that each theorem states. -/
import Derived.Test.YtlihcmknfdckdaaDoorQ31
import Derived.Test.YtlihcmknfdckdaaDoorQ04
namespace Go.Proofs.YtlihcmknfdckdaaDoor
open Go.RowKit Go.Proofs.Wit
/-! checking proofs: the reference -/
set_option maxRecDepth 8000 in
theorem gline_c (l : Int) (A : Option Addr) (cA : Nat) (ls : List LV) (i : Nat) (w : World) (hA : LA w A ls) (hl : 0 ≤ l ∧ l ≤ 6) (hi : i < ls.length) (hbef : ∀ (j : Nat) (hj : j < ls.length), j < i → chkF ls[j].f.f = 0) :
    Cn Tryd.prog 40 [.int .i64 l, .slice A ls.length cA, .int .i64 i] w (fun v _ => v = .int .i64 (lineE l ls i ls[i])) := by
  obtain ⟨x, hx⟩ : ∃ x, x = ls[i] := ⟨_, rfl⟩
  obtain ⟨hfa, hla⟩ := hA.fs ls[i] (List.getElem_mem hi)
  rw [← hx] at hfa hla
  refine Cn.of Tryd.func40 rfl rfl ?_
  refine gS (gR ?_)
  refine gAs ?_
  refine gE (gS (gR ?_))
  iterate 2 refine gMv ?_
  refine GoH.v (Vop.idxN rfl rfl rfl rfl rfl Tryd.underlying22 Tryd.sizeOf40 ⟨_, (hA).at_⟩ (flat_len (enc := LV.cells) (sz := 5) (fun _ => rfl)) (by decide) (i) ⟨rfl, hi⟩) ?_
  refine GoH.v (Vop.ldN (cs := LV.cells x) rfl rfl rfl rfl Tryd.isAgg40 Tryd.sizeOf40 (fun w _ hS => by rw [hx]; exact Sl.many (enc := LV.cells) (sz := 5) (hA.ex0 hS.ext).at_ (fun _ => rfl) hi)) ?_
  refine GoH.alc rfl rfl rfl (fun _ => Tryd.zeroValue40 _) (fun b7 => ?_)
  refine GoH.stB rfl rfl rfl rfl Tryd.sizeOf40 0 rfl rfl rfl rfl ?_
  refine gE (gS (gS (gR ?_)))
  refine gFp Tryd.underlying40 Tryd.sizeOf23 0 ?_
  refine gLo Tryd.isAgg23 0 ?_
  refine GoH.callP rfl rfl rfl rfl rfl (fun _ _ => Tryd.call25 _ _) (fun w _ hS => (by exact rchk_c x.f.a x.f.c x.f.f w (hfa.ex0 hS.ext) hla)) ?_
  refine gAs ?_
  refine gE (gS (gR ?_))
  refine gMv ?_
  refine gBi bNe ?_
  refine gE ?_
  refine GoH.cond rfl (fun hc => ?_) (fun hc => ?_)
  ·
   have h1 : chkF x.f.f ≠ 0 := by simpa using hc
   have h1' : formE x.f.f ≠ 0 := by rw [formE, if_pos h1]; exact h1
   refine gS (gR ?_)
   refine gMv ?_
   refine gAs ?_
   refine gE ?_
   refine GoH.ret Tryd.f40 Tryd.func40 rfl (fun w' hS => ?_)
   exact ⟨hS.ext, by rw [← hx, lineE, if_pos h1', formE, if_pos h1]; rfl⟩
  ·
   have h1 : chkF x.f.f = 0 := by simpa using hc
   refine gK (gS (gS (gR ?_)))
   refine gFp Tryd.underlying40 Tryd.sizeOf23 0 ?_
   refine gLo Tryd.isAgg23 0 ?_
   refine GoH.callP rfl rfl rfl rfl rfl (fun _ _ => Tryd.call26 _ _) (fun w _ hS => (by exact glang2_c x.f.a x.f.c x.f.f w (hfa.ex0 hS.ext) hla)) ?_
   refine gUn uNot ?_
   refine gE ?_
   refine GoH.cond rfl (fun hc => ?_) (fun hc => ?_)
   ·
    have h2 : ¬ andN (frgL (compF x.f.f)) 11 = 0 := by simpa using hc
    have h2' : formE x.f.f = 10 := by rw [formE, if_neg (by simp [h1]), if_pos h2]
    refine gS (gR ?_)
    refine gAs ?_
    refine gE ?_
    refine GoH.ret Tryd.f40 Tryd.func40 rfl (fun w' hS => ?_)
    exact ⟨hS.ext, by rw [← hx, lineE, if_pos (by rw [h2']; decide), h2']; rfl⟩
   ·
    have h2 : andN (frgL (compF x.f.f)) 11 = 0 := by simpa using hc
    have h2' : formE x.f.f = 0 := by rw [formE, if_neg (by simp [h1]), if_neg (by simp [h2])]
    refine gK (gS (gS (gR ?_)))
    refine gFp Tryd.underlying40 Tryd.sizeOf3 1 ?_
    refine gLo Tryd.isAgg3 0 ?_
    refine gBi bLt ?_
    refine gMv ?_
    refine GoH.cases (d := 26) rfl (fun hc => ?_) (fun hc => ?_)
    ·
     have h3 : x.r < 1 := by simpa using hc
     iterate 3 refine gNo ?_
     refine gPt ?_
     refine gE (GoH.condT rfl (gS (gR ?_)))
     refine gAs ?_
     refine gE ?_
     refine GoH.ret Tryd.f40 Tryd.func40 rfl (fun w' hS => ?_)
     exact ⟨hS.ext, by rw [← hx, lineE, if_neg (by simp [h2']), if_pos (.inl h3)]; rfl⟩
    ·
     have h3 : ¬ x.r < 1 := by simpa using hc
     refine gFp Tryd.underlying40 Tryd.sizeOf3 1 ?_
     refine gLo Tryd.isAgg3 0 ?_
     refine gBi bGt ?_
     refine gPf ?_
     refine gE ?_
     refine GoH.cond rfl (fun hc => ?_) (fun hc => ?_)
     ·
      have h4 : 12 < x.r := by simpa using hc
      refine gS (gR ?_)
      refine gAs ?_
      refine gE ?_
      refine GoH.ret Tryd.f40 Tryd.func40 rfl (fun w' hS => ?_)
      exact ⟨hS.ext, by rw [← hx, lineE, if_neg (by simp [h2']), if_pos (.inr h4)]; rfl⟩
     ·
      have h4 : ¬ 12 < x.r := by simpa using hc
      have h34 : ¬ (x.r < 1 ∨ 12 < x.r) := by omega
      have hr1 : 1 ≤ x.r := by omega
      have hr12 : x.r ≤ 12 := by omega
      refine gK (gS (gS ?_))
      refine GoH.regionK (α := {b : Bool // b = true ↔ numC1 x}) []
        (fun z => [(0, .int .i64 l), (1, .slice A ls.length cA), (2, .int .i64 i), (7, .pointer (some ⟨b7, 0, none⟩)), (58, .bool z.1)])
        (fun z => [(some b7, .cells (LV.cells x).toArray 40 (0, 0))])
        (fun z => ?_) (fun K => ?_)
      · -- what comes behind the region
       obtain ⟨bC1, hC1⟩ := z
       dsimp only at hC1 ⊢
       refine gE ?_
       refine GoH.cond rfl (fun hc => ?_) (fun hc => ?_)
       ·
        have h5 : numC1 x := hC1.1 hc
        have h5' : numE i x = 3 := numE_3 hr1 hr12 (.inl h5)
        refine gS (gR ?_)
        refine gAs ?_
        refine gE ?_
        refine GoH.ret Tryd.f40 Tryd.func40 rfl (fun w' hS => ?_)
        exact ⟨hS.ext, by rw [← hx, lineE, if_neg (by simp [h2']), if_neg h34, if_pos (by rw [h5']; decide), h5']; rfl⟩
       ·
        have h5 : ¬ numC1 x := fun h => by have h6 := hC1.2 h; rw [show bC1 = false from hc] at h6; cases h6
        refine gK (gS (gS ?_))
        refine GoH.regionK (α := {b : Bool // b = true ↔ numC2 i x}) []
          (fun z => [(0, .int .i64 l), (1, .slice A ls.length cA), (2, .int .i64 i), (7, .pointer (some ⟨b7, 0, none⟩)), (88, .bool z.1)])
          (fun z => [(some b7, .cells (LV.cells x).toArray 40 (0, 0))])
          (fun z => ?_) (fun K => ?_)
        · -- what comes behind the region
         obtain ⟨bC2, hC2⟩ := z
         dsimp only at hC2 ⊢
         refine gE ?_
         refine GoH.cond rfl (fun hc => ?_) (fun hc => ?_)
         ·
          have h6 : numC2 i x := hC2.1 hc
          have h6' : numE i x = 3 := numE_3 hr1 hr12 (.inr h6)
          refine gS (gR ?_)
          refine gAs ?_
          refine gE ?_
          refine GoH.ret Tryd.f40 Tryd.func40 rfl (fun w' hS => ?_)
          exact ⟨hS.ext, by rw [← hx, lineE, if_neg (by simp [h2']), if_neg h34, if_pos (by rw [h6']; decide), h6']; rfl⟩
         ·
          have h6 : ¬ numC2 i x := fun h => by have h7 := hC2.2 h; rw [show bC2 = false from hc] at h7; cases h7
          have hnum := numE_2 hr1 hr12 h5 h6
          refine gK (gS (gS (gR ?_)))
          refine gFp Tryd.underlying40 Tryd.sizeOf3 4 ?_
          refine gLo Tryd.isAgg3 0 ?_
          refine gBi bLt ?_
          refine gMv ?_
          refine GoH.cases (d := 92) rfl (fun hc => ?_) (fun hc => ?_)
          ·
           have h7 : x.g < 0 := by simpa using hc
           rw [if_pos (.inl h7)] at hnum
           iterate 3 refine gNo ?_
           refine gPt ?_
           refine gE (GoH.condT rfl (gS (gR ?_)))
           refine gAs ?_
           refine gE ?_
           refine GoH.ret Tryd.f40 Tryd.func40 rfl (fun w' hS => ?_)
           exact ⟨hS.ext, by rw [← hx, lineE, if_neg (by simp [h2']), if_neg h34, if_pos (by rw [hnum]; decide), hnum]; rfl⟩
          ·
           have h7 : ¬ x.g < 0 := by simpa using hc
           refine gFp Tryd.underlying40 Tryd.sizeOf3 4 ?_
           refine gLo Tryd.isAgg3 0 ?_
           refine gBi bGe ?_
           refine gPf ?_
           refine gE ?_
           refine GoH.cond rfl (fun hc => ?_) (fun hc => ?_)
           ·
            have h8 : x.g ≥ 4 := by simpa using hc
            rw [if_pos (.inr h8)] at hnum
            refine gS (gR ?_)
            refine gAs ?_
            refine gE ?_
            refine GoH.ret Tryd.f40 Tryd.func40 rfl (fun w' hS => ?_)
            exact ⟨hS.ext, by rw [← hx, lineE, if_neg (by simp [h2']), if_neg h34, if_pos (by rw [hnum]; decide), hnum]; rfl⟩
           ·
            have h8 : ¬ x.g ≥ 4 := by simpa using hc
            rw [if_neg (by omega)] at hnum
            have hok : LnOk ls i x := by rw [hx] at h2' h34 hnum ⊢; exact lnOk_of hi hbef h2' h34 hnum
            refine gK (gS (gS (gR ?_)))
            refine gMv ?_
            refine gFp Tryd.underlying40 Tryd.sizeOf3 1 ?_
            refine gLo Tryd.isAgg3 0 ?_
            refine GoH.callP rfl rfl rfl rfl rfl (fun _ _ => Tryd.call46 _ _) (fun w _ hS => (by exact ghas_c l x.r w hl)) ?_
            refine gUn uNot ?_
            refine gE ?_
            refine GoH.cond rfl (fun hc => ?_) (fun hc => ?_)
            ·
             have h9 : hasL49 l x.r = false := by simpa using hc
             refine gS (gR ?_)
             refine gAs ?_
             refine gE ?_
             refine GoH.ret Tryd.f40 Tryd.func40 rfl (fun w' hS => ?_)
             exact ⟨hS.ext, by rw [← hx, lineE, if_neg (by simp [h2']), if_neg h34, if_neg (by simp [hnum]), if_pos h9]; rfl⟩
            ·
             have h9 : hasL49 l x.r = true := by simpa using hc
             refine gK (gS (gS (gR ?_)))
             refine gFp Tryd.underlying40 Tryd.sizeOf3 1 ?_
             refine gLo Tryd.isAgg3 0 ?_
             refine gBi bLt ?_
             refine gMv ?_
             refine GoH.cases (d := 105) rfl (fun hc => ?_) (fun hc => ?_)
             ·
              have h10 : x.r < 10 := by simpa using hc
              have hfol : FolP ls x ↔ InstT x.r (topT x.f.f) := by rw [FolP, if_neg (by omega), if_neg (by omega), if_neg (by omega)]
              refine gFp Tryd.underlying40 Tryd.sizeOf3 1 ?_
              refine gLo Tryd.isAgg3 0 ?_
              refine gFp Tryd.underlying40 Tryd.sizeOf23 0 ?_
              refine gLo Tryd.isAgg23 0 ?_
              refine GoH.callM _ rfl rfl rfl rfl rfl (fun _ _ => Tryd.call47 _ _) (fun w _ hS => (by exact ginst_c x.r x.f.a x.f.c x.f.f w hr1 (by omega) (hfa.ex0 hS.ext) hla h1)) ?_
              rintro v w1 w2 Y' hS he ⟨b, rfl, hb2⟩
              refine ⟨_, hS.later he, ?_⟩
              refine gUn uNot ?_
              refine gPt ?_
              refine gMv ?_
              refine GoH.cases (d := 113) rfl (fun hc => ?_) (fun hc => ?_)
              ·
               have hbf : b = false := by simpa using hc
               have h11 : ¬ FolP ls x := fun h => by rw [hb2.2 (hfol.1 h)] at hbf; cases hbf
               iterate 9 refine gNo ?_
               refine gPt ?_
               refine gE (GoH.condT rfl (gS (gR ?_)))
               refine gAs ?_
               refine gE ?_
               refine GoH.ret Tryd.f40 Tryd.func40 rfl (fun w' hS => ?_)
               exact ⟨hS.ext, by rw [← hx, lineE, if_neg (by simp [h2']), if_neg h34, if_neg (by simp [hnum]), if_neg (by simp [h9]), if_neg h11]; rfl⟩
              ·
               have hbt : b = true := by simpa using hc
               refine gFp Tryd.underlying40 Tryd.sizeOf3 1 ?_
               refine gLo Tryd.isAgg3 0 ?_
               refine gBi bGe ?_
               refine gMv ?_
               refine GoH.cases (d := 117) rfl (fun hc => ?_) (fun hc => ?_)
               ·
                have h12 : x.r ≥ 10 := by simpa using hc
                exfalso; omega
               ·
                have h12 : ¬ x.r ≥ 10 := by simpa using hc
                iterate 4 refine gNo ?_
                iterate 2 refine gPf ?_
                refine gE (GoH.condF rfl (gK (gS (gR ?_))))
                refine gAs ?_
                refine gE ?_
                refine GoH.ret Tryd.f40 Tryd.func40 rfl (fun w' hS => ?_)
                exact ⟨hS.ext, by rw [← hx, lineE, if_neg (by simp [h2']), if_neg h34, if_neg (by simp [hnum]), if_neg (by simp [h9]), if_pos (hfol.2 (hb2.1 hbt))]; rfl⟩
             ·
              have h10 : ¬ x.r < 10 := by simpa using hc
              iterate 6 refine gNo ?_
              refine gPf ?_
              refine gMv ?_
              refine gFp Tryd.underlying40 Tryd.sizeOf3 1 ?_
              refine gLo Tryd.isAgg3 0 ?_
              refine gBi bGe ?_
              refine gMv ?_
              refine GoH.cases (d := 117) rfl (fun hc => ?_) (fun hc => ?_)
              ·
               have h12 : x.r ≥ 10 := by simpa using hc
               refine gMv ?_
               refine GoH.v (Vop.ldB rfl rfl rfl rfl Tryd.isAgg40 0 rfl Tryd.sizeOf40 rfl) ?_
               refine GoH.callM _ rfl rfl rfl rfl rfl (fun _ _ => Tryd.call74 _ _) (fun w _ hS => (by exact gfol_c A cA ls i x w (hA.ex0 hS.ext) hok h12 (hfa.ex0 hS.ext) hla)) ?_
               rintro v w1 w2 Y' hS he ⟨b, rfl, hb2⟩
               refine ⟨_, hS.later he, ?_⟩
               refine gUn uNot ?_
               refine gPt ?_
               refine gPf ?_
               refine gE ?_
               refine GoH.cond rfl (fun hc => ?_) (fun hc => ?_)
               ·
                have hbf : b = false := by simpa using hc
                have h6 : ¬ FolP ls x := fun h => by rw [hb2.2 h] at hbf; cases hbf
                refine gS (gR ?_)
                refine gAs ?_
                refine gE ?_
                refine GoH.ret Tryd.f40 Tryd.func40 rfl (fun w' hS => ?_)
                exact ⟨hS.ext, by rw [← hx, lineE, if_neg (by simp [h2']), if_neg h34, if_neg (by simp [hnum]), if_neg (by simp [h9]), if_neg h6]; rfl⟩
               ·
                have hbt : b = true := by simpa using hc
                refine gK (gS (gR ?_))
                refine gAs ?_
                refine gE ?_
                refine GoH.ret Tryd.f40 Tryd.func40 rfl (fun w' hS => ?_)
                exact ⟨hS.ext, by rw [← hx, lineE, if_neg (by simp [h2']), if_neg h34, if_neg (by simp [hnum]), if_neg (by simp [h9]), if_pos (hb2.1 hbt)]; rfl⟩
              ·
               have h12 : ¬ x.r ≥ 10 := by simpa using hc
               exfalso; omega
        · -- the region
         refine gR ?_
         refine gFp Tryd.underlying40 Tryd.sizeOf3 1 ?_
         refine gLo Tryd.isAgg3 0 ?_
         refine gBi bGe ?_
         refine gMv ?_
         refine GoH.cases (d := 62) rfl (fun hc => ?_) (fun hc => ?_)
         ·
          have k1 : 10 ≤ x.r := by simpa using hc
          refine gFp Tryd.underlying40 Tryd.sizeOf3 2 ?_
          refine gLo Tryd.isAgg3 0 ?_
          refine gBi bLt ?_
          refine gMv ?_
          refine GoH.cases (d := 66) rfl (fun hc => ?_) (fun hc => ?_)
          ·
           have k2 : x.a < 0 := by simpa using hc
           iterate 4 refine gNo ?_
           iterate 2 refine gPt ?_
           refine gMv ?_
           iterate 14 refine gNo ?_
           refine gPt ?_
           exact K ⟨true, by unfold numC2; simp; omega⟩ _ _ (by repeat (first | exact SubF.nil | refine SubF.cons rfl ?_)) (fun _ _ hS => hS)
          ·
           have k2 : ¬ x.a < 0 := by simpa using hc
           refine gFp Tryd.underlying40 Tryd.sizeOf3 2 ?_
           refine gLo Tryd.isAgg3 0 ?_
           refine gMv ?_
           refine gBi bGe ?_
           refine gPf ?_
           refine gPt ?_
           refine gMv ?_
           refine GoH.cases (d := 73) rfl (fun hc => ?_) (fun hc => ?_)
           ·
            have k3 : x.a ≥ i := by simpa using hc
            iterate 14 refine gNo ?_
            refine gPt ?_
            exact K ⟨true, by unfold numC2; simp; omega⟩ _ _ (by repeat (first | exact SubF.nil | refine SubF.cons rfl ?_)) (fun _ _ hS => hS)
           ·
            have k3 : ¬ x.a ≥ i := by simpa using hc
            refine gFp Tryd.underlying40 Tryd.sizeOf3 1 ?_
            refine gLo Tryd.isAgg3 0 ?_
            refine gBi bEq ?_
            refine gMv ?_
            refine GoH.cases (d := 77) rfl (fun hc => ?_) (fun hc => ?_)
            ·
             have k4 : x.r = 10 := by simpa using hc
             refine gFp Tryd.underlying40 Tryd.sizeOf3 3 ?_
             refine gLo Tryd.isAgg3 0 ?_
             refine gBi bLt ?_
             refine gMv ?_
             refine GoH.cases (d := 81) rfl (fun hc => ?_) (fun hc => ?_)
             ·
              have k5 : x.b < 0 := by simpa using hc
              iterate 4 refine gNo ?_
              iterate 2 refine gPt ?_
              refine gPf ?_
              exact K ⟨true, by unfold numC2; simp; omega⟩ _ _ (by repeat (first | exact SubF.nil | refine SubF.cons rfl ?_)) (fun _ _ hS => hS)
             ·
              have k5 : ¬ x.b < 0 := by simpa using hc
              refine gFp Tryd.underlying40 Tryd.sizeOf3 3 ?_
              refine gLo Tryd.isAgg3 0 ?_
              refine gMv ?_
              refine gBi bGe ?_
              refine gPf ?_
              refine gPt ?_
              refine gPf ?_
              exact K ⟨decide (x.b ≥ i), by unfold numC2; simp; omega⟩ _ _ (by repeat (first | exact SubF.nil | refine SubF.cons rfl ?_)) (fun _ _ hS => hS)
            ·
             have k4 : ¬ x.r = 10 := by simpa using hc
             iterate 9 refine gNo ?_
             iterate 2 refine gPf ?_
             exact K ⟨false, by unfold numC2; simp; omega⟩ _ _ (by repeat (first | exact SubF.nil | refine SubF.cons rfl ?_)) (fun _ _ hS => hS)
         ·
          have k1 : ¬ 10 ≤ x.r := by simpa using hc
          iterate 9 refine gNo ?_
          refine gPf ?_
          refine gMv ?_
          refine gFp Tryd.underlying40 Tryd.sizeOf3 1 ?_
          refine gLo Tryd.isAgg3 0 ?_
          refine gBi bEq ?_
          refine gMv ?_
          refine GoH.cases (d := 77) rfl (fun hc => ?_) (fun hc => ?_)
          ·
           have k4 : x.r = 10 := by simpa using hc
           exfalso; omega
          ·
           have k4 : ¬ x.r = 10 := by simpa using hc
           iterate 9 refine gNo ?_
           iterate 2 refine gPf ?_
           exact K ⟨false, by unfold numC2; simp; omega⟩ _ _ (by repeat (first | exact SubF.nil | refine SubF.cons rfl ?_)) (fun _ _ hS => hS)
      · -- the region
       refine gR ?_
       refine gFp Tryd.underlying40 Tryd.sizeOf3 1 ?_
       refine gLo Tryd.isAgg3 0 ?_
       refine gBi bLt ?_
       refine gMv ?_
       refine GoH.cases (d := 34) rfl (fun hc => ?_) (fun hc => ?_)
       ·
        have k1 : x.r < 10 := by simpa using hc
        refine gFp Tryd.underlying40 Tryd.sizeOf3 2 ?_
        refine gLo Tryd.isAgg3 0 ?_
        refine gBi bNe ?_
        refine gPt ?_
        refine gMv ?_
        refine GoH.cases (d := 39) rfl (fun hc => ?_) (fun hc => ?_)
        ·
         have k2 : x.a ≠ 0 := by simpa using hc
         iterate 8 refine gNo ?_
         refine gPt ?_
         refine gMv ?_
         iterate 8 refine gNo ?_
         refine gPt ?_
         exact K ⟨true, by unfold numC1; simp; omega⟩ _ _ (by repeat (first | exact SubF.nil | refine SubF.cons rfl ?_)) (fun _ _ hS => hS)
        ·
         have k2 : x.a = 0 := by simpa using hc
         refine gFp Tryd.underlying40 Tryd.sizeOf3 1 ?_
         refine gLo Tryd.isAgg3 0 ?_
         refine gBi bNe ?_
         refine gMv ?_
         refine GoH.cases (d := 43) rfl (fun hc => ?_) (fun hc => ?_)
         ·
          have k3 : x.r ≠ 10 := by simpa using hc
          refine gFp Tryd.underlying40 Tryd.sizeOf3 3 ?_
          refine gLo Tryd.isAgg3 0 ?_
          refine gBi bNe ?_
          refine gPt ?_
          refine gPf ?_
          refine gMv ?_
          refine GoH.cases (d := 49) rfl (fun hc => ?_) (fun hc => ?_)
          ·
           have k4 : x.b ≠ 0 := by simpa using hc
           iterate 8 refine gNo ?_
           refine gPt ?_
           exact K ⟨true, by unfold numC1; simp; omega⟩ _ _ (by repeat (first | exact SubF.nil | refine SubF.cons rfl ?_)) (fun _ _ hS => hS)
          ·
           have k4 : x.b = 0 := by simpa using hc
           refine gFp Tryd.underlying40 Tryd.sizeOf3 1 ?_
           refine gLo Tryd.isAgg3 0 ?_
           refine gBi bNe ?_
           refine gMv ?_
           refine GoH.cases (d := 53) rfl (fun hc => ?_) (fun hc => ?_)
           ·
            have k5 : x.r ≠ 11 := by simpa using hc
            refine gFp Tryd.underlying40 Tryd.sizeOf3 4 ?_
            refine gLo Tryd.isAgg3 0 ?_
            refine gBi bNe ?_
            refine gPt ?_
            refine gPf ?_
            exact K ⟨x.g != 0, by unfold numC1; simp; omega⟩ _ _ (by repeat (first | exact SubF.nil | refine SubF.cons rfl ?_)) (fun _ _ hS => hS)
           ·
            have k5 : x.r = 11 := by simpa using hc
            exfalso; omega
         ·
          have k3 : x.r = 10 := by simpa using hc
          exfalso; omega
       ·
        have k1 : ¬ x.r < 10 := by simpa using hc
        iterate 3 refine gNo ?_
        refine gPf ?_
        refine gMv ?_
        refine gFp Tryd.underlying40 Tryd.sizeOf3 1 ?_
        refine gLo Tryd.isAgg3 0 ?_
        refine gBi bNe ?_
        refine gMv ?_
        refine GoH.cases (d := 43) rfl (fun hc => ?_) (fun hc => ?_)
        ·
         have k3 : x.r ≠ 10 := by simpa using hc
         refine gFp Tryd.underlying40 Tryd.sizeOf3 3 ?_
         refine gLo Tryd.isAgg3 0 ?_
         refine gBi bNe ?_
         refine gPt ?_
         refine gPf ?_
         refine gMv ?_
         refine GoH.cases (d := 49) rfl (fun hc => ?_) (fun hc => ?_)
         ·
          have k4 : x.b ≠ 0 := by simpa using hc
          iterate 8 refine gNo ?_
          refine gPt ?_
          exact K ⟨true, by unfold numC1; simp; omega⟩ _ _ (by repeat (first | exact SubF.nil | refine SubF.cons rfl ?_)) (fun _ _ hS => hS)
         ·
          have k4 : x.b = 0 := by simpa using hc
          refine gFp Tryd.underlying40 Tryd.sizeOf3 1 ?_
          refine gLo Tryd.isAgg3 0 ?_
          refine gBi bNe ?_
          refine gMv ?_
          refine GoH.cases (d := 53) rfl (fun hc => ?_) (fun hc => ?_)
          ·
           have k5 : x.r ≠ 11 := by simpa using hc
           refine gFp Tryd.underlying40 Tryd.sizeOf3 4 ?_
           refine gLo Tryd.isAgg3 0 ?_
           refine gBi bNe ?_
           refine gPt ?_
           refine gPf ?_
           exact K ⟨x.g != 0, by unfold numC1; simp; omega⟩ _ _ (by repeat (first | exact SubF.nil | refine SubF.cons rfl ?_)) (fun _ _ hS => hS)
          ·
           have k5 : x.r = 11 := by simpa using hc
           iterate 3 refine gNo ?_
           iterate 2 refine gPf ?_
           exact K ⟨false, by unfold numC1; simp; omega⟩ _ _ (by repeat (first | exact SubF.nil | refine SubF.cons rfl ?_)) (fun _ _ hS => hS)
        ·
         have k3 : x.r = 10 := by simpa using hc
         iterate 3 refine gNo ?_
         iterate 2 refine gPf ?_
         refine gMv ?_
         refine gFp Tryd.underlying40 Tryd.sizeOf3 1 ?_
         refine gLo Tryd.isAgg3 0 ?_
         refine gBi bNe ?_
         refine gMv ?_
         refine GoH.cases (d := 53) rfl (fun hc => ?_) (fun hc => ?_)
         ·
          have k5 : x.r ≠ 11 := by simpa using hc
          refine gFp Tryd.underlying40 Tryd.sizeOf3 4 ?_
          refine gLo Tryd.isAgg3 0 ?_
          refine gBi bNe ?_
          refine gPt ?_
          refine gPf ?_
          exact K ⟨x.g != 0, by unfold numC1; simp; omega⟩ _ _ (by repeat (first | exact SubF.nil | refine SubF.cons rfl ?_)) (fun _ _ hS => hS)
         ·
          have k5 : x.r = 11 := by simpa using hc
          exfalso; omega
end Go.Proofs.YtlihcmknfdckdaaDoor
namespace Go.Proofs.YtlihcmknfdckdaaDoor
open Go.RowKit Go.Proofs.Wit
/-! finding an axiom's rule: the program -/
open Classical in
theorem ruleF_step {l : Int} {t : Tr} {k : Nat} (h : ruleF l t k = 0) : (hasL49 l ((k : Int) + 1) = true ∧ InstT ((k : Int) + 1) t → ruleF l t (k + 1) = (k : Int) + 1) ∧ (¬ (hasL49 l ((k : Int) + 1) = true ∧ InstT ((k : Int) + 1) t) → ruleF l t (k + 1) = 0) := by
  have e : ruleF l t (k + 1) = if ruleF l t k ≠ 0 then ruleF l t k else if hasL49 l ((k : Int) + 1) = true ∧ InstT ((k : Int) + 1) t then (k : Int) + 1 else 0 := rfl
  rw [e, if_neg (by simp [h])]
  exact ⟨fun h => if_pos h, fun h => if_neg h⟩
theorem ruleF_at {l : Int} {t : Tr} {k : Nat} (hk : k < 9) (h : ruleF l t k = 0) (h2 : hasL49 l ((k : Int) + 1) = true ∧ InstT ((k : Int) + 1) t) : ruleF l t 9 = (k : Int) + 1 := by
  have h3 := (ruleF_step h).1 h2
  have := ruleF_bad (l := l) (t := t) (k := k + 1) (by rw [h3]; omega) (9 - (k + 1))
  rw [show k + 1 + (9 - (k + 1)) = 9 by omega, h3] at this
  exact this
set_option maxRecDepth 8000 in
theorem haxiom_c (l : Int) (a : Option Addr) (ca : Nat) (f : List NV) (w : World) (hT : Axs w) (ha : FA w a f) (hl : f.length ≤ maxLen) :
    Cn Tryd.prog 18 [.int .i64 l, .slice a f.length ca] w (fun v _ => v = .tuple #[.int .i64 (axR l f), .int .i64 (axE l f)]) := by
  refine Cn.of Tryd.func18 rfl rfl ?_
  refine gS (gR ?_)
  iterate 2 refine gAs ?_
  refine gE (gS (gS (gR ?_)))
  refine gMv ?_
  refine GoH.callP rfl rfl rfl rfl rfl (fun _ _ => Tryd.call38 _ _) (fun w _ hS => (by exact there_c l w)) ?_
  refine gUn uNot ?_
  refine gE ?_
  refine GoH.cond rfl (fun hc => ?_) (fun hc => ?_)
  ·
   have h1 : ¬ (0 ≤ l ∧ l ≤ 6) := by simp at hc; omega
   refine gS (gR ?_)
   iterate 2 refine gAs ?_
   refine gE ?_
   refine GoH.ret Tryd.f18 Tryd.func18 rfl (fun w' hS => ?_)
   exact ⟨hS.ext, by rw [axR, if_pos (.inl h1), axE, if_pos h1]; rfl⟩
  ·
   have h1 : 0 ≤ l ∧ l ≤ 6 := by simp at hc; omega
   refine gK (gS (gS (gR ?_)))
   refine gMv ?_
   refine GoH.callP rfl rfl rfl rfl rfl (fun _ _ => Tryd.call43 _ _) (fun w _ hS => (by exact formed_c a ca f w (ha.ex0 hS.ext) hl)) ?_
   refine gAs ?_
   refine gE (gS (gR ?_))
   refine gMv ?_
   refine gBi bNe ?_
   refine gE ?_
   refine GoH.cond rfl (fun hc => ?_) (fun hc => ?_)
   ·
    have h2 : formE f ≠ 0 := by simpa using hc
    refine gS (gR ?_)
    refine gMv ?_
    iterate 2 refine gAs ?_
    refine gE ?_
    refine GoH.ret Tryd.f18 Tryd.func18 rfl (fun w' hS => ?_)
    exact ⟨hS.ext, by rw [axR, if_pos (.inr h2), axE, if_neg (by omega)]; rfl⟩
   ·
    have h2 : formE f = 0 := by simpa using hc
    have hck := formE_chk h2
    obtain ⟨t, ht⟩ : ∃ t, t = topT f := ⟨_, rfl⟩
    have hR : axR l f = ruleF l t 9 := by rw [axR, if_neg (by rintro (h | h); · exact h h1
                                                              · exact h h2), ht]
    have hE : axE l f = 0 := by rw [axE, if_neg (by omega), h2]
    have hcc : Cf (compF f) t := by
      rw [compF_eq hck, ← ht]
      exact Cf.of (by rw [ht]; exact (chkF_zero.1 hck).top) (by have := lf_fit hck; rw [← ht] at this; exact this)
    refine gK (gS (gR ?_))
    refine gMv ?_
    refine GoH.callM _ rfl rfl rfl rfl rfl (fun _ _ => Tryd.call44 _ _) (fun w _ hS => (by exact fcompact_c a ca f w (ha.ex0 hS.ext) hl)) ?_
    rintro v w1 w2 Y' hS he ho
    rw [subF_top] at ho
    obtain ⟨qc, cc, spc, rfl, hqc, hcapc, hS'⟩ := gainN hS he ho
    refine ⟨_, hS', ?_⟩
    refine gAs ?_
    refine gE (gS (gS (gR ?_)))
    refine gAs ?_
    refine gE (gB ?_)
    refine GoH.loop (σ := Nat) (fun k => [(0, .int .i64 l), (7, osv qc (compF f).length cc), (8, .int .i64 ((k : Int) + 1))]) (fun _ => [(qc, obN 80 (compF f) spc)])
      (fun k => k ≤ 9 ∧ ruleF l t k = 0) (fun k => 9 - k) 0 ⟨Nat.zero_le _, rfl⟩ ⟨rfl, rfl, rfl, trivial⟩ (List.Sublist.refl _) (fun k hI IH => ?_)
    obtain ⟨hk, h0⟩ := hI
    refine gS (gS (gR ?_))
    refine gMv ?_
    refine gBi bLe ?_
    refine gE ?_
    refine GoH.cond rfl (fun hc => ?_) (fun hc => ?_)
    ·
     have hk9 : k < 9 := by simp at hc; omega
     refine gK (gS (gB (gS (gR ?_))))
     iterate 2 refine gMv ?_
     refine GoH.callP rfl rfl rfl rfl rfl (fun _ _ => Tryd.call45 _ _) (fun w _ hS => (by exact hhas_c l ((k : Int) + 1) w h1)) ?_
     refine gMv ?_
     refine GoH.cases (d := 26) rfl (fun hc => ?_) (fun hc => ?_)
     ·
      have hh : hasL49 l ((k : Int) + 1) = true := hc
      refine gMv ?_
      refine GoH.v (Vop.idxA rfl rfl rfl rfl rfl Tryd.underlying69 Tryd.sizeOf49 (k + 1) (by omega) (by omega)) ?_
      refine GoH.v (Vop.ld rfl rfl rfl rfl Tryd.isAgg49 (fun w _ hS => (by rw [Nat.zero_add, (hT.ex hS.ext).cell _ (by omega) (by omega)]))) ?_
      refine gMv ?_
      refine GoH.callM (gf := axFn ((k + 1 : Nat) : Int)) (fun _ v _ => ∃ b, v = .bool b ∧ (b = true ↔ InstT ((k + 1 : Nat) : Int) t)) rfl rfl rfl rfl rfl (axEnter (by omega) (by omega)) (fun w _ hS => axInst_c ((k + 1 : Nat) : Int) (qc.map (fun b => ⟨b, 0, none⟩)) cc (compF f) t w (by omega) (by omega) (faAt hS 0 rfl (fun e => (hqc e).1)) hcc) ?_
      rintro v w1 w2 Y' hS he ⟨b, rfl, hb⟩
      refine ⟨_, hS.later he, ?_⟩
      refine gPt ?_
      refine gE ?_
      refine GoH.cond rfl (fun hc => ?_) (fun hc => ?_)
      ·
       have hbt : InstT ((k : Int) + 1) t := hb.1 hc
       refine gS (gR ?_)
       refine gMv ?_
       iterate 2 refine gAs ?_
       refine gE ?_
       refine GoH.ret Tryd.f18 Tryd.func18 rfl (fun w' hS => ?_)
       exact ⟨hS.ext, by rw [hR, hE, ruleF_at hk9 h0 ⟨hh, hbt⟩]; rfl⟩
      ·
       have hbf : ¬ InstT ((k : Int) + 1) t := fun h => by
         have h3 : b = true := hb.2 h
         have h4 : b = false := hc
         rw [h3] at h4; cases h4
       refine gK (gIb (gR ?_))
       refine gMv ?_
       refine GoH.v (Vop.bin rfl rfl rfl rfl (bAdd (by omega)) rfl) ?_
       refine gAs ?_
       refine gE ?_
       exact IH (k + 1) _ _ ⟨hk9, (ruleF_step h0).2 (fun h => hbf h.2)⟩ (by omega) ⟨rfl, rfl, rfl, trivial⟩ (List.Sublist.refl _)
     ·
      have hh : ¬ hasL49 l ((k : Int) + 1) = true := by rw [show hasL49 l ((k : Int) + 1) = false from hc]; simp
      iterate 5 refine gNo ?_
      refine gPf ?_
      refine gE (GoH.condF rfl (gK (gIb (gR ?_))))
      refine gMv ?_
      refine GoH.v (Vop.bin rfl rfl rfl rfl (bAdd (by omega)) rfl) ?_
      refine gAs ?_
      refine gE ?_
      exact IH (k + 1) _ _ ⟨hk9, (ruleF_step h0).2 (fun h => hh h.1)⟩ (by omega) ⟨rfl, rfl, rfl, trivial⟩ (List.Sublist.refl _)
    ·
     have hge : ¬ k < 9 := by simp at hc; omega
     obtain rfl : k = 9 := by omega
     refine GoH.exit rfl (gS (gR ?_))
     iterate 2 refine gAs ?_
     refine gE ?_
     refine GoH.ret Tryd.f18 Tryd.func18 rfl (fun w' hS => ?_)
     exact ⟨hS.ext, by rw [hR, hE, h0]; rfl⟩
end Go.Proofs.YtlihcmknfdckdaaDoor
namespace Go.Proofs.YtlihcmknfdckdaaDoor
open Go.RowKit Go.Proofs.Wit
/-! checking proofs: the reference, 2 -/
set_option maxRecDepth 8000 in
theorem gcheck_c (l : Int) (A : Option Addr) (cA : Nat) (ls : List LV) (w : World) (hA : LA w A ls) :
    Cn Tryd.prog 15 [.int .i64 l, .slice A ls.length cA] w (fun v _ => v = .int .i64 (checkH l ls)) := by
  refine Cn.of Tryd.func15 rfl rfl ?_
  refine gS (gR ?_)
  refine gAs ?_
  refine gE (gS (gS (gR ?_)))
  refine gMv ?_
  refine gBi bLt ?_
  refine gMv ?_
  refine GoH.cases (d := 9) rfl (fun hc => ?_) (fun hc => ?_)
  ·
   have h1 : l < 0 := by simpa using hc
   iterate 2 refine gNo ?_
   refine gPt ?_
   refine gE (GoH.condT rfl (gS (gR ?_)))
   refine gAs ?_
   refine gE ?_
   refine GoH.ret Tryd.f15 Tryd.func15 rfl (fun w' hS => ?_)
   exact ⟨hS.ext, by rw [checkH, if_pos (by omega)]; rfl⟩
  ·
   have h1 : ¬ l < 0 := by simpa using hc
   refine gMv ?_
   refine gBi bGt ?_
   refine gPf ?_
   refine gE ?_
   refine GoH.cond rfl (fun hc => ?_) (fun hc => ?_)
   ·
    have h1 : 6 < l := by simpa using hc
    refine gS (gR ?_)
    refine gAs ?_
    refine gE ?_
    refine GoH.ret Tryd.f15 Tryd.func15 rfl (fun w' hS => ?_)
    exact ⟨hS.ext, by rw [checkH, if_pos (by omega)]; rfl⟩
   ·
    have h1' : ¬ 6 < l := by simpa using hc
    have h16 : 0 ≤ l ∧ l ≤ 6 := by omega
    refine gK (gS (gS (gR ?_)))
    refine gMv ?_
    refine gBl Tryd.underlying22 ?_
    refine gBi bEq ?_
    refine gE ?_
    refine GoH.cond rfl (fun hc => ?_) (fun hc => ?_)
    ·
     have h2 : ls.length = 0 := by simpa using hc
     refine gS (gR ?_)
     refine gAs ?_
     refine gE ?_
     refine GoH.ret Tryd.f15 Tryd.func15 rfl (fun w' hS => ?_)
     exact ⟨hS.ext, by rw [checkH, if_neg (by omega), if_pos h2]; rfl⟩
    ·
     have h2 : ¬ ls.length = 0 := by simpa using hc
     refine gK (gS (gS (gR ?_)))
     refine gMv ?_
     refine gBl Tryd.underlying22 ?_
     refine gBi bGt ?_
     refine gE ?_
     refine GoH.cond rfl (fun hc => ?_) (fun hc => ?_)
     ·
      have h3 : 400 < ls.length := by simp at hc; omega
      refine gS (gR ?_)
      refine gAs ?_
      refine gE ?_
      refine GoH.ret Tryd.f15 Tryd.func15 rfl (fun w' hS => ?_)
      exact ⟨hS.ext, by rw [checkH, if_neg (by omega), if_neg h2, if_pos h3]; rfl⟩
     ·
      have h3 : ¬ 400 < ls.length := by simp at hc; omega
      have hE : checkH l ls = linesE l ls ls.length := by rw [checkH, if_neg (by omega), if_neg h2, if_neg h3]
      refine gK (gS (gS (gR ?_)))
      refine gMv ?_
      refine gBl Tryd.underlying22 ?_
      refine gMv ?_
      refine gE (gB ?_)
      refine GoH.loop (σ := Nat) (fun k => [(0, .int .i64 l), (1, .slice A ls.length cA), (20, .int .i64 ls.length), (21, .int .i64 k)]) (fun _ => [])
        (fun k => k ≤ ls.length ∧ linesE l ls k = 0) (fun k => ls.length - k) 0 ⟨Nat.zero_le _, rfl⟩ ⟨rfl, rfl, rfl, rfl, trivial⟩ (List.nil_sublist _) (fun k hI IH => ?_)
      obtain ⟨hk, h0⟩ := hI
      refine gS (gR ?_)
      refine gBi bLt ?_
      refine gE (gS ?_)
      refine GoH.cond rfl (fun hc => ?_) (fun hc => ?_)
      ·
       have hlt : k < ls.length := by simpa using hc
       have hs := linesE_succ h0 hlt
       refine gK (gS (gB (gS (gR ?_))))
       refine gMv ?_
       refine gAs ?_
       refine gE (gS (gR ?_))
       iterate 3 refine gMv ?_
       refine GoH.callP rfl rfl rfl rfl rfl (fun _ _ => Tryd.call40 _ _) (fun w _ hS => (by exact gline_c l A cA ls k w (hA.ex0 hS.ext) h16 hlt (fun j hj hjk => formE_chk (lineE_form (linesE_chk h0 hk j hj hjk))))) ?_
       refine gAs ?_
       refine gE (gS (gR ?_))
       refine gMv ?_
       refine gBi bNe ?_
       refine gE ?_
       refine GoH.cond rfl (fun hc => ?_) (fun hc => ?_)
       ·
        have h4 : lineE l ls k ls[k] ≠ 0 := by simpa using hc
        refine gS (gR ?_)
        refine gMv ?_
        refine gAs ?_
        refine gE ?_
        refine GoH.ret Tryd.f15 Tryd.func15 rfl (fun w' hS => ?_)
        exact ⟨hS.ext, by rw [hE]; have := linesE_bad (l := l) (ls := ls) (k := k + 1) (by rw [hs]; exact h4) (ls.length - (k + 1)); rw [show k + 1 + (ls.length - (k + 1)) = ls.length by omega, hs] at this; rw [this]; rfl⟩
       ·
        have h4 : lineE l ls k ls[k] = 0 := by simpa using hc
        refine gK (gIb (gR ?_))
        refine GoH.v (Vop.bin rfl rfl rfl rfl (bAdd (by omega)) rfl) ?_
        refine gMv ?_
        refine gE ?_
        exact IH (k + 1) _ _ ⟨hlt, by rw [hs]; exact h4⟩ (by omega) ⟨rfl, rfl, rfl, rfl, trivial⟩ (List.nil_sublist _)
      ·
       have hge : ¬ k < ls.length := by simpa using hc
       obtain rfl : k = ls.length := by omega
       refine GoH.exit rfl (gS (gR ?_))
       refine gAs ?_
       refine gE ?_
       refine GoH.ret Tryd.f15 Tryd.func15 rfl (fun w' hS => ?_)
       exact ⟨hS.ext, by rw [hE, h0]; rfl⟩
set_option maxRecDepth 8000 in
theorem gproves_c (l : Int) (A : Option Addr) (cA : Nat) (ls : List LV) (a : Option Addr) (ca : Nat) (f : List NV) (w : World) (hA : LA w A ls) (ha : FA w a f) (hl : f.length ≤ maxLen) :
    Cn Tryd.prog 17 [.int .i64 l, .slice A ls.length cA, .slice a f.length ca] w (fun v _ => v = .bool (decide (checkH l ls = 0) && sameB ((ls.map (fun x => x.f.f)).getD (ls.length - 1) []) f)) := by
  refine Cn.of Tryd.func17 rfl rfl ?_
  refine gS (gR ?_)
  refine gAs ?_
  refine gE (gS (gR ?_))
  iterate 2 refine gMv ?_
  refine GoH.callP rfl rfl rfl rfl rfl (fun _ _ => Tryd.call15 _ _) (fun w _ hS => (by exact gcheck_c l A cA ls w (hA.ex0 hS.ext))) ?_
  refine gBi bEq ?_
  refine gMv ?_
  refine GoH.cases (d := 11) rfl (fun hc => ?_) (fun hc => ?_)
  ·
   have h0 : checkH l ls = 0 := by simpa using hc
   obtain ⟨hp, hp4⟩ := checkH_len h0
   have hlt : ls.length - 1 < ls.length := by omega
   obtain ⟨hfa, hla⟩ := hA.fs ls[ls.length - 1] (List.getElem_mem hlt)
   have hg : (ls.map (fun x => x.f.f)).getD (ls.length - 1) [] = ls[ls.length - 1].f.f := by simp [List.getD_eq_getElem?_getD, hlt]
   iterate 2 refine gMv ?_
   refine gBl Tryd.underlying22 ?_
   refine GoH.v (Vop.bin rfl rfl rfl rfl (bSubE (c := ((ls.length - 1 : Nat) : Int)) (by omega) (by omega)) rfl) ?_
   refine GoH.v (Vop.idxN rfl rfl rfl rfl rfl Tryd.underlying22 Tryd.sizeOf40 ⟨_, (hA).at_⟩ (flat_len (enc := LV.cells) (sz := 5) (fun _ => rfl)) (by decide) ((ls.length - 1)) ⟨rfl, hlt⟩) ?_
   refine GoH.v (Vop.fldA rfl rfl rfl rfl Tryd.underlying40 rfl Tryd.sizeOf23 (((ls.length - 1)) * 5 + 0) rfl) ?_
   refine GoH.v (Vop.ld rfl rfl rfl rfl Tryd.isAgg23 (fun w _ hS => Sl.fld (enc := LV.cells) (sz := 5) ((hA).ex0 hS.ext).at_ (fun _ => rfl) hlt rfl)) ?_
   refine gMv ?_
   refine GoH.callP rfl rfl rfl rfl rfl (fun _ _ => Tryd.call42 _ _) (fun w _ hS => (by exact gsameF_c ls[ls.length - 1].f.a ls[ls.length - 1].f.c ls[ls.length - 1].f.f a ca f w (hfa.ex0 hS.ext) (ha.ex0 hS.ext) hla hl)) ?_
   refine gPt ?_
   refine gAs ?_
   refine gE ?_
   refine GoH.ret Tryd.f17 Tryd.func17 rfl (fun w' hS => ?_)
   exact ⟨hS.ext, by rw [h0, hg]; rfl⟩
  ·
   have h0 : ¬ checkH l ls = 0 := by simpa using hc
   iterate 9 refine gNo ?_
   refine gPf ?_
   refine gAs ?_
   refine gE ?_
   refine GoH.ret Tryd.f17 Tryd.func17 rfl (fun w' hS => ?_)
   exact ⟨hS.ext, by rw [decide_eq_false h0]; rfl⟩
set_option maxRecDepth 8000 in
theorem gaxiom_c (l : Int) (a : Option Addr) (ca : Nat) (f : List NV) (w : World) (ha : FA w a f) (hl : f.length ≤ maxLen) :
    Cn Tryd.prog 19 [.int .i64 l, .slice a f.length ca] w (fun v _ => v = .tuple #[.int .i64 (axR l f), .int .i64 (axE l f)]) := by
  refine Cn.of Tryd.func19 rfl rfl ?_
  refine gS (gR ?_)
  iterate 2 refine gAs ?_
  refine gE (gS (gS (gR ?_)))
  refine gMv ?_
  refine gBi bLt ?_
  refine gMv ?_
  refine GoH.cases (d := 10) rfl (fun hc => ?_) (fun hc => ?_)
  ·
   have h1 : ¬ (0 ≤ l ∧ l ≤ 6) := by simp at hc; omega
   iterate 2 refine gNo ?_
   refine gPt ?_
   refine gE (GoH.condT rfl (gS (gR ?_)))
   iterate 2 refine gAs ?_
   refine gE ?_
   refine GoH.ret Tryd.f19 Tryd.func19 rfl (fun w' hS => ?_)
   exact ⟨hS.ext, by rw [axR, if_pos (.inl h1), axE, if_pos h1]; rfl⟩
  ·
   have h1 : ¬ l < 0 := by simpa using hc
   refine gMv ?_
   refine gBi bGt ?_
   refine gPf ?_
   refine gE ?_
   refine GoH.cond rfl (fun hc => ?_) (fun hc => ?_)
   ·
    have h1 : ¬ (0 ≤ l ∧ l ≤ 6) := by simp at hc; omega
    refine gS (gR ?_)
    iterate 2 refine gAs ?_
    refine gE ?_
    refine GoH.ret Tryd.f19 Tryd.func19 rfl (fun w' hS => ?_)
    exact ⟨hS.ext, by rw [axR, if_pos (.inl h1), axE, if_pos h1]; rfl⟩
   ·
    have h16 : 0 ≤ l ∧ l ≤ 6 := by simp at hc; omega
    refine gK (gS (gS (gR ?_)))
    refine gMv ?_
    refine GoH.callP rfl rfl rfl rfl rfl (fun _ _ => Tryd.call25 _ _) (fun w _ hS => (by exact rchk_c a ca f w (ha.ex0 hS.ext) hl)) ?_
    refine gAs ?_
    refine gE (gS (gR ?_))
    refine gMv ?_
    refine gBi bNe ?_
    refine gE ?_
    refine GoH.cond rfl (fun hc => ?_) (fun hc => ?_)
    ·
     have h2 : chkF f ≠ 0 := by simpa using hc
     have h2' : formE f = chkF f := by rw [formE, if_pos h2]
     refine gS (gR ?_)
     refine gMv ?_
     iterate 2 refine gAs ?_
     refine gE ?_
     refine GoH.ret Tryd.f19 Tryd.func19 rfl (fun w' hS => ?_)
     exact ⟨hS.ext, by rw [axR, if_pos (.inr (by rw [h2']; exact h2)), axE, if_neg (by omega), h2']; rfl⟩
    ·
     have hck : chkF f = 0 := by simpa using hc
     refine gK (gS (gS (gR ?_)))
     refine gMv ?_
     refine GoH.callP rfl rfl rfl rfl rfl (fun _ _ => Tryd.call26 _ _) (fun w _ hS => (by exact glang2_c a ca f w (ha.ex0 hS.ext) hl)) ?_
     refine gUn uNot ?_
     refine gE ?_
     refine GoH.cond rfl (fun hc => ?_) (fun hc => ?_)
     ·
      have h2 : ¬ andN (frgL (compF f)) 11 = 0 := by simpa using hc
      have h2' : formE f = 10 := by rw [formE, if_neg (by simp [hck]), if_pos h2]
      refine gS (gR ?_)
      iterate 2 refine gAs ?_
      refine gE ?_
      refine GoH.ret Tryd.f19 Tryd.func19 rfl (fun w' hS => ?_)
      exact ⟨hS.ext, by rw [axR, if_pos (.inr (by rw [h2']; decide)), axE, if_neg (by omega), h2']; rfl⟩
     ·
      have h2 : andN (frgL (compF f)) 11 = 0 := by simpa using hc
      have h2' : formE f = 0 := by rw [formE, if_neg (by simp [hck]), if_neg (by simp [h2])]
      have hR : axR l f = ruleF l (topT f) 9 := by rw [axR, if_neg (by rintro (h | h); · exact h h16
                                                                       · exact h h2')]
      have hE : axE l f = 0 := by rw [axE, if_neg (by omega), h2']
      refine gK (gS (gS (gR ?_)))
      refine gAs ?_
      refine gE (gB ?_)
      refine GoH.loop (σ := Nat) (fun k => [(0, .int .i64 l), (1, .slice a f.length ca), (7, .int .i64 ((k : Int) + 1))]) (fun _ => [])
        (fun k => k ≤ 9 ∧ ruleF l (topT f) k = 0) (fun k => 9 - k) 0 ⟨Nat.zero_le _, rfl⟩ ⟨rfl, rfl, rfl, trivial⟩ (List.nil_sublist _) (fun k hI IH => ?_)
      obtain ⟨hk, h0⟩ := hI
      refine gS (gS (gR ?_))
      refine gMv ?_
      refine gBi bLe ?_
      refine gE ?_
      refine GoH.cond rfl (fun hc => ?_) (fun hc => ?_)
      ·
       have hk9 : k < 9 := by simp at hc; omega
       refine gK (gS (gB (gS (gR ?_))))
       iterate 2 refine gMv ?_
       refine GoH.callP rfl rfl rfl rfl rfl (fun _ _ => Tryd.call46 _ _) (fun w _ hS => (by exact ghas_c l ((k : Int) + 1) w h16)) ?_
       refine gMv ?_
       refine GoH.cases (d := 29) rfl (fun hc => ?_) (fun hc => ?_)
       ·
        have hh : hasL49 l ((k : Int) + 1) = true := hc
        iterate 2 refine gMv ?_
        refine GoH.callM _ rfl rfl rfl rfl rfl (fun _ _ => Tryd.call47 _ _) (fun w _ hS => (by exact ginst_c ((k : Int) + 1) a ca f w (by omega) (by omega) (ha.ex0 hS.ext) hl hck)) ?_
        rintro v w1 w2 Y' hS he ⟨b, rfl, hb⟩
        refine ⟨_, hS.later he, ?_⟩
        refine gPt ?_
        refine gE ?_
        refine GoH.cond rfl (fun hc => ?_) (fun hc => ?_)
        ·
         have hbt : InstT ((k : Int) + 1) (topT f) := hb.1 hc
         refine gS (gR ?_)
         refine gMv ?_
         iterate 2 refine gAs ?_
         refine gE ?_
         refine GoH.ret Tryd.f19 Tryd.func19 rfl (fun w' hS => ?_)
         exact ⟨hS.ext, by rw [hR, hE, ruleF_at hk9 h0 ⟨hh, hbt⟩]; rfl⟩
        ·
         have hbf : ¬ InstT ((k : Int) + 1) (topT f) := fun h => by
           have h3 : b = true := hb.2 h
           have h4 : b = false := hc
           rw [h3] at h4; cases h4
         refine gK (gIb (gR ?_))
         refine gMv ?_
         refine GoH.v (Vop.bin rfl rfl rfl rfl (bAdd (by omega)) rfl) ?_
         refine gAs ?_
         refine gE ?_
         exact IH (k + 1) _ _ ⟨hk9, (ruleF_step h0).2 (fun h => hbf h.2)⟩ (by omega) ⟨rfl, rfl, rfl, trivial⟩ (List.nil_sublist _)
       ·
        have hh : ¬ hasL49 l ((k : Int) + 1) = true := by rw [show hasL49 l ((k : Int) + 1) = false from hc]; simp
        iterate 3 refine gNo ?_
        refine gPf ?_
        refine gE (GoH.condF rfl (gK (gIb (gR ?_))))
        refine gMv ?_
        refine GoH.v (Vop.bin rfl rfl rfl rfl (bAdd (by omega)) rfl) ?_
        refine gAs ?_
        refine gE ?_
        exact IH (k + 1) _ _ ⟨hk9, (ruleF_step h0).2 (fun h => hh h.1)⟩ (by omega) ⟨rfl, rfl, rfl, trivial⟩ (List.nil_sublist _)
      ·
       have hge : ¬ k < 9 := by simp at hc; omega
       obtain rfl : k = 9 := by omega
       refine GoH.exit rfl (gS (gR ?_))
       iterate 2 refine gAs ?_
       refine gE ?_
       refine GoH.ret Tryd.f19 Tryd.func19 rfl (fun w' hS => ?_)
       exact ⟨hS.ext, by rw [hR, hE, h0]; rfl⟩
end Go.Proofs.YtlihcmknfdckdaaDoor
