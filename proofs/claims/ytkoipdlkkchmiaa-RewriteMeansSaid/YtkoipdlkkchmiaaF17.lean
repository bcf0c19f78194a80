/- What calls of the program return, under the conditions that each theorem states. -/
import Derived.Test.YtkoipdlkkchmiaaF15
import Derived.Test.YtkoipdlkkchmiaaF16
import Derived.Test.YtkoipdlkkchmiaaF03
namespace Go.Proofs.Ytkoipdlkkchmiaa
open Go.RowKit Go.Proofs.Wit
theorem usX_iff {op : Int} (h : 1 ≤ op ∧ op ≤ 21) : usX op = decide (4 ≤ op) := by
  rcases usX_cases h with rfl | rfl | rfl | rfl | rfl | rfl | rfl | rfl | rfl | rfl | rfl | rfl | rfl | rfl | rfl | rfl | rfl | rfl | rfl | rfl | rfl <;> rfl
theorem binary_c (op : Int) (w : World) (h : 1 ≤ op ∧ op ≤ 21) : Cn Try.prog 80 [.int .i64 op] w (fun v _ => v = .bool (usY op)) := by
  refine Cn.of Try.func80 rfl rfl ?_
  refine gS (gR ?_)
  refine gAs ?_
  refine gE (gS (gS (gR ?_)))
  refine gMv ?_
  refine gE (gB (gS (gS (gR ?_))))
  refine gBi bEq ?_
  refine gAs ?_
  refine gE ?_
  refine GoH.cond rfl (fun hc => ?_) (fun hc => ?_)
  ·
   have h0 : op = 5 := by simpa using hc
   refine gK ?_
   refine GoH.cond rfl (fun hc => ?_) (fun hc => ?_)
   ·
    refine gS (gR ?_)
    refine gAs ?_
    refine gE ?_
    refine GoH.ret Try.f80 Try.func80 rfl (fun w' hS => ?_)
    exact ⟨hS.ext, by rw [h0]; rfl⟩
   ·
    exact absurd hc (by rw [h0]; decide)
  ·
   have h0 : ¬ op = 5 := by simpa using hc
   refine gS (gR ?_)
   refine gBi bEq ?_
   refine gAs ?_
   refine gE ?_
   refine GoH.cond rfl (fun hc => ?_) (fun hc => ?_)
   ·
    have h1 : op = 6 := by simpa using hc
    refine gK ?_
    refine GoH.cond rfl (fun hc => ?_) (fun hc => ?_)
    ·
     refine gS (gR ?_)
     refine gAs ?_
     refine gE ?_
     refine GoH.ret Try.f80 Try.func80 rfl (fun w' hS => ?_)
     exact ⟨hS.ext, by rw [h1]; rfl⟩
    ·
     exact absurd hc (by rw [h1]; decide)
   ·
    have h1 : ¬ op = 6 := by simpa using hc
    refine gS (gR ?_)
    refine gBi bEq ?_
    refine gAs ?_
    refine gE ?_
    refine GoH.cond rfl (fun hc => ?_) (fun hc => ?_)
    ·
     have h2 : op = 7 := by simpa using hc
     refine gK ?_
     refine GoH.cond rfl (fun hc => ?_) (fun hc => ?_)
     ·
      refine gS (gR ?_)
      refine gAs ?_
      refine gE ?_
      refine GoH.ret Try.f80 Try.func80 rfl (fun w' hS => ?_)
      exact ⟨hS.ext, by rw [h2]; rfl⟩
     ·
      exact absurd hc (by rw [h2]; decide)
    ·
     have h2 : ¬ op = 7 := by simpa using hc
     refine gS (gR ?_)
     refine gBi bEq ?_
     refine gAs ?_
     refine gE ?_
     refine GoH.cond rfl (fun hc => ?_) (fun hc => ?_)
     ·
      have h3 : op = 8 := by simpa using hc
      refine gK ?_
      refine GoH.cond rfl (fun hc => ?_) (fun hc => ?_)
      ·
       refine gS (gR ?_)
       refine gAs ?_
       refine gE ?_
       refine GoH.ret Try.f80 Try.func80 rfl (fun w' hS => ?_)
       exact ⟨hS.ext, by rw [h3]; rfl⟩
      ·
       exact absurd hc (by rw [h3]; decide)
     ·
      have h3 : ¬ op = 8 := by simpa using hc
      refine gS (gR ?_)
      refine gBi bEq ?_
      refine gAs ?_
      refine gE ?_
      refine GoH.cond rfl (fun hc => ?_) (fun hc => ?_)
      ·
       have h4 : op = 13 := by simpa using hc
       refine gK ?_
       refine GoH.cond rfl (fun hc => ?_) (fun hc => ?_)
       ·
        refine gS (gR ?_)
        refine gAs ?_
        refine gE ?_
        refine GoH.ret Try.f80 Try.func80 rfl (fun w' hS => ?_)
        exact ⟨hS.ext, by rw [h4]; rfl⟩
       ·
        exact absurd hc (by rw [h4]; decide)
      ·
       have h4 : ¬ op = 13 := by simpa using hc
       refine gS (gR ?_)
       refine gBi bEq ?_
       refine gAs ?_
       refine gE ?_
       refine GoH.cond rfl (fun hc => ?_) (fun hc => ?_)
       ·
        have h5 : op = 14 := by simpa using hc
        refine gK ?_
        refine GoH.cond rfl (fun hc => ?_) (fun hc => ?_)
        ·
         refine gS (gR ?_)
         refine gAs ?_
         refine gE ?_
         refine GoH.ret Try.f80 Try.func80 rfl (fun w' hS => ?_)
         exact ⟨hS.ext, by rw [h5]; rfl⟩
        ·
         exact absurd hc (by rw [h5]; decide)
       ·
        have h5 : ¬ op = 14 := by simpa using hc
        refine gS (gR ?_)
        refine gBi bEq ?_
        refine gAs ?_
        refine gE ?_
        refine GoH.cond rfl (fun hc => ?_) (fun hc => ?_)
        ·
         have h6 : op = 16 := by simpa using hc
         refine gK ?_
         refine GoH.cond rfl (fun hc => ?_) (fun hc => ?_)
         ·
          refine gS (gR ?_)
          refine gAs ?_
          refine gE ?_
          refine GoH.ret Try.f80 Try.func80 rfl (fun w' hS => ?_)
          exact ⟨hS.ext, by rw [h6]; rfl⟩
         ·
          exact absurd hc (by rw [h6]; decide)
        ·
         have h6 : ¬ op = 16 := by simpa using hc
         refine gS (gR ?_)
         refine gBi bEq ?_
         refine gAs ?_
         refine gE ?_
         refine GoH.cond rfl (fun hc => ?_) (fun hc => ?_)
         ·
          have h7 : op = 19 := by simpa using hc
          refine gK ?_
          refine GoH.cond rfl (fun hc => ?_) (fun hc => ?_)
          ·
           refine gS (gR ?_)
           refine gAs ?_
           refine gE ?_
           refine GoH.ret Try.f80 Try.func80 rfl (fun w' hS => ?_)
           exact ⟨hS.ext, by rw [h7]; rfl⟩
          ·
           exact absurd hc (by rw [h7]; decide)
         ·
          have h7 : ¬ op = 19 := by simpa using hc
          refine gR ?_
          refine gBi bEq ?_
          refine gAs ?_
          refine gE ?_
          refine GoH.cond rfl (fun hc => ?_) (fun hc => ?_)
          ·
           have h8 : op = 21 := by simpa using hc
           refine gS (gR ?_)
           refine gAs ?_
           refine gE ?_
           refine GoH.ret Try.f80 Try.func80 rfl (fun w' hS => ?_)
           exact ⟨hS.ext, by rw [h8]; rfl⟩
          ·
           have h8 : ¬ op = 21 := by simpa using hc
           refine gK (gIb (gS (gR ?_)))
           refine gAs ?_
           refine gE ?_
           refine GoH.ret Try.f80 Try.func80 rfl (fun w' hS => ?_)
           have hn : usY op = false := by
             rcases usX_cases h with rfl | rfl | rfl | rfl | rfl | rfl | rfl | rfl | rfl | rfl | rfl | rfl | rfl | rfl | rfl | rfl | rfl | rfl | rfl | rfl | rfl <;> first | rfl | omega
           exact ⟨hS.ext, by rw [hn]; rfl⟩
set_option maxRecDepth 8000 in
theorem rbuild0_c (op i e g x y : Int) (a b : FV) (ta tb : Tr) (w : World) (hop : 1 ≤ op ∧ op ≤ 21) (hf : fldE op i e g = 0) (ha : Opd w (usX op) a ta) (hb : Opd w (usY op) b tb) : Cn Try.prog 51 [NV.v ⟨op, i, e, g, x, y⟩, a.v, b.v] w (fun v w' => OwnN 49 w w' v (bT (mkQ op i e g ta tb))) := by
  have hF := fldOk_of hf
  refine Cn.of Try.func51 rfl rfl ?_
  refine gS (gR ?_)
  refine GoH.bx rfl rfl rfl rfl (fun b3 => ?_)
  refine gAs ?_
  refine gE (gS (gS (gR ?_)))
  refine gFp Try.underlying49 Try.sizeOf3 0 ?_
  refine gLo Try.isAgg3 0 ?_
  refine gE (gB (gS (gR ?_)))
  refine gBi bEq ?_
  refine gAs ?_
  refine gE ?_
  refine GoH.cond rfl (fun hc => ?_) (fun hc => ?_)
  ·
   obtain rfl : op = 2 := by simpa using hc
   refine gS (gR ?_)
   refine GoH.callM _ rfl rfl rfl rfl rfl (fun _ _ => Try.call75 _ _) (fun w _ hS => (by exact false_c w)) ?_
   rintro v w1 w2 Y' hS he ho
   rw [show bldF ⟨2, 0, 0, 0, 0, 0⟩ [] = bT (mkQ 2 i e g ta tb) from bldQ0 hop rfl hf (hF.i0 rfl).symm (hF.e0 (by decide)).symm (hF.g0 rfl).symm] at ho
   obtain ⟨q, cap, sp, rfl, hq, hcap, hS'⟩ := gainN hS he ho
   refine ⟨_, hS', ?_⟩
   refine gAs ?_
   refine gE ?_
   refine GoH.ret Try.f51 Try.func51 rfl (fun w' hS => ?_)
   exact ⟨hS.ext, OwnN.mk hS 0 rfl rfl hq hcap⟩
  ·
   have h2 : ¬ op = 2 := by simpa using hc
   refine gS (gR ?_)
   refine gBi bEq ?_
   refine gAs ?_
   refine gE ?_
   refine GoH.cond rfl (fun hc => ?_) (fun hc => ?_)
   ·
    obtain rfl : op = 3 := by simpa using hc
    refine gS (gR ?_)
    refine gFp Try.underlying49 Try.sizeOf3 1 ?_
    refine gLo Try.isAgg3 0 ?_
    refine GoH.callM _ rfl rfl rfl rfl rfl (fun _ _ => Try.call18 _ _) (fun w _ hS => (by exact fact_c i w)) ?_
    rintro v w1 w2 Y' hS he ho
    rw [show bldF ⟨3, i, 0, 0, 0, 0⟩ [] = bT (mkQ 3 i e g ta tb) from bldQ0 hop rfl hf rfl (hF.e0 (by decide)).symm (hF.g0 rfl).symm] at ho
    obtain ⟨q, cap, sp, rfl, hq, hcap, hS'⟩ := gainN hS he ho
    refine ⟨_, hS', ?_⟩
    refine gAs ?_
    refine gE ?_
    refine GoH.ret Try.f51 Try.func51 rfl (fun w' hS => ?_)
    exact ⟨hS.ext, OwnN.mk hS 0 rfl rfl hq hcap⟩
   ·
    have h3 : ¬ op = 3 := by simpa using hc
    refine gS (gR ?_)
    refine gBi bEq ?_
    refine gAs ?_
    refine gE ?_
    refine GoH.cond rfl (fun hc => ?_) (fun hc => ?_)
    ·
     obtain rfl : op = 4 := by simpa using hc
     refine gS (gR ?_)
     refine gMv ?_
     refine GoH.callM _ rfl rfl rfl rfl rfl (fun _ _ => Try.call72 _ _) (fun w _ hS => (by exact not_c a.a a.c a.f w ((ha rfl).1.ex0 hS.ext) (ha.len rfl))) ?_
     rintro v w1 w2 Y' hS he ho
     rw [show bldF ⟨4, 0, 0, 0, 0, 0⟩ [a.f] = bT (mkQ 4 i e g ta tb) from bldQ1 hop rfl rfl hf (hF.i0 rfl).symm (hF.e0 (by decide)).symm (hF.g0 rfl).symm (ha rfl).2] at ho
     obtain ⟨q, cap, sp, rfl, hq, hcap, hS'⟩ := gainN hS he ho
     refine ⟨_, hS', ?_⟩
     refine gAs ?_
     refine gE ?_
     refine GoH.ret Try.f51 Try.func51 rfl (fun w' hS => ?_)
     exact ⟨hS.ext, OwnN.mk hS 0 rfl rfl hq hcap⟩
    ·
     have h4 : ¬ op = 4 := by simpa using hc
     refine gS (gR ?_)
     refine gBi bEq ?_
     refine gAs ?_
     refine gE ?_
     refine GoH.cond rfl (fun hc => ?_) (fun hc => ?_)
     ·
      obtain rfl : op = 5 := by simpa using hc
      refine gS (gR ?_)
      iterate 2 refine gMv ?_
      refine GoH.callM _ rfl rfl rfl rfl rfl (fun _ _ => Try.call73 _ _) (fun w _ hS => (by exact and_c a.a a.c a.f b.a b.c b.f w ((ha rfl).1.ex0 hS.ext) (ha.len rfl) ((hb rfl).1.ex0 hS.ext) (hb.len rfl))) ?_
      rintro v w1 w2 Y' hS he ho
      rw [show bldF ⟨5, 0, 0, 0, 0, 0⟩ [a.f, b.f] = bT (mkQ 5 i e g ta tb) from bldQ2 hop rfl hf (hF.i0 rfl).symm (hF.e0 (by decide)).symm (hF.g0 rfl).symm (ha rfl).2 (hb rfl).2] at ho
      obtain ⟨q, cap, sp, rfl, hq, hcap, hS'⟩ := gainN hS he ho
      refine ⟨_, hS', ?_⟩
      refine gAs ?_
      refine gE ?_
      refine GoH.ret Try.f51 Try.func51 rfl (fun w' hS => ?_)
      exact ⟨hS.ext, OwnN.mk hS 0 rfl rfl hq hcap⟩
     ·
      have h5 : ¬ op = 5 := by simpa using hc
      refine gS (gR ?_)
      refine gBi bEq ?_
      refine gAs ?_
      refine gE ?_
      refine GoH.cond rfl (fun hc => ?_) (fun hc => ?_)
      ·
       obtain rfl : op = 6 := by simpa using hc
       refine gS (gR ?_)
       iterate 2 refine gMv ?_
       refine GoH.callM _ rfl rfl rfl rfl rfl (fun _ _ => Try.call91 _ _) (fun w _ hS => (by exact or_c a.a a.c a.f b.a b.c b.f w ((ha rfl).1.ex0 hS.ext) (ha.len rfl) ((hb rfl).1.ex0 hS.ext) (hb.len rfl))) ?_
       rintro v w1 w2 Y' hS he ho
       rw [show bldF ⟨6, 0, 0, 0, 0, 0⟩ [a.f, b.f] = bT (mkQ 6 i e g ta tb) from bldQ2 hop rfl hf (hF.i0 rfl).symm (hF.e0 (by decide)).symm (hF.g0 rfl).symm (ha rfl).2 (hb rfl).2] at ho
       obtain ⟨q, cap, sp, rfl, hq, hcap, hS'⟩ := gainN hS he ho
       refine ⟨_, hS', ?_⟩
       refine gAs ?_
       refine gE ?_
       refine GoH.ret Try.f51 Try.func51 rfl (fun w' hS => ?_)
       exact ⟨hS.ext, OwnN.mk hS 0 rfl rfl hq hcap⟩
      ·
       have h6 : ¬ op = 6 := by simpa using hc
       refine gS (gR ?_)
       refine gBi bEq ?_
       refine gAs ?_
       refine gE ?_
       refine GoH.cond rfl (fun hc => ?_) (fun hc => ?_)
       ·
        obtain rfl : op = 7 := by simpa using hc
        refine gS (gR ?_)
        iterate 2 refine gMv ?_
        refine GoH.callM _ rfl rfl rfl rfl rfl (fun _ _ => Try.call92 _ _) (fun w _ hS => (by exact imp_c a.a a.c a.f b.a b.c b.f w ((ha rfl).1.ex0 hS.ext) (ha.len rfl) ((hb rfl).1.ex0 hS.ext) (hb.len rfl))) ?_
        rintro v w1 w2 Y' hS he ho
        rw [show bldF ⟨7, 0, 0, 0, 0, 0⟩ [a.f, b.f] = bT (mkQ 7 i e g ta tb) from bldQ2 hop rfl hf (hF.i0 rfl).symm (hF.e0 (by decide)).symm (hF.g0 rfl).symm (ha rfl).2 (hb rfl).2] at ho
        obtain ⟨q, cap, sp, rfl, hq, hcap, hS'⟩ := gainN hS he ho
        refine ⟨_, hS', ?_⟩
        refine gAs ?_
        refine gE ?_
        refine GoH.ret Try.f51 Try.func51 rfl (fun w' hS => ?_)
        exact ⟨hS.ext, OwnN.mk hS 0 rfl rfl hq hcap⟩
       ·
        have h7 : ¬ op = 7 := by simpa using hc
        refine gS (gR ?_)
        refine gBi bEq ?_
        refine gAs ?_
        refine gE ?_
        refine GoH.cond rfl (fun hc => ?_) (fun hc => ?_)
        ·
         obtain rfl : op = 8 := by simpa using hc
         refine gS (gR ?_)
         iterate 2 refine gMv ?_
         refine GoH.callM _ rfl rfl rfl rfl rfl (fun _ _ => Try.call93 _ _) (fun w _ hS => (by exact iff_c a.a a.c a.f b.a b.c b.f w ((ha rfl).1.ex0 hS.ext) (ha.len rfl) ((hb rfl).1.ex0 hS.ext) (hb.len rfl))) ?_
         rintro v w1 w2 Y' hS he ho
         rw [show bldF ⟨8, 0, 0, 0, 0, 0⟩ [a.f, b.f] = bT (mkQ 8 i e g ta tb) from bldQ2 hop rfl hf (hF.i0 rfl).symm (hF.e0 (by decide)).symm (hF.g0 rfl).symm (ha rfl).2 (hb rfl).2] at ho
         obtain ⟨q, cap, sp, rfl, hq, hcap, hS'⟩ := gainN hS he ho
         refine ⟨_, hS', ?_⟩
         refine gAs ?_
         refine gE ?_
         refine GoH.ret Try.f51 Try.func51 rfl (fun w' hS => ?_)
         exact ⟨hS.ext, OwnN.mk hS 0 rfl rfl hq hcap⟩
        ·
         have h8 : ¬ op = 8 := by simpa using hc
         refine gS (gR ?_)
         refine gBi bEq ?_
         refine gAs ?_
         refine gE ?_
         refine GoH.cond rfl (fun hc => ?_) (fun hc => ?_)
         ·
          obtain rfl : op = 9 := by simpa using hc
          refine gS (gR ?_)
          refine gFp Try.underlying49 Try.sizeOf3 1 ?_
          refine gLo Try.isAgg3 0 ?_
          refine gMv ?_
          refine GoH.callM _ rfl rfl rfl rfl rfl (fun _ _ => Try.call76 _ _) (fun w _ hS => (by exact know_c i a.a a.c a.f w ((ha rfl).1.ex0 hS.ext) (ha.len rfl))) ?_
          rintro v w1 w2 Y' hS he ho
          rw [show bldF ⟨9, i, 0, 0, 0, 0⟩ [a.f] = bT (mkQ 9 i e g ta tb) from bldQ1 hop rfl rfl hf rfl (hF.e0 (by decide)).symm (hF.g0 rfl).symm (ha rfl).2] at ho
          obtain ⟨q, cap, sp, rfl, hq, hcap, hS'⟩ := gainN hS he ho
          refine ⟨_, hS', ?_⟩
          refine gAs ?_
          refine gE ?_
          refine GoH.ret Try.f51 Try.func51 rfl (fun w' hS => ?_)
          exact ⟨hS.ext, OwnN.mk hS 0 rfl rfl hq hcap⟩
         ·
          have h9 : ¬ op = 9 := by simpa using hc
          refine gS (gR ?_)
          refine gBi bEq ?_
          refine gAs ?_
          refine gE ?_
          refine GoH.cond rfl (fun hc => ?_) (fun hc => ?_)
          ·
           obtain rfl : op = 10 := by simpa using hc
           refine gS (gR ?_)
           refine gFp Try.underlying49 Try.sizeOf3 1 ?_
           refine gLo Try.isAgg3 0 ?_
           refine gMv ?_
           refine GoH.callM _ rfl rfl rfl rfl rfl (fun _ _ => Try.call94 _ _) (fun w _ hS => (by exact poss_c i a.a a.c a.f w ((ha rfl).1.ex0 hS.ext) (ha.len rfl))) ?_
           rintro v w1 w2 Y' hS he ho
           rw [show bldF ⟨10, i, 0, 0, 0, 0⟩ [a.f] = bT (mkQ 10 i e g ta tb) from bldQ1 hop rfl rfl hf rfl (hF.e0 (by decide)).symm (hF.g0 rfl).symm (ha rfl).2] at ho
           obtain ⟨q, cap, sp, rfl, hq, hcap, hS'⟩ := gainN hS he ho
           refine ⟨_, hS', ?_⟩
           refine gAs ?_
           refine gE ?_
           refine GoH.ret Try.f51 Try.func51 rfl (fun w' hS => ?_)
           exact ⟨hS.ext, OwnN.mk hS 0 rfl rfl hq hcap⟩
          ·
           have h10 : ¬ op = 10 := by simpa using hc
           refine gS (gR ?_)
           refine gBi bEq ?_
           refine gAs ?_
           refine gE ?_
           refine GoH.cond rfl (fun hc => ?_) (fun hc => ?_)
           ·
            obtain rfl : op = 11 := by simpa using hc
            refine gS (gR ?_)
            refine gFp Try.underlying49 Try.sizeOf3 3 ?_
            refine gLo Try.isAgg3 0 ?_
            refine gMv ?_
            refine GoH.callM _ rfl rfl rfl rfl rfl (fun _ _ => Try.call95 _ _) (fun w _ hS => (by exact every_c g a.a a.c a.f w ((ha rfl).1.ex0 hS.ext) (ha.len rfl))) ?_
            rintro v w1 w2 Y' hS he ho
            rw [show bldF ⟨11, 0, 0, g, 0, 0⟩ [a.f] = bT (mkQ 11 i e g ta tb) from bldQ1 hop rfl rfl hf (hF.i0 rfl).symm (hF.e0 (by decide)).symm rfl (ha rfl).2] at ho
            obtain ⟨q, cap, sp, rfl, hq, hcap, hS'⟩ := gainN hS he ho
            refine ⟨_, hS', ?_⟩
            refine gAs ?_
            refine gE ?_
            refine GoH.ret Try.f51 Try.func51 rfl (fun w' hS => ?_)
            exact ⟨hS.ext, OwnN.mk hS 0 rfl rfl hq hcap⟩
           ·
            have h11 : ¬ op = 11 := by simpa using hc
            refine gS (gR ?_)
            refine gBi bEq ?_
            refine gAs ?_
            refine gE ?_
            refine GoH.cond rfl (fun hc => ?_) (fun hc => ?_)
            ·
             obtain rfl : op = 12 := by simpa using hc
             refine gS (gR ?_)
             refine gFp Try.underlying49 Try.sizeOf3 3 ?_
             refine gLo Try.isAgg3 0 ?_
             refine gMv ?_
             refine GoH.callM _ rfl rfl rfl rfl rfl (fun _ _ => Try.call96 _ _) (fun w _ hS => (by exact distr_c g a.a a.c a.f w ((ha rfl).1.ex0 hS.ext) (ha.len rfl))) ?_
             rintro v w1 w2 Y' hS he ho
             rw [show bldF ⟨12, 0, 0, g, 0, 0⟩ [a.f] = bT (mkQ 12 i e g ta tb) from bldQ1 hop rfl rfl hf (hF.i0 rfl).symm (hF.e0 (by decide)).symm rfl (ha rfl).2] at ho
             obtain ⟨q, cap, sp, rfl, hq, hcap, hS'⟩ := gainN hS he ho
             refine ⟨_, hS', ?_⟩
             refine gAs ?_
             refine gE ?_
             refine GoH.ret Try.f51 Try.func51 rfl (fun w' hS => ?_)
             exact ⟨hS.ext, OwnN.mk hS 0 rfl rfl hq hcap⟩
            ·
             have h12 : ¬ op = 12 := by simpa using hc
             refine gS (gR ?_)
             refine gBi bEq ?_
             refine gAs ?_
             refine gE ?_
             refine GoH.cond rfl (fun hc => ?_) (fun hc => ?_)
             ·
              obtain rfl : op = 13 := by simpa using hc
              refine gS (gR ?_)
              refine gFp Try.underlying49 Try.sizeOf3 3 ?_
              refine gLo Try.isAgg3 0 ?_
              iterate 2 refine gMv ?_
              refine GoH.callM _ rfl rfl rfl rfl rfl (fun _ _ => Try.call97 _ _) (fun w _ hS => (by exact commonF_c g a.a a.c a.f b.a b.c b.f w ((ha rfl).1.ex0 hS.ext) (ha.len rfl) ((hb rfl).1.ex0 hS.ext) (hb.len rfl))) ?_
              rintro v w1 w2 Y' hS he ho
              rw [show bldF ⟨13, 0, 0, g, 0, 0⟩ [a.f, b.f] = bT (mkQ 13 i e g ta tb) from bldQ2 hop rfl hf (hF.i0 rfl).symm (hF.e0 (by decide)).symm rfl (ha rfl).2 (hb rfl).2] at ho
              obtain ⟨q, cap, sp, rfl, hq, hcap, hS'⟩ := gainN hS he ho
              refine ⟨_, hS', ?_⟩
              refine gAs ?_
              refine gE ?_
              refine GoH.ret Try.f51 Try.func51 rfl (fun w' hS => ?_)
              exact ⟨hS.ext, OwnN.mk hS 0 rfl rfl hq hcap⟩
             ·
              have h13 : ¬ op = 13 := by simpa using hc
              refine gS (gR ?_)
              refine gBi bEq ?_
              refine gAs ?_
              refine gE ?_
              refine GoH.cond rfl (fun hc => ?_) (fun hc => ?_)
              ·
               obtain rfl : op = 14 := by simpa using hc
               refine gS (gR ?_)
               refine gFp Try.underlying49 Try.sizeOf3 1 ?_
               refine gLo Try.isAgg3 0 ?_
               iterate 2 refine gMv ?_
               refine GoH.callM _ rfl rfl rfl rfl rfl (fun _ _ => Try.call98 _ _) (fun w _ hS => (by exact belief_c i a.a a.c a.f b.a b.c b.f w ((ha rfl).1.ex0 hS.ext) (ha.len rfl) ((hb rfl).1.ex0 hS.ext) (hb.len rfl))) ?_
               rintro v w1 w2 Y' hS he ho
               rw [show bldF ⟨14, i, 0, 0, 0, 0⟩ [a.f, b.f] = bT (mkQ 14 i e g ta tb) from bldQ2 hop rfl hf rfl (hF.e0 (by decide)).symm (hF.g0 rfl).symm (ha rfl).2 (hb rfl).2] at ho
               obtain ⟨q, cap, sp, rfl, hq, hcap, hS'⟩ := gainN hS he ho
               refine ⟨_, hS', ?_⟩
               refine gAs ?_
               refine gE ?_
               refine GoH.ret Try.f51 Try.func51 rfl (fun w' hS => ?_)
               exact ⟨hS.ext, OwnN.mk hS 0 rfl rfl hq hcap⟩
              ·
               have h14 : ¬ op = 14 := by simpa using hc
               refine gS (gR ?_)
               refine gBi bEq ?_
               refine gAs ?_
               refine gE ?_
               refine GoH.cond rfl (fun hc => ?_) (fun hc => ?_)
               ·
                obtain rfl : op = 15 := by simpa using hc
                refine gS (gR ?_)
                refine gFp Try.underlying49 Try.sizeOf3 1 ?_
                refine gLo Try.isAgg3 0 ?_
                refine gMv ?_
                refine GoH.callM _ rfl rfl rfl rfl rfl (fun _ _ => Try.call99 _ _) (fun w _ hS => (by exact safe_c i a.a a.c a.f w ((ha rfl).1.ex0 hS.ext) (ha.len rfl))) ?_
                rintro v w1 w2 Y' hS he ho
                rw [show bldF ⟨15, i, 0, 0, 0, 0⟩ [a.f] = bT (mkQ 15 i e g ta tb) from bldQ1 hop rfl rfl hf rfl (hF.e0 (by decide)).symm (hF.g0 rfl).symm (ha rfl).2] at ho
                obtain ⟨q, cap, sp, rfl, hq, hcap, hS'⟩ := gainN hS he ho
                refine ⟨_, hS', ?_⟩
                refine gAs ?_
                refine gE ?_
                refine GoH.ret Try.f51 Try.func51 rfl (fun w' hS => ?_)
                exact ⟨hS.ext, OwnN.mk hS 0 rfl rfl hq hcap⟩
               ·
                have h15 : ¬ op = 15 := by simpa using hc
                refine gS (gR ?_)
                refine gBi bEq ?_
                refine gAs ?_
                refine gE ?_
                refine GoH.cond rfl (fun hc => ?_) (fun hc => ?_)
                ·
                 obtain rfl : op = 16 := by simpa using hc
                 refine gS (gR ?_)
                 iterate 2 refine gMv ?_
                 refine GoH.callM _ rfl rfl rfl rfl rfl (fun _ _ => Try.call100 _ _) (fun w _ hS => (by exact announce_c a.a a.c a.f b.a b.c b.f w ((ha rfl).1.ex0 hS.ext) (ha.len rfl) ((hb rfl).1.ex0 hS.ext) (hb.len rfl))) ?_
                 rintro v w1 w2 Y' hS he ho
                 rw [show bldF ⟨16, 0, 0, 0, 0, 0⟩ [a.f, b.f] = bT (mkQ 16 i e g ta tb) from bldQ2 hop rfl hf (hF.i0 rfl).symm (hF.e0 (by decide)).symm (hF.g0 rfl).symm (ha rfl).2 (hb rfl).2] at ho
                 obtain ⟨q, cap, sp, rfl, hq, hcap, hS'⟩ := gainN hS he ho
                 refine ⟨_, hS', ?_⟩
                 refine gAs ?_
                 refine gE ?_
                 refine GoH.ret Try.f51 Try.func51 rfl (fun w' hS => ?_)
                 exact ⟨hS.ext, OwnN.mk hS 0 rfl rfl hq hcap⟩
                ·
                 have h16 : ¬ op = 16 := by simpa using hc
                 refine gS (gR ?_)
                 refine gBi bEq ?_
                 refine gAs ?_
                 refine gE ?_
                 refine GoH.cond rfl (fun hc => ?_) (fun hc => ?_)
                 ·
                  obtain rfl : op = 17 := by simpa using hc
                  refine gS (gR ?_)
                  refine gFp Try.underlying49 Try.sizeOf3 1 ?_
                  refine gLo Try.isAgg3 0 ?_
                  refine gFp Try.underlying49 Try.sizeOf3 2 ?_
                  refine gLo Try.isAgg3 0 ?_
                  refine gMv ?_
                  refine GoH.callM _ rfl rfl rfl rfl rfl (fun _ _ => Try.call101 _ _) (fun w _ hS => (by exact act_c i e a.a a.c a.f w ((ha rfl).1.ex0 hS.ext) (ha.len rfl))) ?_
                  rintro v w1 w2 Y' hS he ho
                  rw [show bldF ⟨17, i, e, 0, 0, 0⟩ [a.f] = bT (mkQ 17 i e g ta tb) from bldQ1 hop rfl rfl hf rfl rfl (hF.g0 rfl).symm (ha rfl).2] at ho
                  obtain ⟨q, cap, sp, rfl, hq, hcap, hS'⟩ := gainN hS he ho
                  refine ⟨_, hS', ?_⟩
                  refine gAs ?_
                  refine gE ?_
                  refine GoH.ret Try.f51 Try.func51 rfl (fun w' hS => ?_)
                  exact ⟨hS.ext, OwnN.mk hS 0 rfl rfl hq hcap⟩
                 ·
                  have h17 : ¬ op = 17 := by simpa using hc
                  refine gS (gR ?_)
                  refine gBi bEq ?_
                  refine gAs ?_
                  refine gE ?_
                  refine GoH.cond rfl (fun hc => ?_) (fun hc => ?_)
                  ·
                   obtain rfl : op = 18 := by simpa using hc
                   refine gS (gR ?_)
                   refine gMv ?_
                   refine GoH.callM _ rfl rfl rfl rfl rfl (fun _ _ => Try.call102 _ _) (fun w _ hS => (by exact next_c a.a a.c a.f w ((ha rfl).1.ex0 hS.ext) (ha.len rfl))) ?_
                   rintro v w1 w2 Y' hS he ho
                   rw [show bldF ⟨18, 0, 0, 0, 0, 0⟩ [a.f] = bT (mkQ 18 i e g ta tb) from bldQ1 hop rfl rfl hf (hF.i0 rfl).symm (hF.e0 (by decide)).symm (hF.g0 rfl).symm (ha rfl).2] at ho
                   obtain ⟨q, cap, sp, rfl, hq, hcap, hS'⟩ := gainN hS he ho
                   refine ⟨_, hS', ?_⟩
                   refine gAs ?_
                   refine gE ?_
                   refine GoH.ret Try.f51 Try.func51 rfl (fun w' hS => ?_)
                   exact ⟨hS.ext, OwnN.mk hS 0 rfl rfl hq hcap⟩
                  ·
                   have h18 : ¬ op = 18 := by simpa using hc
                   refine gS (gR ?_)
                   refine gBi bEq ?_
                   refine gAs ?_
                   refine gE ?_
                   refine GoH.cond rfl (fun hc => ?_) (fun hc => ?_)
                   ·
                    obtain rfl : op = 19 := by simpa using hc
                    refine gS (gR ?_)
                    iterate 2 refine gMv ?_
                    refine GoH.callM _ rfl rfl rfl rfl rfl (fun _ _ => Try.call103 _ _) (fun w _ hS => (by exact until_c a.a a.c a.f b.a b.c b.f w ((ha rfl).1.ex0 hS.ext) (ha.len rfl) ((hb rfl).1.ex0 hS.ext) (hb.len rfl))) ?_
                    rintro v w1 w2 Y' hS he ho
                    rw [show bldF ⟨19, 0, 0, 0, 0, 0⟩ [a.f, b.f] = bT (mkQ 19 i e g ta tb) from bldQ2 hop rfl hf (hF.i0 rfl).symm (hF.e0 (by decide)).symm (hF.g0 rfl).symm (ha rfl).2 (hb rfl).2] at ho
                    obtain ⟨q, cap, sp, rfl, hq, hcap, hS'⟩ := gainN hS he ho
                    refine ⟨_, hS', ?_⟩
                    refine gAs ?_
                    refine gE ?_
                    refine GoH.ret Try.f51 Try.func51 rfl (fun w' hS => ?_)
                    exact ⟨hS.ext, OwnN.mk hS 0 rfl rfl hq hcap⟩
                   ·
                    have h19 : ¬ op = 19 := by simpa using hc
                    refine gS (gR ?_)
                    refine gBi bEq ?_
                    refine gAs ?_
                    refine gE ?_
                    refine GoH.cond rfl (fun hc => ?_) (fun hc => ?_)
                    ·
                     obtain rfl : op = 20 := by simpa using hc
                     refine gS (gR ?_)
                     refine gMv ?_
                     refine GoH.callM _ rfl rfl rfl rfl rfl (fun _ _ => Try.call104 _ _) (fun w _ hS => (by exact prev_c a.a a.c a.f w ((ha rfl).1.ex0 hS.ext) (ha.len rfl))) ?_
                     rintro v w1 w2 Y' hS he ho
                     rw [show bldF ⟨20, 0, 0, 0, 0, 0⟩ [a.f] = bT (mkQ 20 i e g ta tb) from bldQ1 hop rfl rfl hf (hF.i0 rfl).symm (hF.e0 (by decide)).symm (hF.g0 rfl).symm (ha rfl).2] at ho
                     obtain ⟨q, cap, sp, rfl, hq, hcap, hS'⟩ := gainN hS he ho
                     refine ⟨_, hS', ?_⟩
                     refine gAs ?_
                     refine gE ?_
                     refine GoH.ret Try.f51 Try.func51 rfl (fun w' hS => ?_)
                     exact ⟨hS.ext, OwnN.mk hS 0 rfl rfl hq hcap⟩
                    ·
                     have h20 : ¬ op = 20 := by simpa using hc
                     refine gS (gR ?_)
                     refine gBi bEq ?_
                     refine gAs ?_
                     refine gE ?_
                     refine GoH.cond rfl (fun hc => ?_) (fun hc => ?_)
                     ·
                      obtain rfl : op = 21 := by simpa using hc
                      refine gS (gR ?_)
                      iterate 2 refine gMv ?_
                      refine GoH.callM _ rfl rfl rfl rfl rfl (fun _ _ => Try.call105 _ _) (fun w _ hS => (by exact since_c a.a a.c a.f b.a b.c b.f w ((ha rfl).1.ex0 hS.ext) (ha.len rfl) ((hb rfl).1.ex0 hS.ext) (hb.len rfl))) ?_
                      rintro v w1 w2 Y' hS he ho
                      rw [show bldF ⟨21, 0, 0, 0, 0, 0⟩ [a.f, b.f] = bT (mkQ 21 i e g ta tb) from bldQ2 hop rfl hf (hF.i0 rfl).symm (hF.e0 (by decide)).symm (hF.g0 rfl).symm (ha rfl).2 (hb rfl).2] at ho
                      obtain ⟨q, cap, sp, rfl, hq, hcap, hS'⟩ := gainN hS he ho
                      refine ⟨_, hS', ?_⟩
                      refine gAs ?_
                      refine gE ?_
                      refine GoH.ret Try.f51 Try.func51 rfl (fun w' hS => ?_)
                      exact ⟨hS.ext, OwnN.mk hS 0 rfl rfl hq hcap⟩
                     ·
                      have h21 : ¬ op = 21 := by simpa using hc
                      obtain rfl : op = 1 := by omega
                      refine gK (gIb (gS (gR ?_)))
                      refine GoH.callM _ rfl rfl rfl rfl rfl (fun _ _ => Try.call82 _ _) (fun w _ hS => (by exact true_c w)) ?_
                      rintro v w1 w2 Y' hS he ho
                      rw [show bldF ⟨1, 0, 0, 0, 0, 0⟩ [] = bT (mkQ 1 i e g ta tb) from bldQ0 hop rfl hf (hF.i0 rfl).symm (hF.e0 (by decide)).symm (hF.g0 rfl).symm] at ho
                      obtain ⟨q, cap, sp, rfl, hq, hcap, hS'⟩ := gainN hS he ho
                      refine ⟨_, hS', ?_⟩
                      refine gAs ?_
                      refine gE ?_
                      refine GoH.ret Try.f51 Try.func51 rfl (fun w' hS => ?_)
                      exact ⟨hS.ext, OwnN.mk hS 0 rfl rfl hq hcap⟩
theorem rbuild_c (n : NV) (a b : FV) (ta tb : Tr) (w : World) (hop : 1 ≤ n.op ∧ n.op ≤ 21) (hf : fldE n.op n.i n.e n.g = 0) (ha : Opd w (usX n.op) a ta) (hb : Opd w (usY n.op) b tb) : Cn Try.prog 51 [n.v, a.v, b.v] w (fun v w' => OwnN 49 w w' v (bT (mkQ n.op n.i n.e n.g ta tb))) := rbuild0_c n.op n.i n.e n.g n.x n.y a b ta tb w hop hf ha hb
end Go.Proofs.Ytkoipdlkkchmiaa
