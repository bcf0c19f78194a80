/- What calls of the program return, under the conditions that each theorem states. -/
import Derived.Test.YtlihcmknfdckdaaDoorS20
import Derived.Test.YtlihcmknfdckdaaDoorS04
import Derived.Test.YtlihcmknfdckdaaDoorS21
import Derived.Test.YtlihcmknfdckdaaDoorS15
import Derived.Test.YtlihcmknfdckdaaDoorS18
import Derived.Test.YtlihcmknfdckdaaDoorS14
namespace Go.Proofs.YtlihcmknfdckdaaDoor
open Go.RowKit Go.Proofs.Wit Tryd
/-! the axioms that the reference looks for -/
set_option maxRecDepth 8000 in
theorem gaxK_c (a : Option Addr) (ca : Nat) (f : List NV) (t : Tr) (w : World) (ha : FA w a f) (hf : Cf f t) :
    Cn Tryd.prog 81 [.slice a f.length ca] w (fun v _ => ∃ b, v = .bool b ∧ (b = true ↔ AxK t)) := by
  refine Cn.of func81 rfl rfl ?_
  refine gS (gR ?_); refine gAs ?_; refine gE (gS (gR ?_)); refine gMv ?_
  refine gM rfl rfl rfl rfl rfl call68 (fun w _ hS => (by exact gparts_c a ca f (some t) 7 w (by decide) (ha.ex0 hS.ext) hf)) ?_
  rintro v w1 w2 Y' hS he ⟨qa, cA, fa, spa, qb, cb, fb, spb, rfl, hqa, hqb, hnew, hBa, hBb⟩
  refine ⟨_, hS.gainL he hnew, ?_⟩
  refine gMv ?_
  iterate 3 refine gEx ?_
  iterate 3 refine gAs ?_
  refine gE (gS (gR ?_)); refine gMv ?_
  refine gM rfl rfl rfl rfl rfl call101 (fun w _ hS => (by exact gtop_c (qa.map (fun b => ⟨b, 0, none⟩)) cA fa (_) 9 w (by decide) (faAt hS 0 rfl (fun e => (hqa e).1)) hBa)) ?_
  rintro v w1 w2 Y' hS he ⟨nd, rfl, hnd⟩
  refine ⟨_, hS.later he, ?_⟩
  refine gMv ?_
  iterate 2 refine gEx ?_
  refine GoH.alc rfl rfl rfl (fun _ => zeroValue80 _) (fun b6 => ?_)
  refine GoH.stB rfl rfl rfl rfl sizeOf80 0 rfl rfl rfl rfl ?_
  refine gAs ?_; refine gE (gS (gS (gR ?_))); refine gMv ?_; refine gUn uNot ?_; refine gMv ?_
  refine gCs 23 (fun hc => ?_) fun hc => ?_
  ·
   have hno : ¬ opP (some t) = 7 := by simpa using hc
   iterate 2 refine gNo ?_
   refine gPt ?_; refine gE (GoH.condT rfl (gS (gR ?_))); refine gAs ?_; refine gE ?_
   refine gT func81 fun w' hS => ?_
   exact ⟨hS.ext, false, rfl, fun h => (by cases h), fun h => absurd (AxK.im h) hno⟩
  ·
   have h7 : opP (some t) = 7 := by simpa using hc
   rw [if_pos h7] at hBa hnd ⊢
   rw [if_pos ⟨h7, rfl⟩] at hBb
   refine gMv ?_; refine gUn uNot ?_; refine gPf ?_; refine gE ?_
   refine gC (fun hc => ?_) fun hc => ?_
   ·
    have hno : ¬ opP (kdA (some t)) = 9 := by simpa using hc
    refine gS (gR ?_); refine gAs ?_; refine gE ?_
    refine gT func81 fun w' hS => ?_
    exact ⟨hS.ext, false, rfl, fun h => (by cases h), fun h => absurd h.gd.1 hno⟩
   ·
    have h9 : opP (kdA (some t)) = 9 := by simpa using hc
    obtain ⟨P0, Q0, rfl⟩ := top_bin hf.ok h7 (.inr (.inr (.inl rfl)))
    obtain ⟨i, G, hA, hi0, hG⟩ := (OkP'.of hf.ok).a.kn h9 (.inl rfl)
    obtain rfl : P0 = kwT i G := Option.some.inj hA
    have hBa' : Cf fa (kwT i G) := hBa
    have hBb' : Cf fb Q0 := hBb
    obtain ⟨hlt, hn⟩ := hnd h9
    have hni : nd.i = i := by rw [hn]; exact (hBa'.flds hlt).2.1
    have hk : Bf (subF fa nd.x) (some G) := by have := hBa'.kidA hlt (by show (4 : Int) ≤ 9; decide); rw [← hn] at this; exact this
    obtain rfl : nd.i = i := hni
    refine gK (gS (gR ?_)); refine gMv ?_; refine gFp underlying80 sizeOf3 4 ?_; refine gLo isAgg3 0 ?_
    refine gM rfl rfl rfl rfl rfl call95 (fun w _ hS => (by exact rsub_c (qa.map (fun b => ⟨b, 0, none⟩)) cA fa nd.x w (faAt hS 1 rfl (fun e => (hqa e).1)) (bT_max hBa'.eq))) ?_
    rintro v w1 w2 Y' hS he ho
    obtain ⟨r0, cr0, spr0, rfl, hr0, hcr0, hS'⟩ := gainN hS he ho
    refine ⟨_, hS', ?_⟩
    refine gM rfl rfl rfl rfl rfl call68 (fun w _ hS => (by exact gparts_c (r0.map (fun b => ⟨b, 0, none⟩)) cr0 _ (some G) 7 w (by decide) (faAt hS 0 rfl (fun e => (hr0 e).1)) hk)) ?_
    rintro v w1 w2 Y' hS he ⟨qa2, cA2, fa2, spa2, qb2, cb2, fb2, spb2, rfl, hqa2, hqb2, hnew, hBa2, hBb2⟩
    refine ⟨_, hS.gainL he hnew, ?_⟩
    refine gMv ?_
    iterate 3 refine gEx ?_
    iterate 3 refine gAs ?_
    refine gE (gS ?_)
    refine GoH.drawCh 16 mixed ?_
    refine cV 0 (Vop.mv rfl rfl rfl rfl) ?_
    refine cV 1 (Vop.mv rfl rfl rfl rfl) ?_
    refine RdC.cases (d := 37) rfl (fun hc => ?_) (fun hc => ?_)
    ·
     have hg7 : opP (some G) = 7 := by simpa using hc
     rw [if_pos hg7] at hBa2
     rw [if_pos ⟨hg7, rfl⟩] at hBb2
     obtain ⟨p, q, rfl⟩ := top_bin hG hg7 (.inr (.inr (.inl rfl)))
     have hBp : Cf fa2 p := hBa2
     have hBq : Cf fb2 q := hBb2
     have hp := hBp.ok
     have hq := hBq.ok
     refine cV 2 (Vop.mv rfl rfl rfl rfl) ?_
     refine cV 3 (Vop.fldP rfl rfl rfl rfl underlying80 rfl (by exact sizeOf3) 1 rfl) ?_
     refine cV 4 (Vop.ldo rfl rfl rfl rfl isAgg3 3 rfl rfl) ?_
     refine cV 5 (Vop.mv rfl rfl rfl rfl) ?_
     refine cV 7 (Vop.fldP rfl rfl rfl rfl underlying80 rfl (by exact sizeOf3) 1 rfl) ?_
     refine cV 8 (Vop.ldo rfl rfl rfl rfl isAgg3 3 rfl rfl) ?_
     refine cV 9 (Vop.mv rfl rfl rfl rfl) ?_
     refine RdC.call (i := 6) _ rfl rfl rfl rfl rfl rfl (fun _ _ => call36 _ _) (fun w _ hS => (by exact gknow_c nd.i hi0 ⟨(qa2.map (fun b => ⟨b, 0, none⟩)), cA2, fa2⟩ p w (faAt hS 0 rfl (fun e => (hqa2 e).1)) hBp.eq hp)) ?_
     rintro v w1 w2 Y' hS he ho
     obtain ⟨r1, cr1, spr1, rfl, hr1, hcr1, hS'⟩ := gainN hS he ho
     refine ⟨_, hS', (by repeat (first | exact List.Sublist.refl _ | refine List.Sublist.cons _ ?_)), ?_⟩
     refine RdC.call (i := 10) _ rfl rfl rfl rfl rfl rfl (fun _ _ => call36 _ _) (fun w _ hS => (by exact gknow_c nd.i hi0 ⟨(qb2.map (fun b => ⟨b, 0, none⟩)), cb2, fb2⟩ q w (faAt hS 2 rfl (fun e => (hqb2 e).1)) hBq.eq hq)) ?_
     rintro v w1 w2 Y' hS he ho
     obtain ⟨r2, cr2, spr2, rfl, hr2, hcr2, hS'⟩ := gainN hS he ho
     refine ⟨_, hS', (by repeat (first | exact List.Sublist.refl _ | refine List.Sublist.cons _ ?_)), ?_⟩
     refine RdC.call (i := 11) _ rfl rfl rfl rfl rfl rfl (fun _ _ => call27 _ _) (fun w _ hS => (by exact gimp_c ⟨(r1.map (fun b => ⟨b, 0, none⟩)), cr1, bT (kwT nd.i p)⟩ ⟨(r2.map (fun b => ⟨b, 0, none⟩)), cr2, bT (kwT nd.i q)⟩ (kwT nd.i p) (kwT nd.i q) w (faAt hS 1 rfl (fun e => (hr1 e).1)) rfl (kw_ok hi0 hp) (faAt hS 0 rfl (fun e => (hr2 e).1)) rfl (kw_ok hi0 hq))) ?_
     rintro v w1 w2 Y' hS he ho
     obtain ⟨r3, cr3, spr3, rfl, hr3, hcr3, hS'⟩ := gainN hS he ho
     refine ⟨_, hS', (by repeat (first | exact List.Sublist.refl _ | refine List.Sublist.cons _ ?_)), ?_⟩
     refine RdC.callP (i := 12) rfl rfl rfl rfl rfl rfl (fun _ _ => call42 _ _) (fun w _ hS => (by exact gsameF_c (qb.map (fun b => ⟨b, 0, none⟩)) cb fb (r3.map (fun b => ⟨b, 0, none⟩)) cr3 _ w (faAt hS 8 rfl (fun e => (hqb e).1)) (faAt hS 0 rfl (fun e => (hr3 e).1)) (bT_max (Cf.eq hBb')) (bT_max rfl))) (by repeat (first | exact List.Sublist.refl _ | exact List.nil_sublist _ | refine List.Sublist.cons_cons _ ?_ | refine List.Sublist.cons _ ?_)) ?_
     refine cV 13 (Vop.pickT rfl rfl rfl rfl rfl) ?_
     refine cV 14 (Vop.asg rfl rfl rfl rfl) ?_
     refine RdC.done rfl ?_
     refine gE ?_
     refine gT func81 fun w' hS => ?_
     exact ⟨hS.ext, _, rfl, by rw [sameB_cf hBb' (im_ok (kw_ok hi0 hp) (kw_ok hi0 hq)), decide_eq_true_eq, im_inj]; exact AxK.iff rfl⟩
    ·
     have hno : ¬ opP (some G) = 7 := by simpa using hc
     refine cN 2 ?_
     refine cN 3 ?_
     refine cN 4 ?_
     refine cN 5 ?_
     refine cN 6 ?_
     refine cN 7 ?_
     refine cN 8 ?_
     refine cN 9 ?_
     refine cN 10 ?_
     refine cN 11 ?_
     refine cN 12 ?_
     refine cV 13 (Vop.pickF rfl rfl rfl rfl rfl) ?_
     refine cV 14 (Vop.asg rfl rfl rfl rfl) ?_
     refine RdC.done rfl ?_
     refine gE ?_
     refine gT func81 fun w' hS => ?_
     exact ⟨hS.ext, false, rfl, fun h => (by cases h), fun h => absurd h.gd.2 hno⟩
set_option maxRecDepth 8000 in
theorem gaxKnow_c (rl : Int) (hrl : rl = 3 ∨ rl = 4 ∨ rl = 6) (a : Option Addr) (ca : Nat) (f : List NV) (t : Tr) (w : World) (ha : FA w a f) (hf : Cf f t) :
    Cn Tryd.prog 82 [.slice a f.length ca, .int .i64 rl] w (fun v _ => ∃ b, v = .bool b ∧ (b = true ↔ InstT rl t)) := by
  have hgd : InstT rl t → opP (some t) = 7 ∧ opP (kdA (some t)) = 9 := by
    rcases hrl with rfl | rfl | rfl
    · exact fun h => ⟨AxT.im h, AxT.gd h⟩
    · exact fun h => ⟨Ax4.im h, Ax4.gd h⟩
    · exact fun h => ⟨AxD.im h, AxD.gd h⟩
  refine Cn.of func82 rfl rfl ?_
  refine gS (gR ?_); refine gAs ?_; refine gE (gS (gR ?_)); refine gMv ?_
  refine gM rfl rfl rfl rfl rfl call68 (fun w _ hS => (by exact gparts_c a ca f (some t) 7 w (by decide) (ha.ex0 hS.ext) hf)) ?_
  rintro v w1 w2 Y' hS he ⟨qa, cA, fa, spa, qb, cb, fb, spb, rfl, hqa, hqb, hnew, hBa, hBb⟩
  refine ⟨_, hS.gainL he hnew, ?_⟩
  refine gMv ?_
  iterate 3 refine gEx ?_
  iterate 3 refine gAs ?_
  refine gE (gS (gR ?_)); refine gMv ?_
  refine gM rfl rfl rfl rfl rfl call101 (fun w _ hS => (by exact gtop_c (qa.map (fun b => ⟨b, 0, none⟩)) cA fa (_) 9 w (by decide) (faAt hS 0 rfl (fun e => (hqa e).1)) hBa)) ?_
  rintro v w1 w2 Y' hS he ⟨nd, rfl, hnd⟩
  refine ⟨_, hS.later he, ?_⟩
  refine gMv ?_
  iterate 2 refine gEx ?_
  refine GoH.alc rfl rfl rfl (fun _ => zeroValue80 _) (fun b8 => ?_)
  refine GoH.stB rfl rfl rfl rfl sizeOf80 0 rfl rfl rfl rfl ?_
  refine gAs ?_; refine gE (gS (gS (gR ?_))); refine gMv ?_; refine gUn uNot ?_; refine gMv ?_
  refine gCs 24 (fun hc => ?_) fun hc => ?_
  ·
   have hno : ¬ opP (some t) = 7 := by simpa using hc
   iterate 2 refine gNo ?_
   refine gPt ?_; refine gE (GoH.condT rfl (gS (gR ?_))); refine gAs ?_; refine gE ?_
   refine gT func82 fun w' hS => ?_
   exact ⟨hS.ext, false, rfl, fun h => (by cases h), fun h => absurd (hgd h).1 hno⟩
  ·
   have h7 : opP (some t) = 7 := by simpa using hc
   rw [if_pos h7] at hBa hnd ⊢
   rw [if_pos ⟨h7, rfl⟩] at hBb
   refine gMv ?_; refine gUn uNot ?_; refine gPf ?_; refine gE ?_
   refine gC (fun hc => ?_) fun hc => ?_
   ·
    have hno : ¬ opP (kdA (some t)) = 9 := by simpa using hc
    refine gS (gR ?_); refine gAs ?_; refine gE ?_
    refine gT func82 fun w' hS => ?_
    exact ⟨hS.ext, false, rfl, fun h => (by cases h), fun h => absurd (hgd h).2 hno⟩
   ·
    have h9 : opP (kdA (some t)) = 9 := by simpa using hc
    obtain ⟨P0, Q0, rfl⟩ := top_bin hf.ok h7 (.inr (.inr (.inl rfl)))
    obtain ⟨i, G, hA, hi0, hG⟩ := (OkP'.of hf.ok).a.kn h9 (.inl rfl)
    obtain rfl : P0 = kwT i G := Option.some.inj hA
    have hBa' : Cf fa (kwT i G) := hBa
    have hBb' : Cf fb Q0 := hBb
    obtain ⟨hlt, hn⟩ := hnd h9
    have hni : nd.i = i := by rw [hn]; exact (hBa'.flds hlt).2.1
    have hk : Cf (subF fa nd.x) G := by have := hBa'.kidA hlt (by show (4 : Int) ≤ 9; decide); rw [← hn] at this; exact this
    obtain rfl : nd.i = i := hni
    refine gK (gS (gR ?_)); refine gMv ?_; refine gFp underlying80 sizeOf3 4 ?_; refine gLo isAgg3 0 ?_
    refine gM rfl rfl rfl rfl rfl call95 (fun w _ hS => (by exact rsub_c (qa.map (fun b => ⟨b, 0, none⟩)) cA fa nd.x w (faAt hS 1 rfl (fun e => (hqa e).1)) (bT_max hBa'.eq))) ?_
    rintro v w1 w2 Y' hS he ho
    obtain ⟨r0, cr0, spr0, rfl, hr0, hcr0, hS'⟩ := gainN hS he ho
    refine ⟨_, hS', ?_⟩
    refine gAs ?_; refine gE (gS (gS (gR ?_))); refine gMv ?_; refine gE (gB (gS (gR ?_))); refine gBi bEq ?_; refine gAs ?_; refine gE ?_
    refine gC (fun hc => ?_) fun hc => ?_
    ·
     have e3 : rl = 3 := by simpa using hc
     subst e3
     refine gS (gR ?_)
     iterate 2 refine gMv ?_
     refine gP rfl rfl rfl rfl rfl call42 (fun w _ hS => (by exact gsameF_c (qb.map (fun b => ⟨b, 0, none⟩)) cb fb (r0.map (fun b => ⟨b, 0, none⟩)) cr0 _ w (faAt hS 3 rfl (fun e => (hqb e).1)) (faAt hS 0 rfl (fun e => (hr0 e).1)) (bT_max hBb'.eq) (bT_max hk.eq))) ?_
     refine gAs ?_; refine gE ?_
     refine gT func82 fun w' hS => ?_
     exact ⟨hS.ext, _, rfl, by rw [hk.eq, sameB_cf hBb' hG, decide_eq_true_eq, im_inj]; exact AxT.iff (t := imT (kwT nd.i G) Q0) rfl⟩
    ·
     have e3 : ¬ rl = 3 := by simpa using hc
     refine gS (gR ?_); refine gBi bEq ?_; refine gAs ?_; refine gE ?_
     refine gC (fun hc => ?_) fun hc => ?_
     ·
      have e4 : rl = 4 := by simpa using hc
      subst e4
      refine gS (gR ?_); refine gMv ?_; refine gFp underlying80 sizeOf3 1 ?_; refine gLo isAgg3 1 ?_; refine gMv ?_
      refine gM rfl rfl rfl rfl rfl call36 (fun w _ hS => (by exact gknow_c nd.i hi0 ⟨(qa.map (fun b => ⟨b, 0, none⟩)), cA, fa⟩ (kwT nd.i G) w (faAt hS 2 rfl (fun e => (hqa e).1)) hBa'.eq (kw_ok hi0 hG))) ?_
      rintro v w1 w2 Y' hS he ho
      obtain ⟨r1, cr1, spr1, rfl, hr1, hcr1, hS'⟩ := gainN hS he ho
      refine ⟨_, hS', ?_⟩
      refine gP rfl rfl rfl rfl rfl call42 (fun w _ hS => (by exact gsameF_c (qb.map (fun b => ⟨b, 0, none⟩)) cb fb (r1.map (fun b => ⟨b, 0, none⟩)) cr1 _ w (faAt hS 4 rfl (fun e => (hqb e).1)) (faAt hS 0 rfl (fun e => (hr1 e).1)) (bT_max (Cf.eq hBb')) (bT_max rfl))) ?_
      refine gAs ?_; refine gE ?_
      refine gT func82 fun w' hS => ?_
      exact ⟨hS.ext, _, rfl, by rw [sameB_cf hBb' (kw_ok hi0 (kw_ok hi0 hG)), decide_eq_true_eq, im_inj]; exact Ax4.iff (t := imT (kwT nd.i G) Q0) rfl⟩
     ·
      have e4 : ¬ rl = 4 := by simpa using hc
      obtain rfl : rl = 6 := by omega
      refine gK (gIb (gS ?_))
      refine GoH.drawCh 10 mixed ?_
      refine cV 0 (Vop.mv rfl rfl rfl rfl) ?_
      refine cV 1 (Vop.fldP rfl rfl rfl rfl underlying80 rfl (by exact sizeOf3) 1 rfl) ?_
      refine cV 2 (Vop.ldo rfl rfl rfl rfl isAgg3 1 rfl rfl) ?_
      refine cV 3 (Vop.mv rfl rfl rfl rfl) ?_
      refine RdC.call (i := 4) _ rfl rfl rfl rfl rfl rfl (fun _ _ => call35 _ _) (fun w _ hS => (by exact gnot_c ⟨(r0.map (fun b => ⟨b, 0, none⟩)), cr0, _⟩ G w (faAt hS 0 rfl (fun e => (hr0 e).1)) hk.eq hG)) ?_
      rintro v w1 w2 Y' hS he ho
      obtain ⟨r1, cr1, spr1, rfl, hr1, hcr1, hS'⟩ := gainN hS he ho
      refine ⟨_, hS', (by repeat (first | exact List.Sublist.refl _ | refine List.Sublist.cons _ ?_)), ?_⟩
      refine RdC.call (i := 5) _ rfl rfl rfl rfl rfl rfl (fun _ _ => call36 _ _) (fun w _ hS => (by exact gknow_c nd.i hi0 ⟨(r1.map (fun b => ⟨b, 0, none⟩)), cr1, bT (ntT G)⟩ (ntT G) w (faAt hS 0 rfl (fun e => (hr1 e).1)) rfl (nt_ok hG))) ?_
      rintro v w1 w2 Y' hS he ho
      obtain ⟨r2, cr2, spr2, rfl, hr2, hcr2, hS'⟩ := gainN hS he ho
      refine ⟨_, hS', (by repeat (first | exact List.Sublist.refl _ | refine List.Sublist.cons _ ?_)), ?_⟩
      refine RdC.call (i := 6) _ rfl rfl rfl rfl rfl rfl (fun _ _ => call35 _ _) (fun w _ hS => (by exact gnot_c ⟨(r2.map (fun b => ⟨b, 0, none⟩)), cr2, bT (kwT nd.i (ntT G))⟩ (kwT nd.i (ntT G)) w (faAt hS 0 rfl (fun e => (hr2 e).1)) rfl (kw_ok hi0 (nt_ok hG)))) ?_
      rintro v w1 w2 Y' hS he ho
      obtain ⟨r3, cr3, spr3, rfl, hr3, hcr3, hS'⟩ := gainN hS he ho
      refine ⟨_, hS', (by repeat (first | exact List.Sublist.refl _ | refine List.Sublist.cons _ ?_)), ?_⟩
      refine RdC.callP (i := 7) rfl rfl rfl rfl rfl rfl (fun _ _ => call42 _ _) (fun w _ hS => (by exact gsameF_c (qb.map (fun b => ⟨b, 0, none⟩)) cb fb (r3.map (fun b => ⟨b, 0, none⟩)) cr3 _ w (faAt hS 6 rfl (fun e => (hqb e).1)) (faAt hS 0 rfl (fun e => (hr3 e).1)) (bT_max (Cf.eq hBb')) (bT_max rfl))) (by repeat (first | exact List.Sublist.refl _ | exact List.nil_sublist _ | refine List.Sublist.cons_cons _ ?_ | refine List.Sublist.cons _ ?_)) ?_
      refine cV 8 (Vop.asg rfl rfl rfl rfl) ?_
      refine RdC.done rfl ?_
      refine gE ?_
      refine gT func82 fun w' hS => ?_
      exact ⟨hS.ext, _, rfl, by rw [sameB_cf hBb' (nt_ok (kw_ok hi0 (nt_ok hG))), decide_eq_true_eq, im_inj]; exact AxD.iff (t := imT (kwT nd.i G) Q0) rfl⟩
set_option maxRecDepth 8000 in
theorem gaxP_c (a : Option Addr) (ca : Nat) (f : List NV) (t : Tr) (w : World) (ha : FA w a f) (hf : Cf f t) :
    Cn Tryd.prog 84 [.slice a f.length ca] w (fun v _ => ∃ b, v = .bool b ∧ (b = true ↔ AxP t)) := by
  refine Cn.of func84 rfl rfl ?_
  refine gS (gR ?_); refine gAs ?_; refine gE (gS (gR ?_)); refine gMv ?_
  refine gM rfl rfl rfl rfl rfl call68 (fun w _ hS => (by exact gparts_c a ca f (some t) 8 w (by decide) (ha.ex0 hS.ext) hf)) ?_
  rintro v w1 w2 Y' hS he ⟨qa, cA, fa, spa, qb, cb, fb, spb, rfl, hqa, hqb, hnew, hBa, hBb⟩
  refine ⟨_, hS.gainL he hnew, ?_⟩
  refine gMv ?_
  iterate 3 refine gEx ?_
  iterate 3 refine gAs ?_
  refine gE (gS (gR ?_)); refine gMv ?_
  refine gM rfl rfl rfl rfl rfl call101 (fun w _ hS => (by exact gtop_c (qa.map (fun b => ⟨b, 0, none⟩)) cA fa (_) 10 w (by decide) (faAt hS 0 rfl (fun e => (hqa e).1)) hBa)) ?_
  rintro v w1 w2 Y' hS he ⟨nd, rfl, hnd⟩
  refine ⟨_, hS.later he, ?_⟩
  refine gMv ?_
  iterate 2 refine gEx ?_
  refine GoH.alc rfl rfl rfl (fun _ => zeroValue80 _) (fun b6 => ?_)
  refine GoH.stB rfl rfl rfl rfl sizeOf80 0 rfl rfl rfl rfl ?_
  refine gAs ?_; refine gE (gS ?_)
  refine GoH.drawCh 19 mixed ?_
  refine cV 0 (Vop.mv rfl rfl rfl rfl) ?_
  refine cV 1 (Vop.mv rfl rfl rfl rfl) ?_
  refine RdC.cases (d := 20) rfl (fun hc => ?_) (fun hc => ?_)
  ·
   have h8 : opP (some t) = 8 := by simpa using hc
   rw [if_pos h8] at hBa hnd ⊢
   rw [if_pos ⟨h8, rfl⟩] at hBb
   refine cV 2 (Vop.mv rfl rfl rfl rfl) ?_
   refine cV 3 (Vop.pickT rfl rfl rfl rfl rfl) ?_
   refine cV 4 (Vop.mv rfl rfl rfl rfl) ?_
   refine RdC.cases (d := 23) rfl (fun hc => ?_) (fun hc => ?_)
   ·
    have h10 : opP (kdA (some t)) = 10 := by simpa using hc
    obtain ⟨P0, Q0, rfl⟩ := top_bin hf.ok h8 (.inr (.inr (.inr rfl)))
    obtain ⟨i, G, hA, hi0, hG⟩ := (OkP'.of hf.ok).a.kn h10 (.inr rfl)
    obtain rfl : P0 = poT i G := Option.some.inj hA
    have hBa' : Cf fa (poT i G) := hBa
    have hBb' : Cf fb Q0 := hBb
    obtain ⟨hlt, hn⟩ := hnd h10
    have hni : nd.i = i := by rw [hn]; exact (hBa'.flds hlt).2.1
    have hk : Cf (subF fa nd.x) G := by have := hBa'.kidA hlt (by show (4 : Int) ≤ 10; decide); rw [← hn] at this; exact this
    obtain rfl : nd.i = i := hni
    refine cV 5 (Vop.mv rfl rfl rfl rfl) ?_
    refine cV 6 (Vop.fldP rfl rfl rfl rfl underlying80 rfl (by exact sizeOf3) 1 rfl) ?_
    refine cV 7 (Vop.ldo rfl rfl rfl rfl isAgg3 0 rfl rfl) ?_
    refine cV 8 (Vop.mv rfl rfl rfl rfl) ?_
    refine cV 9 (Vop.fldP rfl rfl rfl rfl underlying80 rfl (by exact sizeOf3) 4 rfl) ?_
    refine cV 10 (Vop.ldo rfl rfl rfl rfl isAgg3 0 rfl rfl) ?_
    refine RdC.call (i := 11) _ rfl rfl rfl rfl rfl rfl (fun _ _ => call95 _ _) (fun w _ hS => (by exact rsub_c (qa.map (fun b => ⟨b, 0, none⟩)) cA fa nd.x w (faAt hS 1 rfl (fun e => (hqa e).1)) (bT_max hBa'.eq))) ?_
    rintro v w1 w2 Y' hS he ho
    obtain ⟨r0, cr0, spr0, rfl, hr0, hcr0, hS'⟩ := gainN hS he ho
    refine ⟨_, hS', (by repeat (first | exact List.Sublist.refl _ | refine List.Sublist.cons _ ?_)), ?_⟩
    refine RdC.call (i := 12) _ rfl rfl rfl rfl rfl rfl (fun _ _ => call35 _ _) (fun w _ hS => (by exact gnot_c ⟨(r0.map (fun b => ⟨b, 0, none⟩)), cr0, _⟩ G w (faAt hS 0 rfl (fun e => (hr0 e).1)) hk.eq hG)) ?_
    rintro v w1 w2 Y' hS he ho
    obtain ⟨r1, cr1, spr1, rfl, hr1, hcr1, hS'⟩ := gainN hS he ho
    refine ⟨_, hS', (by repeat (first | exact List.Sublist.refl _ | refine List.Sublist.cons _ ?_)), ?_⟩
    refine RdC.call (i := 13) _ rfl rfl rfl rfl rfl rfl (fun _ _ => call36 _ _) (fun w _ hS => (by exact gknow_c nd.i hi0 ⟨(r1.map (fun b => ⟨b, 0, none⟩)), cr1, bT (ntT G)⟩ (ntT G) w (faAt hS 0 rfl (fun e => (hr1 e).1)) rfl (nt_ok hG))) ?_
    rintro v w1 w2 Y' hS he ho
    obtain ⟨r2, cr2, spr2, rfl, hr2, hcr2, hS'⟩ := gainN hS he ho
    refine ⟨_, hS', (by repeat (first | exact List.Sublist.refl _ | refine List.Sublist.cons _ ?_)), ?_⟩
    refine RdC.call (i := 14) _ rfl rfl rfl rfl rfl rfl (fun _ _ => call35 _ _) (fun w _ hS => (by exact gnot_c ⟨(r2.map (fun b => ⟨b, 0, none⟩)), cr2, bT (kwT nd.i (ntT G))⟩ (kwT nd.i (ntT G)) w (faAt hS 0 rfl (fun e => (hr2 e).1)) rfl (kw_ok hi0 (nt_ok hG)))) ?_
    rintro v w1 w2 Y' hS he ho
    obtain ⟨r3, cr3, spr3, rfl, hr3, hcr3, hS'⟩ := gainN hS he ho
    refine ⟨_, hS', (by repeat (first | exact List.Sublist.refl _ | refine List.Sublist.cons _ ?_)), ?_⟩
    refine RdC.callP (i := 15) rfl rfl rfl rfl rfl rfl (fun _ _ => call42 _ _) (fun w _ hS => (by exact gsameF_c (qb.map (fun b => ⟨b, 0, none⟩)) cb fb (r3.map (fun b => ⟨b, 0, none⟩)) cr3 _ w (faAt hS 6 rfl (fun e => (hqb e).1)) (faAt hS 0 rfl (fun e => (hr3 e).1)) (bT_max (Cf.eq hBb')) (bT_max rfl))) (by repeat (first | exact List.Sublist.refl _ | exact List.nil_sublist _ | refine List.Sublist.cons_cons _ ?_ | refine List.Sublist.cons _ ?_)) ?_
    refine cV 16 (Vop.pickT rfl rfl rfl rfl rfl) ?_
    refine cV 17 (Vop.asg rfl rfl rfl rfl) ?_
    refine RdC.done rfl ?_
    refine gE ?_
    refine gT func84 fun w' hS => ?_
    exact ⟨hS.ext, _, rfl, by rw [sameB_cf hBb' (nt_ok (kw_ok hi0 (nt_ok hG))), decide_eq_true_eq, if_inj]; exact AxP.iff rfl⟩
   ·
    have hno : ¬ opP (kdA (some t)) = 10 := by simpa using hc
    refine cN 5 ?_
    refine cN 6 ?_
    refine cN 7 ?_
    refine cN 8 ?_
    refine cN 9 ?_
    refine cN 10 ?_
    refine cN 11 ?_
    refine cN 12 ?_
    refine cN 13 ?_
    refine cN 14 ?_
    refine cN 15 ?_
    refine cV 16 (Vop.pickF rfl rfl rfl rfl rfl) ?_
    refine cV 17 (Vop.asg rfl rfl rfl rfl) ?_
    refine RdC.done rfl ?_
    refine gE ?_
    refine gT func84 fun w' hS => ?_
    exact ⟨hS.ext, false, rfl, fun h => (by cases h), fun h => absurd h.gd hno⟩
  ·
   have hno : ¬ opP (some t) = 8 := by simpa using hc
   refine cN 2 ?_
   refine cV 3 (Vop.pickF rfl rfl rfl rfl rfl) ?_
   refine cV 4 (Vop.mv rfl rfl rfl rfl) ?_
   refine cN 5 ?_
   refine cN 6 ?_
   refine cN 7 ?_
   refine cN 8 ?_
   refine cN 9 ?_
   refine cN 10 ?_
   refine cN 11 ?_
   refine cN 12 ?_
   refine cN 13 ?_
   refine cN 14 ?_
   refine cN 15 ?_
   refine cV 16 (Vop.pickF rfl rfl rfl rfl rfl) ?_
   refine cV 17 (Vop.asg rfl rfl rfl rfl) ?_
   refine RdC.done rfl ?_
   refine gE ?_
   refine gT func84 fun w' hS => ?_
   exact ⟨hS.ext, false, rfl, fun h => (by cases h), fun h => absurd h.im hno⟩
end Go.Proofs.YtlihcmknfdckdaaDoor
namespace Go.Proofs.YtlihcmknfdckdaaDoor
open Go.RowKit Go.Proofs.Wit Tryd
/-! the axioms that the reference looks for, 2 -/
set_option maxRecDepth 8000 in
theorem gax5_c (a : Option Addr) (ca : Nat) (f : List NV) (t : Tr) (w : World) (ha : FA w a f) (hf : Cf f t) :
    Cn Tryd.prog 83 [.slice a f.length ca] w (fun v _ => ∃ b, v = .bool b ∧ (b = true ↔ Ax5 t)) := by
  refine Cn.of func83 rfl rfl ?_
  refine gS (gR ?_); refine gAs ?_; refine gE (gS (gR ?_)); refine gMv ?_
  refine gM rfl rfl rfl rfl rfl call68 (fun w _ hS => (by exact gparts_c a ca f (some t) 7 w (by decide) (ha.ex0 hS.ext) hf)) ?_
  rintro v w1 w2 Y' hS he ⟨qa, cA, fa, spa, qb, cb, fb, spb, rfl, hqa, hqb, hnew, hBa, hBb⟩
  refine ⟨_, hS.gainL he hnew, ?_⟩
  refine gMv ?_
  iterate 3 refine gEx ?_
  iterate 3 refine gAs ?_
  refine gE (gS (gR ?_)); refine gMv ?_
  refine gM rfl rfl rfl rfl rfl call68 (fun w _ hS => (by exact gparts_c (qa.map (fun b => ⟨b, 0, none⟩)) cA fa (_) 4 w (by decide) (faAt hS 0 rfl (fun e => (hqa e).1)) hBa)) ?_
  rintro v w1 w2 Y' hS he ⟨qa2, cA2, fa2, spa2, qb2, cb2, fb2, spb2, rfl, hqa2, hqb2, hnew, hBa2, hBb2⟩
  refine ⟨_, hS.gainL he hnew, ?_⟩
  refine gMv ?_
  iterate 3 refine gEx ?_
  iterate 3 refine gAs ?_
  refine gE (gS (gR ?_)); refine gMv ?_
  refine gM rfl rfl rfl rfl rfl call101 (fun w _ hS => (by exact gtop_c (qa2.map (fun b => ⟨b, 0, none⟩)) cA2 fa2 (_) 9 w (by decide) (faAt hS 0 rfl (fun e => (hqa2 e).1)) hBa2)) ?_
  rintro v w1 w2 Y' hS he ⟨nd, rfl, hnd⟩
  refine ⟨_, hS.later he, ?_⟩
  refine gMv ?_
  iterate 2 refine gEx ?_
  refine GoH.alc rfl rfl rfl (fun _ => zeroValue80 _) (fun b9 => ?_)
  refine GoH.stB rfl rfl rfl rfl sizeOf80 0 rfl rfl rfl rfl ?_
  refine gAs ?_; refine gE (gS (gR ?_))
  iterate 2 refine gMv ?_
  refine gCs 29 (fun hc => ?_) fun hc => ?_
  ·
   have h7 : opP (some t) = 7 := by simpa using hc
   rw [if_pos h7] at hBa hBa2 hBb2 hnd ⊢
   rw [if_pos ⟨h7, rfl⟩] at hBb
   refine gMv ?_; refine gPt ?_; refine gMv ?_
   refine gCs 32 (fun hc => ?_) fun hc => ?_
   ·
    have h4 : opP (kdA (some t)) = 4 := by simpa using hc
    rw [if_pos h4] at hBa2 hnd ⊢
    refine gMv ?_; refine gPt ?_; refine gMv ?_
    refine gCs 35 (fun hc => ?_) fun hc => ?_
    ·
     have h9 : opP (kdA (kdA (some t))) = 9 := by simpa using hc
     obtain ⟨P0, Q0, rfl⟩ := top_bin hf.ok h7 (.inr (.inr (.inl rfl)))
     have hP : P0.ok := hf.ok.kid (List.mem_cons_self ..)
     obtain ⟨K0, rfl⟩ := top_nt hP h4
     obtain ⟨i, G, hA, hi0, hG⟩ := (OkP'.of hf.ok).a.a.kn h9 (.inl rfl)
     obtain rfl : K0 = kwT i G := Option.some.inj hA
     have hBa' : Cf fa (ntT (kwT i G)) := hBa
     have hBb' : Cf fb Q0 := hBb
     have hB2' : Cf fa2 (kwT i G) := hBa2
     obtain ⟨hlt, hn⟩ := hnd h9
     have hni : nd.i = i := by rw [hn]; exact (hB2'.flds hlt).2.1
     obtain rfl : nd.i = i := hni
     refine gMv ?_; refine gFp underlying80 sizeOf3 1 ?_; refine gLo isAgg3 0 ?_; refine gMv ?_
     refine gM rfl rfl rfl rfl rfl call36 (fun w _ hS => (by exact gknow_c nd.i hi0 ⟨(qa.map (fun b => ⟨b, 0, none⟩)), cA, fa⟩ (ntT (kwT nd.i G)) w (faAt hS 3 rfl (fun e => (hqa e).1)) hBa'.eq hBa'.ok)) ?_
     rintro v w1 w2 Y' hS he ho
     obtain ⟨r1, cr1, spr1, rfl, hr1, hcr1, hS'⟩ := gainN hS he ho
     refine ⟨_, hS', ?_⟩
     refine gP rfl rfl rfl rfl rfl call42 (fun w _ hS => (by exact gsameF_c (qb.map (fun b => ⟨b, 0, none⟩)) cb fb (r1.map (fun b => ⟨b, 0, none⟩)) cr1 _ w (faAt hS 5 rfl (fun e => (hqb e).1)) (faAt hS 0 rfl (fun e => (hr1 e).1)) (bT_max (Cf.eq hBb')) (bT_max rfl))) ?_
     refine gPt ?_; refine gAs ?_; refine gE ?_
     refine gT func83 fun w' hS => ?_
     exact ⟨hS.ext, _, rfl, by rw [sameB_cf hBb' (kw_ok hi0 hBa'.ok), decide_eq_true_eq, im_inj]; exact Ax5.iff (t := imT (ntT (kwT nd.i G)) Q0) rfl⟩
    ·
     have hno : ¬ opP (kdA (kdA (some t))) = 9 := by simpa using hc
     iterate 6 refine gNo ?_
     refine gPf ?_; refine gAs ?_; refine gE ?_
     refine gT func83 fun w' hS => ?_
     exact ⟨hS.ext, false, rfl, fun h => (by cases h), fun h => absurd h.gd hno⟩
   ·
    have hno : ¬ opP (kdA (some t)) = 4 := by simpa using hc
    refine gNo ?_; refine gPf ?_; refine gMv ?_
    iterate 6 refine gNo ?_
    refine gPf ?_; refine gAs ?_; refine gE ?_
    refine gT func83 fun w' hS => ?_
    exact ⟨hS.ext, false, rfl, fun h => (by cases h), fun h => absurd (by obtain ⟨i, x, rfl⟩ := h; rfl) hno⟩
  ·
   have hno : ¬ opP (some t) = 7 := by simpa using hc
   refine gNo ?_; refine gPf ?_; refine gMv ?_; refine gNo ?_; refine gPf ?_; refine gMv ?_
   iterate 6 refine gNo ?_
   refine gPf ?_; refine gAs ?_; refine gE ?_
   refine gT func83 fun w' hS => ?_
   exact ⟨hS.ext, false, rfl, fun h => (by cases h), fun h => absurd h.im hno⟩
set_option maxRecDepth 8000 in
theorem gaxC_c (a : Option Addr) (ca : Nat) (f : List NV) (t : Tr) (w : World) (ha : FA w a f) (hf : Cf f t) :
    Cn Tryd.prog 86 [.slice a f.length ca] w (fun v _ => ∃ b, v = .bool b ∧ (b = true ↔ AxC t)) := by
  refine Cn.of func86 rfl rfl ?_
  refine gS (gR ?_); refine gAs ?_; refine gE (gS (gR ?_)); refine gMv ?_
  refine gM rfl rfl rfl rfl rfl call68 (fun w _ hS => (by exact gparts_c a ca f (some t) 8 w (by decide) (ha.ex0 hS.ext) hf)) ?_
  rintro v w1 w2 Y' hS he ⟨qa, cA, fa, spa, qb, cb, fb, spb, rfl, hqa, hqb, hnew, hBa, hBb⟩
  refine ⟨_, hS.gainL he hnew, ?_⟩
  refine gMv ?_
  iterate 3 refine gEx ?_
  iterate 3 refine gAs ?_
  refine gE (gS (gR ?_)); refine gMv ?_
  refine gM rfl rfl rfl rfl rfl call101 (fun w _ hS => (by exact gtop_c (qa.map (fun b => ⟨b, 0, none⟩)) cA fa (_) 13 w (by decide) (faAt hS 0 rfl (fun e => (hqa e).1)) hBa)) ?_
  rintro v w1 w2 Y' hS he ⟨nd, rfl, hnd⟩
  refine ⟨_, hS.later he, ?_⟩
  refine gMv ?_
  iterate 2 refine gEx ?_
  refine GoH.alc rfl rfl rfl (fun _ => zeroValue80 _) (fun b6 => ?_)
  refine GoH.stB rfl rfl rfl rfl sizeOf80 0 rfl rfl rfl rfl ?_
  refine gAs ?_; refine gE (gS (gS (gR ?_))); refine gMv ?_; refine gUn uNot ?_; refine gMv ?_
  refine gCs 23 (fun hc => ?_) fun hc => ?_
  ·
   have hno : ¬ opP (some t) = 8 := by simpa using hc
   iterate 2 refine gNo ?_
   refine gPt ?_; refine gE (GoH.condT rfl (gS (gR ?_))); refine gAs ?_; refine gE ?_
   refine gT func86 fun w' hS => ?_
   exact ⟨hS.ext, false, rfl, fun h => (by cases h), fun h => absurd h.im hno⟩
  ·
   have h8 : opP (some t) = 8 := by simpa using hc
   rw [if_pos h8] at hBa hnd ⊢
   rw [if_pos ⟨h8, rfl⟩] at hBb
   refine gMv ?_; refine gUn uNot ?_; refine gPf ?_; refine gE ?_
   refine gC (fun hc => ?_) fun hc => ?_
   ·
    have hno : ¬ opP (kdA (some t)) = 13 := by simpa using hc
    refine gS (gR ?_); refine gAs ?_; refine gE ?_
    refine gT func86 fun w' hS => ?_
    exact ⟨hS.ext, false, rfl, fun h => (by cases h), fun h => absurd h.gd hno⟩
   ·
    have h13 : opP (kdA (some t)) = 13 := by simpa using hc
    obtain ⟨P0, Q0, rfl⟩ := top_bin hf.ok h8 (.inr (.inr (.inr rfl)))
    obtain ⟨g, p, q, hA, hg0, hp, hq⟩ := (OkP'.of hf.ok).a.co h13
    obtain rfl : P0 = coT g p q := Option.some.inj hA
    have hBa' : Cf fa (coT g p q) := hBa
    have hBb' : Cf fb Q0 := hBb
    have hco := hBa'.ok
    obtain ⟨hlt, hn⟩ := hnd h13
    have hng : nd.g = g := by rw [hn]; exact (hBa'.flds hlt).2.2
    have hkx : Cf (subF fa nd.x) p := by have := hBa'.kidA hlt (by show (4 : Int) ≤ 13; decide); rw [← hn] at this; exact this
    have hky : Cf (subF fa nd.y) q := by have := hBa'.kidB hlt (.inr (.inr (.inr (.inr rfl)))); rw [← hn] at this; exact this
    obtain rfl : nd.g = g := hng
    refine gK (gS ?_)
    refine GoH.drawCh 11 mixed ?_
    refine cV 0 (Vop.mv rfl rfl rfl rfl) ?_
    refine cV 1 (Vop.fldP rfl rfl rfl rfl underlying80 rfl (by exact sizeOf3) 4 rfl) ?_
    refine cV 2 (Vop.ldo rfl rfl rfl rfl isAgg3 0 rfl rfl) ?_
    refine cV 4 (Vop.mv rfl rfl rfl rfl) ?_
    refine cV 5 (Vop.fldP rfl rfl rfl rfl underlying80 rfl (by exact sizeOf3) 5 rfl) ?_
    refine cV 6 (Vop.ldo rfl rfl rfl rfl isAgg3 0 rfl rfl) ?_
    refine RdC.call (i := 3) _ rfl rfl rfl rfl rfl rfl (fun _ _ => call95 _ _) (fun w _ hS => (by exact rsub_c (qa.map (fun b => ⟨b, 0, none⟩)) cA fa nd.x w (faAt hS 1 rfl (fun e => (hqa e).1)) (bT_max hBa'.eq))) ?_
    rintro v w1 w2 Y' hS he ho
    obtain ⟨r0, cr0, spr0, rfl, hr0, hcr0, hS'⟩ := gainN hS he ho
    refine ⟨_, hS', (by repeat (first | exact List.Sublist.refl _ | refine List.Sublist.cons _ ?_)), ?_⟩
    refine RdC.call (i := 7) _ rfl rfl rfl rfl rfl rfl (fun _ _ => call95 _ _) (fun w _ hS => (by exact rsub_c (qa.map (fun b => ⟨b, 0, none⟩)) cA fa nd.y w (faAt hS 2 rfl (fun e => (hqa e).1)) (bT_max hBa'.eq))) ?_
    rintro v w1 w2 Y' hS he ho
    obtain ⟨r9, cr9, spr9, rfl, hr9, hcr9, hS'⟩ := gainN hS he ho
    refine ⟨_, hS', (by repeat (first | exact List.Sublist.refl _ | refine List.Sublist.cons _ ?_)), ?_⟩
    refine cV 8 (Vop.asg rfl rfl rfl rfl) ?_
    refine cV 9 (Vop.asg rfl rfl rfl rfl) ?_
    refine RdC.done rfl ?_
    refine gE (gS ?_)
    refine GoH.drawCh 12 mixed ?_
    refine cV 0 (Vop.mv rfl rfl rfl rfl) ?_
    refine cV 1 (Vop.fldP rfl rfl rfl rfl underlying80 rfl (by exact sizeOf3) 3 rfl) ?_
    refine cV 2 (Vop.ldo rfl rfl rfl rfl isAgg3 2 rfl rfl) ?_
    refine cV 3 (Vop.mv rfl rfl rfl rfl) ?_
    refine cV 4 (Vop.mv rfl rfl rfl rfl) ?_
    refine cV 5 (Vop.mv rfl rfl rfl rfl) ?_
    refine RdC.call (i := 6) _ rfl rfl rfl rfl rfl rfl (fun _ _ => call71 _ _) (fun w _ hS => (by exact gand_c ⟨(r9.map (fun b => ⟨b, 0, none⟩)), cr9, _⟩ ⟨(qa.map (fun b => ⟨b, 0, none⟩)), cA, fa⟩ q (coT nd.g p q) w (faAt hS 0 rfl (fun e => (hr9 e).1)) hky.eq hq (faAt hS 3 rfl (fun e => (hqa e).1)) hBa'.eq hco)) ?_
    rintro v w1 w2 Y' hS he ho
    obtain ⟨r1, cr1, spr1, rfl, hr1, hcr1, hS'⟩ := gainN hS he ho
    refine ⟨_, hS', (by repeat (first | exact List.Sublist.refl _ | refine List.Sublist.cons _ ?_)), ?_⟩
    refine RdC.call (i := 7) _ rfl rfl rfl rfl rfl rfl (fun _ _ => call27 _ _) (fun w _ hS => (by exact gimp_c ⟨(r0.map (fun b => ⟨b, 0, none⟩)), cr0, _⟩ ⟨(r1.map (fun b => ⟨b, 0, none⟩)), cr1, bT (adT q (coT nd.g p q))⟩ p (adT q (coT nd.g p q)) w (faAt hS 2 rfl (fun e => (hr0 e).1)) hkx.eq hp (faAt hS 0 rfl (fun e => (hr1 e).1)) rfl (ad_ok hq hco))) ?_
    rintro v w1 w2 Y' hS he ho
    obtain ⟨r2, cr2, spr2, rfl, hr2, hcr2, hS'⟩ := gainN hS he ho
    refine ⟨_, hS', (by repeat (first | exact List.Sublist.refl _ | refine List.Sublist.cons _ ?_)), ?_⟩
    refine RdC.call (i := 8) _ rfl rfl rfl rfl rfl rfl (fun _ _ => call104 _ _) (fun w _ hS => (by exact gevery_c nd.g hg0 ⟨(r2.map (fun b => ⟨b, 0, none⟩)), cr2, bT (imT p (adT q (coT nd.g p q)))⟩ (imT p (adT q (coT nd.g p q))) w (faAt hS 0 rfl (fun e => (hr2 e).1)) rfl (im_ok hp (ad_ok hq hco)))) ?_
    rintro v w1 w2 Y' hS he ho
    obtain ⟨r3, cr3, spr3, rfl, hr3, hcr3, hS'⟩ := gainN hS he ho
    refine ⟨_, hS', (by repeat (first | exact List.Sublist.refl _ | refine List.Sublist.cons _ ?_)), ?_⟩
    refine RdC.callP (i := 9) rfl rfl rfl rfl rfl rfl (fun _ _ => call42 _ _) (fun w _ hS => (by exact gsameF_c (qb.map (fun b => ⟨b, 0, none⟩)) cb fb (r3.map (fun b => ⟨b, 0, none⟩)) cr3 _ w (faAt hS 7 rfl (fun e => (hqb e).1)) (faAt hS 0 rfl (fun e => (hr3 e).1)) (bT_max (Cf.eq hBb')) (bT_max rfl))) (by repeat (first | exact List.Sublist.refl _ | exact List.nil_sublist _ | refine List.Sublist.cons_cons _ ?_ | refine List.Sublist.cons _ ?_)) ?_
    refine cV 10 (Vop.asg rfl rfl rfl rfl) ?_
    refine RdC.done rfl ?_
    refine gE ?_
    refine gT func86 fun w' hS => ?_
    exact ⟨hS.ext, _, rfl, by rw [sameB_cf hBb' (ev_ok hg0 (im_ok hp (ad_ok hq hco))), decide_eq_true_eq, if_inj]; exact AxC.iff rfl⟩
end Go.Proofs.YtlihcmknfdckdaaDoor
namespace Go.Proofs.YtlihcmknfdckdaaDoor
open Go.RowKit Go.Proofs.Wit Tryd
/-! conjunctions of the reference -/
def fldA (t : Tr) (ts : List Tr) : Tr := ts.foldl (fun a b => .bin 5 0 0 0 a b) t
theorem fldA_ok {t : Tr} {ts : List Tr} (ht : t.ok) (h : ∀ u ∈ ts, u.ok) : (fldA t ts).ok := conj_ok (ts := t :: ts) (fun u hu => by
 rcases List.mem_cons.1 hu with rfl | hu
 ·exact ht
 ·exact h u hu)
set_option maxRecDepth 8000 in
theorem gall_c (A : Option Addr) (cA : Nat) (gs : List FV) (t0 : Tr) (ts : List Tr) (w : World) (hA : SlG w A gs) (hfa : ∀ g ∈ gs, FA w g.a g.f) (hts : gs.map FV.f = (t0 :: ts).map bT) (hok : ∀ u ∈ t0 :: ts, u.ok) (hl : gs.length ≤ 100) :
    Cn Tryd.prog 142 [.slice A gs.length cA] w (fun v w' => OwnN 80 w w' v (bT (conjT (t0 :: ts)))) := by
  have hgl : gs.length = ts.length + 1 := by have := congrArg List.length hts; simpa using this
  have hget : ∀ (k : Nat) (hk : k < gs.length), gs[k].f = bT ((t0 :: ts)[k]'(by simpa [hgl] using hk)) := fun k hk => by
    have h1 : (gs.map FV.f)[k]? = ((t0 :: ts).map bT)[k]? := by rw [hts]
    rw [List.getElem?_map, List.getElem?_map, List.getElem?_eq_getElem hk, List.getElem?_eq_getElem (by simpa [hgl] using hk)] at h1
    exact Option.some.inj h1
  have h00 : 0 < gs.length := by omega
  have ht0 := hok t0 (List.mem_cons_self ..)
  have hf0 : gs[0].f = bT t0 := hget 0 h00
  refine Cn.of func142 rfl rfl ?_
  refine gS (gR ?_); refine gAs ?_; refine gE (gS (gS (gR ?_))); refine gMv ?_; refine gBl underlying111 ?_
  refine gBx rfl rfl rfl rfl (bEqV (v := false) (beq_eq_false_iff_ne.2 (by omega))) ?_
  refine gE (GoH.condF rfl (gK (gS (gR ?_)))); refine gMv ?_
  refine GoH.v (Vop.idx (xs := gs.map FV.v) rfl rfl rfl rfl rfl underlying111 sizeOf23 ⟨_, hA⟩ (by simp) 0 ⟨rfl, by simpa using h00⟩) ?_
  refine GoH.v (Vop.ld rfl rfl rfl rfl isAgg23 (fun w _ hS => (SlG.at (SlG.ex0 hA hS.ext) 0 h00))) ?_
  refine gM rfl rfl rfl rfl rfl call54 (fun w _ hS => (by exact rcompact_c gs[0].a gs[0].c gs[0].f w ((hfa _ (List.getElem_mem h00)).ex0 hS.ext) (bT_max hf0))) ?_
  rintro v w1 w2 Y' hS he ho
  rw [subF_top, hf0, compF_bT ht0] at ho
  obtain ⟨q, cap, sp, rfl, hq, hcap, hS'⟩ := gainN hS he ho
  refine ⟨_, hS', ?_⟩
  refine gAs ?_; refine gE (gS (gS (gR ?_))); refine gAs ?_; refine gE (gB ?_)
  refine GoH.loop (σ := Nat × Option Nat × Nat × List Value) (fun z => [(0, .slice A gs.length cA), (3, osv z.2.1 (bT (fldA t0 (ts.take z.1))).length z.2.2.1), (4, .int .i64 ((z.1 : Int) + 1))]) (fun z => [(z.2.1, obN 80 (bT (fldA t0 (ts.take z.1))) z.2.2.2)])
    (fun z => z.1 ≤ ts.length ∧ (z.2.1 = none → (bT (fldA t0 (ts.take z.1))).length = 0 ∧ z.2.2.1 = 0) ∧ ((bT (fldA t0 (ts.take z.1))).flatMap NV.cells ++ z.2.2.2).length = z.2.2.1 * 6) (fun z => ts.length - z.1) (0, q, cap, sp) ⟨Nat.zero_le _, hq, hcap⟩ ⟨rfl, rfl, rfl, trivial⟩ (List.Sublist.refl _) (fun z hI IH => ?_)
  obtain ⟨k, q, cap, sp⟩ := z
  obtain ⟨hk, hq, hcap⟩ := hI
  dsimp only at hk hq hcap IH ⊢
  have hok1 : (fldA t0 (ts.take k)).ok := fldA_ok ht0 (fun u hu => hok u (List.mem_cons_of_mem _ (List.mem_of_mem_take hu)))
  refine gS (gS (gR ?_))
  iterate 2 refine gMv ?_
  refine gBl underlying111 ?_; refine gBi bLt ?_; refine gE ?_
  refine gC (fun hc => ?_) fun hc => ?_
  ·
   have hlt : k < ts.length := by simp at hc; omega
   have hk1 : k + 1 < gs.length := by omega
   have hfk : gs[k + 1].f = bT ts[k] := hget (k + 1) hk1
   have hokk := hok ts[k] (List.mem_cons_of_mem _ (List.getElem_mem hlt))
   have hsn : fldA t0 (ts.take (k + 1)) = adT (fldA t0 (ts.take k)) ts[k] := by rw [fldA, List.take_succ_eq_append_getElem hlt, List.foldl_append]; rfl
   refine gK (gS (gB (gR ?_)))
   iterate 3 refine gMv ?_
   refine GoH.v (Vop.idx (xs := gs.map FV.v) rfl rfl rfl rfl rfl underlying111 sizeOf23 ⟨_, hA⟩ (by simp) (k + 1) ⟨by omega, by simpa using hk1⟩) ?_
   refine GoH.v (Vop.ld rfl rfl rfl rfl isAgg23 (fun w _ hS => (SlG.at (SlG.ex0 hA hS.ext) (k + 1) hk1))) ?_
   refine gM rfl rfl rfl rfl rfl call71 (fun w _ hS => (by exact gand_c ⟨q.map (fun b => ⟨b, 0, none⟩), cap, bT (fldA t0 (ts.take k))⟩ gs[k + 1] (fldA t0 (ts.take k)) ts[k] w (faAt hS 0 rfl (fun e => (hq e).1)) rfl hok1 ((hfa _ (List.getElem_mem hk1)).ex0 hS.ext) hfk hokk)) ?_
   rintro v w1 w2 Y' hS he ho
   rw [← hsn] at ho
   obtain ⟨q', cap', sp', rfl, hq', hcap', hS'⟩ := gainN hS he ho
   refine ⟨_, hS', ?_⟩
   refine gAs ?_; refine gE (gIb (gR ?_)); refine gMv ?_; refine gBx rfl rfl rfl rfl (bAdd (by omega)) ?_; refine gAs ?_; refine gE ?_
   exact IH (k + 1, q', cap', sp') _ _ ⟨hlt, hq', hcap'⟩ (by dsimp only; omega) ⟨rfl, rfl, by simp; rfl, trivial⟩ (.cons_cons _ (List.nil_sublist _))
  ·
   have hge : ¬ k < ts.length := by simp at hc; omega
   obtain rfl : k = ts.length := by omega
   rw [List.take_length] at hq hcap ⊢
   refine GoH.exit rfl (gS (gR ?_))
   refine gMv ?_; refine gAs ?_; refine gE ?_
   refine gT func142 fun w' hS => ?_
   exact ⟨hS.ext, OwnN.mk hS 0 rfl rfl hq hcap⟩
end Go.Proofs.YtlihcmknfdckdaaDoor
namespace Go.Proofs.YtlihcmknfdckdaaDoor
open Go.RowKit Go.Proofs.Wit Tryd
/-! everybody's knowledge and the language: the reference -/
theorem infoNg : (Tryd.prog.info? 23).map (fun i => (i.zero, i.size, i.bytes)) = some (some (Value.slice none 0 0), 1, 24) := by kernel_rfl
theorem agTo_ne {g : Nat} (h : 1 ≤ g ∧ g < 16) : agTo g 4 ≠ [] := by
 have key : ∀ j : Fin 16, 1 ≤ j.val → agTo j.val 4 ≠ [] := by decide
 exact key ⟨g, h.2⟩ h.1
set_option maxRecDepth 8000 in
theorem gevb_c (gn : Nat) (hg0 : 1 ≤ gn ∧ gn < 16) (x : FV) (p : Tr) (w : World) (hx : FA w x.a x.f) (hxf : x.f = bT p) (hp : p.ok) :
    Cn Tryd.prog 134 [.int .i64 gn, x.v] w (fun v w' => OwnN 80 w w' v (bT (allT gn p))) := by
  obtain ⟨i1, hi1, hz1, hsz1, hby1⟩ := info_parts infoNg
  refine Cn.of func134 rfl rfl ?_
  refine gS (gR ?_); refine gAs ?_; refine gE (gS (gR ?_)); refine gAs ?_; refine gE (gS (gS (gR ?_))); refine gAs ?_; refine gE (gB ?_)
  refine GoH.addNone (ob FV.v 23 [] []) ?_
  refine GoH.loop (σ := Nat × Option Nat × Nat × List FV × List Value × Hl) (fun z => [(0, .int .i64 gn), (1, x.v), (5, osv z.2.1 z.2.2.2.1.length z.2.2.1), (6, .int .i64 z.1)])
    (fun z => [(z.2.1, ob FV.v 23 z.2.2.2.1 z.2.2.2.2.1)] ++ z.2.2.2.2.2)
    (fun z => z.1 ≤ 4 ∧ (z.2.1 = none → z.2.2.2.1.length = 0 ∧ z.2.2.1 = 0) ∧ (z.2.2.2.1.map FV.v ++ z.2.2.2.2.1).length = z.2.2.1 ∧ (∀ g ∈ z.2.2.2.1, g.In 80 z.2.2.2.2.2) ∧ z.2.2.2.1.map FV.f = (kwL gn z.1 p).map bT)
    (fun z => 4 - z.1) (0, none, 0, [], [], []) ⟨Nat.zero_le _, fun _ => ⟨rfl, rfl⟩, rfl, (fun _ h => by cases h), rfl⟩ ⟨rfl, rfl, rfl, rfl, trivial⟩ (List.Sublist.refl _) (fun z hI IH => ?_)
  obtain ⟨k, q, cap, gs, sp, H⟩ := z
  obtain ⟨hk, hq, hcap, hin, hgs⟩ := hI
  dsimp only at hk hq hcap hin hgs IH ⊢
  have hgl : gs.length ≤ 4 := by
    have h1 := congrArg List.length hgs
    have h2 := @agTo_len gn k
    simp only [List.length_map, kwL] at h1
    omega
  refine gS (gS (gR ?_)); refine gMv ?_; refine gBi bLt ?_; refine gE ?_
  refine gC (fun hc => ?_) fun hc => ?_
  ·
   have hk4 : k < 4 := by simp at hc; omega
   have hdv : gn / 2 ^ k ≤ gn := Nat.div_le_self _ _
   refine gK (gS (gB (gS (gR ?_))))
   iterate 2 refine gMv ?_
   refine gBx rfl rfl rfl rfl (bShrN (x := gn) (j := k) rfl (by omega) (by omega)) ?_
   refine gBx rfl rfl rfl rfl (bRem2N) ?_; refine gBi bEq ?_; refine gE ?_
   refine gC (fun hc => ?_) fun hc => ?_
   ·
    have h1 : gb gn k = 1 := by
      have : ((gn / 2 ^ k % 2 : Nat) : Int) = 1 := by simpa using hc
      show gn / 2 ^ k % 2 = 1
      omega
    refine gR ?_
    iterate 3 refine gMv ?_
    refine gM rfl rfl rfl rfl rfl call36 (fun w _ hS => (by exact gknow_c (k : Int) (by omega) x p w (hx.ex0 hS.ext) hxf hp)) ?_
    rintro v w1 w2 Y' hS he ho
    obtain ⟨qf, capf, spf, rfl, hqf, hcapf, hS'⟩ := gainN hS he ho
    refine ⟨_, hS', ?_⟩
    refine GoH.bsN (c := [_]) rfl rfl rfl rfl underlying111 sizeOf23 zeroValue23 rfl rfl (fun b20 => ?_)
    refine GoH.appE FV.v (news := [⟨qf.map (fun b => ⟨b, 0, none⟩), capf, bT (kwT (k : Int) p)⟩]) (spn := []) (xs := gs) (sp := sp) (q := q) rfl rfl rfl rfl rfl underlying111 hi1 hz1 hsz1 rfl hq 2 rfl 0 rfl hcap rfl (by decide) (fun _ => rfl) (by simp [maxLen]; omega) (by simp [hby1]; omega) (fun b' sp' cap' hlen => ?_)
    refine gAs ?_; refine gE (gIb (gR ?_)); refine gMv ?_; refine gBx rfl rfl rfl rfl (bAdd (by omega)) ?_; refine gAs ?_; refine gE ?_
    refine GoH.pickT (pre := [_, _, _]) (pre' := [_, _]) H [2, 1] (by decide) rfl ?_
    refine IH (k + 1, some b', cap', gs ++ [⟨qf.map (fun b => ⟨b, 0, none⟩), capf, bT (kwT (k : Int) p)⟩], sp', (qf, obN 80 (bT (kwT (k : Int) p)) spf) :: H) _ _ ⟨hk4, (fun e => by cases e), hlen, fun g hg => ?_, ?_⟩ (by dsimp only; omega) ⟨rfl, rfl, rfl, rfl, trivial⟩ (List.Sublist.refl _)
    · rcases List.mem_append.1 hg with hg | hg
      · exact (hin g hg).mono (List.subset_cons_self _ _)
      · rw [List.mem_singleton.1 hg]; exact ⟨qf, spf, List.mem_cons_self .., rfl, hqf, hcapf⟩
    · dsimp only; rw [List.map_append, hgs, kwL, kwL, agTo_yes h1, List.map_append, List.map_append]; rfl
   ·
    have h1 : gb gn k ≠ 1 := by
      have : ¬ ((gn / 2 ^ k % 2 : Nat) : Int) = 1 := by simpa using hc
      show ¬ gn / 2 ^ k % 2 = 1
      omega
    refine gK (gIb (gR ?_)); refine gMv ?_; refine gBx rfl rfl rfl rfl (bAdd (by omega)) ?_; refine gAs ?_; refine gE ?_
    exact IH (k + 1, q, cap, gs, sp, H) _ _ ⟨hk4, hq, hcap, hin, by dsimp only; rw [hgs, kwL, kwL, agTo_no h1]⟩ (by dsimp only; omega) ⟨rfl, rfl, rfl, rfl, trivial⟩ (List.Sublist.refl _)
  ·
   have hge : ¬ k < 4 := by simp at hc; omega
   obtain rfl : k = 4 := by omega
   have hok4 := kwL_ok (g := gn) (Nat.le_refl 4) hp
   obtain ⟨t0, ts, hkw⟩ : ∃ t0 ts, kwL gn 4 p = t0 :: ts := by
     cases h : kwL gn 4 p with
     | nil => exact absurd (List.map_eq_nil_iff.1 h) (agTo_ne hg0)
     | cons t0 ts => exact ⟨t0, ts, rfl⟩
   rw [hkw] at hgs hok4
   have hall : allT gn p = conjT (t0 :: ts) := by rw [allT, hkw]
   rw [hall]
   refine GoH.exit rfl (gS (gR ?_))
   refine gMv ?_
   refine gM rfl rfl rfl rfl rfl call142 (fun w _ hS => (by exact gall_c (q.map (fun b => ⟨b, 0, none⟩)) cap gs t0 ts w (slgAt hS 0 rfl (fun e => (hq e).1)) (fun g hg => ((hin g hg).mono (List.subset_append_right [_] H)).at hS) hgs hok4 (by omega))) ?_
   rintro v w1 w2 Y' hS he ho
   obtain ⟨r1, cr1, spr1, rfl, hr1, hcr1, hS'⟩ := gainN hS he ho
   refine ⟨_, hS', ?_⟩
   refine gAs ?_; refine gE ?_
   refine gT func134 fun w' hS => ?_
   exact ⟨hS.ext, OwnN.mk hS 0 rfl rfl hr1 hcr1⟩
theorem gevb2_c (gn : Nat) (hg0 : 1 ≤ gn ∧ gn < 16) (x : FV) (p : Tr) (w : World) (hx : FA w x.a x.f) (hxf : x.f = bT p) (hp : p.ok) :
  Cn Tryd.prog 112 [.int .i64 gn, x.v] w (fun v w' => OwnN 80 w w' v (bT (allT gn p))) := by
 refine Cn.of func112 rfl rfl ?_
 refine gS (gR ?_); refine gAs ?_; refine gE (gS (gR ?_))
 iterate 2 refine gMv ?_
 refine gM rfl rfl rfl rfl rfl call134 (fun w _ hS => (by exact gevb_c gn hg0 x p w (hx.ex0 hS.ext) hxf hp)) ?_
 rintro v w1 w2 Y' hS he ho
 obtain ⟨r1, cr1, spr1, rfl, hr1, hcr1, hS'⟩ := gainN hS he ho
 refine ⟨_, hS', ?_⟩
 refine gAs ?_; refine gE ?_
 refine gT func112 fun w' hS => ?_
 exact ⟨hS.ext, OwnN.mk hS 0 rfl rfl hr1 hcr1⟩
end Go.Proofs.YtlihcmknfdckdaaDoor
namespace Go.Proofs.YtlihcmknfdckdaaDoor
open Go.RowKit Go.Proofs.Wit Tryd
/-! the axiom of everybody that the reference looks for -/
set_option maxRecDepth 8000 in
theorem gaxE_c (a : Option Addr) (ca : Nat) (f : List NV) (t : Tr) (w : World) (ha : FA w a f) (hf : Cf f t) :
    Cn Tryd.prog 85 [.slice a f.length ca] w (fun v _ => ∃ b, v = .bool b ∧ (b = true ↔ AxE t)) := by
  refine Cn.of func85 rfl rfl ?_
  refine gS (gR ?_); refine gAs ?_; refine gE (gS (gR ?_)); refine gMv ?_
  refine gM rfl rfl rfl rfl rfl call68 (fun w _ hS => (by exact gparts_c a ca f (some t) 8 w (by decide) (ha.ex0 hS.ext) hf)) ?_
  rintro v w1 w2 Y' hS he ⟨qa, cA, fa, spa, qb, cb, fb, spb, rfl, hqa, hqb, hnew, hBa, hBb⟩
  refine ⟨_, hS.gainL he hnew, ?_⟩
  refine gMv ?_
  iterate 3 refine gEx ?_
  iterate 3 refine gAs ?_
  refine gE (gS (gR ?_)); refine gMv ?_
  refine gM rfl rfl rfl rfl rfl call101 (fun w _ hS => (by exact gtop_c (qa.map (fun b => ⟨b, 0, none⟩)) cA fa (_) 11 w (by decide) (faAt hS 0 rfl (fun e => (hqa e).1)) hBa)) ?_
  rintro v w1 w2 Y' hS he ⟨nd, rfl, hnd⟩
  refine ⟨_, hS.later he, ?_⟩
  refine gMv ?_
  iterate 2 refine gEx ?_
  refine GoH.alc rfl rfl rfl (fun _ => zeroValue80 _) (fun b6 => ?_)
  refine GoH.stB rfl rfl rfl rfl sizeOf80 0 rfl rfl rfl rfl ?_
  refine gAs ?_; refine gE (gS ?_)
  refine GoH.drawCh 17 mixed ?_
  refine cV 0 (Vop.mv rfl rfl rfl rfl) ?_
  refine cV 1 (Vop.mv rfl rfl rfl rfl) ?_
  refine RdC.cases (d := 20) rfl (fun hc => ?_) (fun hc => ?_)
  ·
   have h8 : opP (some t) = 8 := by simpa using hc
   rw [if_pos h8] at hBa hnd ⊢
   rw [if_pos ⟨h8, rfl⟩] at hBb
   refine cV 2 (Vop.mv rfl rfl rfl rfl) ?_
   refine cV 3 (Vop.pickT rfl rfl rfl rfl rfl) ?_
   refine cV 4 (Vop.mv rfl rfl rfl rfl) ?_
   refine RdC.cases (d := 23) rfl (fun hc => ?_) (fun hc => ?_)
   ·
    have h11 : opP (kdA (some t)) = 11 := by simpa using hc
    obtain ⟨P0, Q0, rfl⟩ := top_bin hf.ok h8 (.inr (.inr (.inr rfl)))
    obtain ⟨g, G, hA, hg0, hG⟩ := (OkP'.of hf.ok).a.ev h11
    obtain ⟨gn, rfl⟩ : ∃ gn : Nat, g = (gn : Int) := ⟨g.toNat, by omega⟩
    obtain rfl : P0 = evT gn G := Option.some.inj hA
    have hBa' : Cf fa (evT gn G) := hBa
    have hBb' : Cf fb Q0 := hBb
    obtain ⟨hlt, hn⟩ := hnd h11
    have hng : nd.g = (gn : Int) := by rw [hn]; exact (hBa'.flds hlt).2.2
    have hk : Cf (subF fa nd.x) G := by have := hBa'.kidA hlt (by show (4 : Int) ≤ 11; decide); rw [← hn] at this; exact this
    obtain ⟨op2, i2, e2, g2, x2, y2⟩ := nd
    obtain rfl : g2 = (gn : Int) := hng
    dsimp only at hk
    refine cV 5 (Vop.mv rfl rfl rfl rfl) ?_
    refine cV 6 (Vop.fldP rfl rfl rfl rfl underlying80 rfl (by exact sizeOf3) 3 rfl) ?_
    refine cV 7 (Vop.ldo rfl rfl rfl rfl isAgg3 0 rfl rfl) ?_
    refine cV 8 (Vop.mv rfl rfl rfl rfl) ?_
    refine cV 9 (Vop.fldP rfl rfl rfl rfl underlying80 rfl (by exact sizeOf3) 4 rfl) ?_
    refine cV 10 (Vop.ldo rfl rfl rfl rfl isAgg3 0 rfl rfl) ?_
    refine RdC.call (i := 11) _ rfl rfl rfl rfl rfl rfl (fun _ _ => call95 _ _) (fun w _ hS => (by exact rsub_c (qa.map (fun b => ⟨b, 0, none⟩)) cA fa x2 w (faAt hS 1 rfl (fun e => (hqa e).1)) (bT_max hBa'.eq))) ?_
    rintro v w1 w2 Y' hS he ho
    obtain ⟨r0, cr0, spr0, rfl, hr0, hcr0, hS'⟩ := gainN hS he ho
    refine ⟨_, hS', (by repeat (first | exact List.Sublist.refl _ | refine List.Sublist.cons _ ?_)), ?_⟩
    refine RdC.call (i := 12) _ rfl rfl rfl rfl rfl rfl (fun _ _ => call112 _ _) (fun w _ hS => (by exact gevb2_c gn ⟨by omega, by omega⟩ ⟨(r0.map (fun b => ⟨b, 0, none⟩)), cr0, _⟩ G w (faAt hS 0 rfl (fun e => (hr0 e).1)) hk.eq hG)) ?_
    rintro v w1 w2 Y' hS he ho
    obtain ⟨r3, cr3, spr3, rfl, hr3, hcr3, hS'⟩ := gainN hS he ho
    refine ⟨_, hS', (by repeat (first | exact List.Sublist.refl _ | refine List.Sublist.cons _ ?_)), ?_⟩
    refine RdC.callP (i := 13) rfl rfl rfl rfl rfl rfl (fun _ _ => call42 _ _) (fun w _ hS => (by exact gsameF_c (qb.map (fun b => ⟨b, 0, none⟩)) cb fb (r3.map (fun b => ⟨b, 0, none⟩)) cr3 _ w (faAt hS 4 rfl (fun e => (hqb e).1)) (faAt hS 0 rfl (fun e => (hr3 e).1)) (bT_max (Cf.eq hBb')) (bT_max rfl))) (by repeat (first | exact List.Sublist.refl _ | exact List.nil_sublist _ | refine List.Sublist.cons_cons _ ?_ | refine List.Sublist.cons _ ?_)) ?_
    refine cV 14 (Vop.pickT rfl rfl rfl rfl rfl) ?_
    refine cV 15 (Vop.asg rfl rfl rfl rfl) ?_
    refine RdC.done rfl ?_
    refine gE ?_
    refine gT func85 fun w' hS => ?_
    exact ⟨hS.ext, _, rfl, by rw [sameB_cf hBb' (allT_ok hG), decide_eq_true_eq, if_inj]; exact AxE.iff (g := (gn : Int)) rfl⟩
   ·
    have hno : ¬ opP (kdA (some t)) = 11 := by simpa using hc
    refine cN 5 ?_
    refine cN 6 ?_
    refine cN 7 ?_
    refine cN 8 ?_
    refine cN 9 ?_
    refine cN 10 ?_
    refine cN 11 ?_
    refine cN 12 ?_
    refine cN 13 ?_
    refine cV 14 (Vop.pickF rfl rfl rfl rfl rfl) ?_
    refine cV 15 (Vop.asg rfl rfl rfl rfl) ?_
    refine RdC.done rfl ?_
    refine gE ?_
    refine gT func85 fun w' hS => ?_
    exact ⟨hS.ext, false, rfl, fun h => (by cases h), fun h => absurd h.gd hno⟩
  ·
   have hno : ¬ opP (some t) = 8 := by simpa using hc
   refine cN 2 ?_
   refine cV 3 (Vop.pickF rfl rfl rfl rfl rfl) ?_
   refine cV 4 (Vop.mv rfl rfl rfl rfl) ?_
   refine cN 5 ?_
   refine cN 6 ?_
   refine cN 7 ?_
   refine cN 8 ?_
   refine cN 9 ?_
   refine cN 10 ?_
   refine cN 11 ?_
   refine cN 12 ?_
   refine cN 13 ?_
   refine cV 14 (Vop.pickF rfl rfl rfl rfl rfl) ?_
   refine cV 15 (Vop.asg rfl rfl rfl rfl) ?_
   refine RdC.done rfl ?_
   refine gE ?_
   refine gT func85 fun w' hS => ?_
   exact ⟨hS.ext, false, rfl, fun h => (by cases h), fun h => absurd h.im hno⟩
end Go.Proofs.YtlihcmknfdckdaaDoor
namespace Go.Proofs.YtlihcmknfdckdaaDoor
open Go.RowKit Go.Proofs.Wit Tryd
/-! the language of proofs: the reference -/
theorem frO_11 {op : Int} (ho : 1 ≤ op ∧ op ≤ 21) : andN (frO op).toNat 11 = 0 ↔ op ≤ 11 ∨ op = 13 :=
 op_cases (p := fun op => andN (frO op).toNat 11 = 0 ↔ op ≤ 11 ∨ op = 13) (by decide) ho
theorem lang_iff {c : List NV} (hO : NodesOk c) : andN (frgL c) 11 = 0 ↔ ∀ (k : Nat) (hk : k < c.length), c[k].op ≤ 11 ∨ c[k].op = 13 := by
 rw [frg_zero]
 constructor
 ·exact fun h k hk => (frO_11 (hO k hk).op).1 (h c[k] (List.getElem_mem hk))
 ·intro h n hn
  obtain ⟨k, hk, rfl⟩ := List.mem_iff_getElem.1 hn
  exact (frO_11 (hO k hk).op).2 (h k hk)
set_option maxRecDepth 8000 in
theorem glang_c (a : Option Addr) (ca : Nat) (f : List NV) (w : World) (ha : FA w a f) (hl : f.length ≤ maxLen) : Cn Tryd.prog 57 [.slice a f.length ca] w (fun v _ => v = .bool (decide (andN (frgL (compF f)) 11 = 0))) := by
  obtain ⟨c, hcE⟩ : ∃ c, c = compF f := ⟨_, rfl⟩
  have hO : NodesOk c := by rw [hcE]; exact compF_nodes f
  have hcl : c.length ≤ 200 := by rw [hcE]; exact compF_le f
  have hiff := lang_iff hO
  rw [← hcE]
  refine Cn.of func57 rfl rfl ?_
  refine gS (gR ?_); refine gAs ?_; refine gE (gS (gS (gR ?_))); refine gMv ?_
  refine gM rfl rfl rfl rfl rfl call54 (fun w _ hS => (by exact rcompact_c a ca f w (ha.ex0 hS.ext) hl)) ?_
  rintro v w1 w2 Y' hS he ho
  rw [subF_top, ← hcE] at ho
  obtain ⟨qc, capc, spc, rfl, hqc, hcapc, hS'⟩ := gainN hS he ho
  refine ⟨_, hS', ?_⟩
  refine gBl underlying23 ?_; refine gMv ?_; refine gE (gB ?_)
  refine GoH.loop (σ := Nat) (fun k => [(6, osv qc c.length capc), (7, .int .i64 c.length), (8, .int .i64 k)]) (fun _ => [(qc, obN 80 c spc)]) (fun k => k ≤ c.length ∧ ∀ (j : Nat) (hj : j < c.length), j < k → c[j].op ≤ 11 ∨ c[j].op = 13) (fun k => c.length - k) 0 ⟨Nat.zero_le _, fun j _ hj => absurd hj (Nat.not_lt_zero _)⟩ ⟨rfl, rfl, rfl, trivial⟩ (List.Sublist.refl _) (fun k hI IH => ?_)
  obtain ⟨hk, hall⟩ := hI
  refine gS (gR ?_); refine gBi bLt ?_; refine gE (gS ?_)
  refine gC (fun hc => ?_) fun hc => ?_
  ·
   have hlt : k < c.length := by simpa using hc
   obtain ⟨b, rfl⟩ : ∃ b, qc = some b := by
     cases qc with
     | none => have := (hqc rfl).1; omega
     | some b => exact ⟨b, rfl⟩
   have hst : (c[k].op ≤ 11 ∨ c[k].op = 13) → ∀ (j : Nat) (hj : j < c.length), j < k + 1 → c[j].op ≤ 11 ∨ c[j].op = 13 := fun h j hj hjk => by
     by_cases e : j = k
     · subst e; exact h
     · exact hall j hj (by omega)
   refine gK (gS (gB (gS (gR ?_))))
   refine GoH.v (Vop.idxS rfl rfl rfl rfl rfl underlying23 sizeOf80 k ⟨rfl, hlt⟩) ?_
   refine GoH.v (Vop.ldN (cs := NV.cells c[k]) rfl rfl rfl rfl isAgg80 sizeOf80 (fun w _ hS => Sl.many (enc := NV.cells) (sz := 6) (a := some ⟨b, 0, none⟩) (Sl.blk (hS.get (j := 0) rfl)) (fun _ => rfl) hlt)) ?_
   refine GoH.alc rfl rfl rfl (fun _ => zeroValue80 _) (fun b4 => ?_)
   refine GoH.stB rfl rfl rfl rfl sizeOf80 0 rfl rfl rfl rfl ?_
   refine gE (gS (gR ?_)); refine gFp underlying80 sizeOf3 0 ?_; refine gLo isAgg3 0 ?_; refine gBi bGt ?_; refine gMv ?_
   refine gCs 15 (fun hc => ?_) fun hc => ?_
   ·
    have h11 : c[k].op > 11 := by simpa using hc
    refine gFp underlying80 sizeOf3 0 ?_; refine gLo isAgg3 0 ?_; refine gBi bNe ?_; refine gPt ?_; refine gE ?_
    refine gC (fun hc => ?_) fun hc => ?_
    ·
     have h13 : c[k].op ≠ 13 := by simpa using hc
     have hno : ¬ andN (frgL c) 11 = 0 := fun h => by rcases hiff.1 h k hlt with h | h <;> omega
     refine gS (gR ?_); refine gAs ?_; refine gE ?_
     refine gT func57 fun w' hS => ?_
     exact ⟨hS.ext, by rw [decide_eq_false hno]; rfl⟩
    ·
     have h13 : c[k].op = 13 := by simpa using hc
     refine gK (gIb (gR ?_)); refine gBx rfl rfl rfl rfl (bAdd (by omega)) ?_; refine gMv ?_; refine gE ?_
     exact IH (k + 1) _ _ ⟨hlt, hst (.inr h13)⟩ (by omega) ⟨rfl, rfl, rfl, trivial⟩ (.cons _ (List.Sublist.refl _))
   ·
    have h11 : ¬ c[k].op > 11 := by simpa using hc
    iterate 3 refine gNo ?_
    refine gPf ?_; refine gE (GoH.condF rfl (gK (gIb (gR ?_)))); refine gBx rfl rfl rfl rfl (bAdd (by omega)) ?_; refine gMv ?_; refine gE ?_
    exact IH (k + 1) _ _ ⟨hlt, hst (.inl (by omega))⟩ (by omega) ⟨rfl, rfl, rfl, trivial⟩ (.cons _ (List.Sublist.refl _))
  ·
   have hge : ¬ k < c.length := by simpa using hc
   have hy : andN (frgL c) 11 = 0 := hiff.2 (fun j hj => hall j hj (by omega))
   refine GoH.exit rfl (gS (gR ?_))
   refine gAs ?_; refine gE ?_
   refine gT func57 fun w' hS => ?_
   exact ⟨hS.ext, by rw [decide_eq_true hy]; rfl⟩
theorem glang2_c (a : Option Addr) (ca : Nat) (f : List NV) (w : World) (ha : FA w a f) (hl : f.length ≤ maxLen) : Cn Tryd.prog 26 [.slice a f.length ca] w (fun v _ => v = .bool (decide (andN (frgL (compF f)) 11 = 0))) := by
 refine Cn.of func26 rfl rfl ?_
 refine gS (gR ?_); refine gAs ?_; refine gE (gS (gR ?_)); refine gMv ?_
 refine gP rfl rfl rfl rfl rfl call57 (fun w _ hS => (by exact glang_c a ca f w (ha.ex0 hS.ext) hl)) ?_
 refine gAs ?_; refine gE ?_
 refine gT func26 fun w' hS => ?_
 exact ⟨hS.ext, rfl⟩
end Go.Proofs.YtlihcmknfdckdaaDoor
namespace Go.Proofs.YtlihcmknfdckdaaDoor
open Go.RowKit Go.Proofs.Wit Tryd
/-! values: the reference -/
theorem gprop_c (op : Int) (w : World) : Cn Tryd.prog 110 [.int .i64 op] w (fun v _ => v = .bool (decide (1 ≤ op ∧ op ≤ 8))) := by
  refine Cn.of func110 rfl rfl ?_
  refine gS (gR ?_); refine gAs ?_; refine gE (gS (gR ?_)); refine gMv ?_; refine gBi bGe ?_; refine gMv ?_
  refine gCs 5 (fun hc => ?_) fun hc => ?_
  ·
   have h1 : 1 ≤ op := by simpa using hc
   refine gMv ?_; refine gBi bLe ?_; refine gPt ?_; refine gAs ?_; refine gE ?_
   refine gT func110 fun w' hS => ?_
   exact ⟨hS.ext, by simp [h1]; rfl⟩
  ·
   have h1 : ¬ 1 ≤ op := by simp at hc; omega
   iterate 2 refine gNo ?_
   refine gPf ?_; refine gAs ?_; refine gE ?_
   refine gT func110 fun w' hS => ?_
   exact ⟨hS.ext, by simp [h1]; rfl⟩
def SlBo (w : World) (a : Option Addr) (vs : List Bool) : Prop := Sl w a (vs.map Value.bool)
theorem SlBo.ex0 {w0 w : World} {a : Option Addr} {vs : List Bool} (h : SlBo w0 a vs) (e : Ex [] w0 w) : SlBo w a vs := Sl.ex h e (by simp)
set_option maxRecDepth 8000 in
theorem gval_c (nd : NV) (a : Option Addr) (ca : Nat) (vs : List Bool) (kx ky : Nat) (w : World) (hV : SlBo w a vs) (hop : 1 ≤ nd.op ∧ nd.op ≤ 8) (hi3 : nd.op = 3 → 0 ≤ nd.i ∧ nd.i < 62) (ex : nd.x = kx) (ey : nd.y = ky) (hxl' : usX nd.op = true → kx < vs.length) (hyl' : usY nd.op = true → ky < vs.length) :
    Cn Tryd.prog 111 [nd.v, .slice a vs.length ca, .int .i64 0] w (fun v _ => v = .bool (cmbB nd.op (vs.getD kx false) (vs.getD ky false))) := by
  have gx : ∀ (h : kx < vs.length), vs[kx] = vs.getD kx false := fun h => by simp [List.getD_eq_getElem?_getD, h]
  have gy : ∀ (h : ky < vs.length), vs[ky] = vs.getD ky false := fun h => by simp [List.getD_eq_getElem?_getD, h]
  refine Cn.of func111 rfl rfl ?_
  refine gS (gR ?_)
  refine GoH.bx rfl rfl rfl rfl (fun b3 => ?_)
  refine gAs ?_; refine gE (gS (gS (gR ?_))); refine gFp underlying80 sizeOf3 0 ?_; refine gLo isAgg3 0 ?_; refine gE (gB (gS (gR ?_))); refine gBi bEq ?_; refine gAs ?_; refine gE ?_
  refine gC (fun hc => ?_) fun hc => ?_
  ·
   have h1 : nd.op = 1 := by simpa using hc
   refine gS (gR ?_); refine gAs ?_; refine gE ?_
   refine gT func111 fun w' hS => ?_
   exact ⟨hS.ext, by rw [h1]; rfl⟩
  ·
   have h1 : ¬ nd.op = 1 := by simpa using hc
   refine gS (gR ?_); refine gBi bEq ?_; refine gAs ?_; refine gE ?_
   refine gC (fun hc => ?_) fun hc => ?_
   ·
    have h2 : nd.op = 2 := by simpa using hc
    refine gS (gR ?_); refine gAs ?_; refine gE ?_
    refine gT func111 fun w' hS => ?_
    exact ⟨hS.ext, by rw [h2]; rfl⟩
   ·
    have h2 : ¬ nd.op = 2 := by simpa using hc
    refine gS (gR ?_); refine gBi bEq ?_; refine gAs ?_; refine gE ?_
    refine gC (fun hc => ?_) fun hc => ?_
    ·
     have h3 : nd.op = 3 := by simpa using hc
     obtain ⟨hi0, hi1⟩ := hi3 h3
     obtain ⟨j, hj⟩ : ∃ j : Nat, nd.i = (j : Int) := ⟨nd.i.toNat, by omega⟩
     have hj2 : 0 / 2 ^ j = 0 := Nat.zero_div _
     refine gS (gR ?_); refine gMv ?_; refine gFp underlying80 sizeOf3 1 ?_; refine gLo isAgg3 0 ?_
     refine GoH.v (Vop.conv rfl rfl rfl (cInt (k := .u64) underlying3 underlying96 (wrapN64 (by omega))) rfl) ?_
     refine gBx rfl rfl rfl rfl (bShrN (x := 0) (j := j) hj (by decide) (by omega)) ?_
     refine gBx rfl rfl rfl rfl (bAndI (a := 0 / 2 ^ j) (b := 1) (by omega) (by decide)) ?_
     refine gBi bEq ?_; refine gAs ?_; refine gE ?_
     refine gT func111 fun w' hS => ?_
     exact ⟨hS.ext, by rw [h3, hj2]; rfl⟩
    ·
     have h3 : ¬ nd.op = 3 := by simpa using hc
     refine gS (gR ?_); refine gBi bEq ?_; refine gAs ?_; refine gE ?_
     refine gC (fun hc => ?_) fun hc => ?_
     ·
      have h4 : nd.op = 4 := by simpa using hc
      have hxl : kx < vs.length := hxl' (by rw [h4]; rfl)
      refine gS (gR ?_); refine gMv ?_; refine gFp underlying80 sizeOf3 4 ?_; refine gLo isAgg3 0 ?_
      refine GoH.v (Vop.idx (xs := vs.map Value.bool) rfl rfl rfl rfl rfl underlying85 sizeOf4 ⟨_, hV⟩ (by simp) kx ⟨ex, by simpa using hxl⟩) ?_
      refine GoH.v (Vop.ld rfl rfl rfl rfl isAgg4 (fun w _ hS => (Sl.at (SlBo.ex0 hV hS.ext) kx hxl))) ?_
      refine gUn uNot ?_; refine gAs ?_; refine gE ?_
      refine gT func111 fun w' hS => ?_
      exact ⟨hS.ext, by rw [h4, gx hxl]; rfl⟩
     ·
      have h4 : ¬ nd.op = 4 := by simpa using hc
      refine gS (gR ?_); refine gBi bEq ?_; refine gAs ?_; refine gE ?_
      refine gC (fun hc => ?_) fun hc => ?_
      ·
       have h5 : nd.op = 5 := by simpa using hc
       have hxl : kx < vs.length := hxl' (by rw [h5]; rfl)
       have hyl : ky < vs.length := hyl' (by rw [h5]; rfl)
       refine gS (gR ?_); refine gMv ?_; refine gFp underlying80 sizeOf3 4 ?_; refine gLo isAgg3 0 ?_
       refine GoH.v (Vop.idx (xs := vs.map Value.bool) rfl rfl rfl rfl rfl underlying85 sizeOf4 ⟨_, hV⟩ (by simp) kx ⟨ex, by simpa using hxl⟩) ?_
       refine GoH.v (Vop.ld rfl rfl rfl rfl isAgg4 (fun w _ hS => (Sl.at (SlBo.ex0 hV hS.ext) kx hxl))) ?_
       refine gMv ?_
       refine gCs 37 (fun hc => ?_) fun hc => ?_
       ·
        have hb : vs.getD kx false = true := by rw [← gx hxl]; simpa using hc
        refine gMv ?_; refine gFp underlying80 sizeOf3 5 ?_; refine gLo isAgg3 0 ?_
        refine GoH.v (Vop.idx (xs := vs.map Value.bool) rfl rfl rfl rfl rfl underlying85 sizeOf4 ⟨_, hV⟩ (by simp) ky ⟨ey, by simpa using hyl⟩) ?_
        refine GoH.v (Vop.ld rfl rfl rfl rfl isAgg4 (fun w _ hS => (Sl.at (SlBo.ex0 hV hS.ext) ky hyl))) ?_
        refine gPt ?_; refine gAs ?_; refine gE ?_
        refine gT func111 fun w' hS => ?_
        exact ⟨hS.ext, by rw [h5, hb, gy hyl]; rfl⟩
       ·
        have hb : vs.getD kx false = false := by rw [← gx hxl]; simpa using hc
        iterate 5 refine gNo ?_
        refine gPf ?_; refine gAs ?_; refine gE ?_
        refine gT func111 fun w' hS => ?_
        exact ⟨hS.ext, by rw [h5, hb]; rfl⟩
      ·
       have h5 : ¬ nd.op = 5 := by simpa using hc
       refine gS (gR ?_); refine gBi bEq ?_; refine gAs ?_; refine gE ?_
       refine gC (fun hc => ?_) fun hc => ?_
       ·
        have h6 : nd.op = 6 := by simpa using hc
        have hxl : kx < vs.length := hxl' (by rw [h6]; rfl)
        have hyl : ky < vs.length := hyl' (by rw [h6]; rfl)
        refine gS (gR ?_); refine gMv ?_; refine gFp underlying80 sizeOf3 4 ?_; refine gLo isAgg3 0 ?_
        refine GoH.v (Vop.idx (xs := vs.map Value.bool) rfl rfl rfl rfl rfl underlying85 sizeOf4 ⟨_, hV⟩ (by simp) kx ⟨ex, by simpa using hxl⟩) ?_
        refine GoH.v (Vop.ld rfl rfl rfl rfl isAgg4 (fun w _ hS => (Sl.at (SlBo.ex0 hV hS.ext) kx hxl))) ?_
        refine gMv ?_
        refine gCs 51 (fun hc => ?_) fun hc => ?_
        ·
         have hb : vs.getD kx false = true := by rw [← gx hxl]; simpa using hc
         iterate 5 refine gNo ?_
         refine gPt ?_; refine gAs ?_; refine gE ?_
         refine gT func111 fun w' hS => ?_
         exact ⟨hS.ext, by rw [h6, hb]; rfl⟩
        ·
         have hb : vs.getD kx false = false := by rw [← gx hxl]; simpa using hc
         refine gMv ?_; refine gFp underlying80 sizeOf3 5 ?_; refine gLo isAgg3 0 ?_
         refine GoH.v (Vop.idx (xs := vs.map Value.bool) rfl rfl rfl rfl rfl underlying85 sizeOf4 ⟨_, hV⟩ (by simp) ky ⟨ey, by simpa using hyl⟩) ?_
         refine GoH.v (Vop.ld rfl rfl rfl rfl isAgg4 (fun w _ hS => (Sl.at (SlBo.ex0 hV hS.ext) ky hyl))) ?_
         refine gPf ?_; refine gAs ?_; refine gE ?_
         refine gT func111 fun w' hS => ?_
         exact ⟨hS.ext, by rw [h6, hb, gy hyl]; rfl⟩
       ·
        have h6 : ¬ nd.op = 6 := by simpa using hc
        refine gS (gR ?_); refine gBi bEq ?_; refine gAs ?_; refine gE ?_
        refine gC (fun hc => ?_) fun hc => ?_
        ·
         have h7 : nd.op = 7 := by simpa using hc
         have hxl : kx < vs.length := hxl' (by rw [h7]; rfl)
         have hyl : ky < vs.length := hyl' (by rw [h7]; rfl)
         refine gS (gR ?_); refine gMv ?_; refine gFp underlying80 sizeOf3 4 ?_; refine gLo isAgg3 0 ?_
         refine GoH.v (Vop.idx (xs := vs.map Value.bool) rfl rfl rfl rfl rfl underlying85 sizeOf4 ⟨_, hV⟩ (by simp) kx ⟨ex, by simpa using hxl⟩) ?_
         refine GoH.v (Vop.ld rfl rfl rfl rfl isAgg4 (fun w _ hS => (Sl.at (SlBo.ex0 hV hS.ext) kx hxl))) ?_
         refine gUn uNot ?_; refine gMv ?_
         refine gCs 66 (fun hc => ?_) fun hc => ?_
         ·
          have hb : vs.getD kx false = false := by rw [← gx hxl]; simpa using hc
          iterate 5 refine gNo ?_
          refine gPt ?_; refine gAs ?_; refine gE ?_
          refine gT func111 fun w' hS => ?_
          exact ⟨hS.ext, by rw [h7, hb]; rfl⟩
         ·
          have hb : vs.getD kx false = true := by rw [← gx hxl]; simpa using hc
          refine gMv ?_; refine gFp underlying80 sizeOf3 5 ?_; refine gLo isAgg3 0 ?_
          refine GoH.v (Vop.idx (xs := vs.map Value.bool) rfl rfl rfl rfl rfl underlying85 sizeOf4 ⟨_, hV⟩ (by simp) ky ⟨ey, by simpa using hyl⟩) ?_
          refine GoH.v (Vop.ld rfl rfl rfl rfl isAgg4 (fun w _ hS => (Sl.at (SlBo.ex0 hV hS.ext) ky hyl))) ?_
          refine gPf ?_; refine gAs ?_; refine gE ?_
          refine gT func111 fun w' hS => ?_
          exact ⟨hS.ext, by rw [h7, hb, gy hyl]; rfl⟩
        ·
         have h7 : ¬ nd.op = 7 := by simpa using hc
         have h8 : nd.op = 8 := by omega
         have hxl : kx < vs.length := hxl' (by rw [h8]; rfl)
         have hyl : ky < vs.length := hyl' (by rw [h8]; rfl)
         refine gK (gIb (gS ?_))
         refine GoH.draw 12 mixed rfl ?_
         refine rMv ?_; refine rFp underlying80 sizeOf3 4 ?_; refine rLo isAgg3 0 ?_
         refine RdGo.v (Vop.idx (xs := vs.map Value.bool) rfl rfl rfl rfl rfl underlying85 sizeOf4 ⟨_, hV⟩ (by simp) kx ⟨ex, by simpa using hxl⟩) ?_
         refine RdGo.v (Vop.ld rfl rfl rfl rfl isAgg4 (fun w _ hS => (Sl.at (SlBo.ex0 hV hS.ext) kx hxl))) ?_
         refine rMv ?_; refine rFp underlying80 sizeOf3 5 ?_; refine rLo isAgg3 0 ?_
         refine RdGo.v (Vop.idx (xs := vs.map Value.bool) rfl rfl rfl rfl rfl underlying85 sizeOf4 ⟨_, hV⟩ (by simp) ky ⟨ey, by simpa using hyl⟩) ?_
         refine RdGo.v (Vop.ld rfl rfl rfl rfl isAgg4 (fun w _ hS => (Sl.at (SlBo.ex0 hV hS.ext) ky hyl))) ?_
         refine RdGo.v (Vop.bin rfl rfl rfl rfl (bEqB underlying4) rfl) ?_
         refine rAs ?_
         refine RdGo.nil ?_
         refine gE ?_
         refine gT func111 fun w' hS => ?_
         exact ⟨hS.ext, by rw [h8, gx hxl, gy hyl]; rfl⟩
end Go.Proofs.YtlihcmknfdckdaaDoor
