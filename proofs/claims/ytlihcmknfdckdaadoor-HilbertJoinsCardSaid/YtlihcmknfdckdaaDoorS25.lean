/- What calls of the program return, under the conditions that each theorem states. -/
import Derived.Test.YtlihcmknfdckdaaDoorS24
import Derived.Test.YtlihcmknfdckdaaDoorS16
import Derived.Test.YtlihcmknfdckdaaDoorS04
import Derived.Test.YtlihcmknfdckdaaDoorS13
import Derived.Test.YtlihcmknfdckdaaDoorS14
namespace Go.Proofs.YtlihcmknfdckdaaDoor
open Go.RowKit Go.Proofs.Wit Tryd
/-! everybody's knowledge and induction: the program -/
theorem infoNh : (Tryd.prog.info? 23).map (fun i => (i.zero, i.size, i.bytes)) = some (some (Value.slice none 0 0), 1, 24) := by kernel_rfl
set_option maxRecDepth 8000 in
theorem axEp_c (a : Option Addr) (ca : Nat) (f : List NV) (t : Tr) (w : World) (ha : FA w a f) (hf : Cf f t) :
    Cn Tryd.prog 175 [.slice a f.length ca] w (fun v _ => ∃ b, v = .bool b ∧ (b = true ↔ AxE t)) := by
  obtain ⟨i1, hi1, hz1, hsz1, hby1⟩ := info_parts infoNh
  refine Cn.of func175 rfl rfl ?_
  refine gS (gR ?_); refine gAs ?_; refine gE (gS (gR ?_)); refine gMv ?_
  refine gM rfl rfl rfl rfl rfl call59 (fun w _ hS => (by exact part_c a ca f (some t) w (ha.ex0 hS.ext) hf)) ?_
  rintro v w1 w2 Y' hS he ⟨nd, qa, cA, fa, spa, qb, cb, fb, spb, rfl, hqa, hqb, hnew, hBa, hBb, hop, hi, hg⟩
  refine ⟨_, hS.gainL he hnew, ?_⟩
  refine gMv ?_
  iterate 3 refine gEx ?_
  refine GoH.alc rfl rfl rfl (fun _ => zeroValue80 _) (fun b3 => ?_)
  refine GoH.stB rfl rfl rfl rfl sizeOf80 0 rfl rfl rfl rfl ?_
  iterate 2 refine gAs ?_
  refine gE (gS (gR ?_)); refine gMv ?_
  refine gM rfl rfl rfl rfl rfl call59 (fun w _ hS => (by exact part_c (qa.map (fun b => ⟨b, 0, none⟩)) cA fa (kdA (some t)) w (faAt hS 1 rfl (fun e => (hqa e).1)) hBa)) ?_
  rintro v w1 w2 Y' hS he ⟨nd2, qa2, cA2, fa2, spa2, qb2, cb2, fb2, spb2, rfl, hqa2, hqb2, hnew, hBa2, hBb2, hop2, hi2, hg2⟩
  refine ⟨_, hS.gainL he hnew, ?_⟩
  refine gMv ?_
  iterate 3 refine gEx ?_
  refine GoH.alc rfl rfl rfl (fun _ => zeroValue80 _) (fun b6 => ?_)
  refine GoH.stB rfl rfl rfl rfl sizeOf80 0 rfl rfl rfl rfl ?_
  iterate 2 refine gAs ?_
  refine gE (gS (gS (gR ?_))); refine gFp underlying80 sizeOf3 0 ?_; refine gLo isAgg3 0 ?_; refine gBi bNe ?_; refine gE ?_
  refine gC (fun hc => ?_) fun hc => ?_
  ·
   have hno : ¬ opP (kdA (some t)) = 11 := by rw [← hop2]; simpa using hc
   refine gS (gR ?_); refine gAs ?_; refine gE ?_
   refine gT func175 fun w' hS => ?_
   exact ⟨hS.ext, false, rfl, fun h => (by cases h), fun h => absurd h.gd hno⟩
  ·
   have h11 : opP (kdA (some t)) = 11 := by rw [← hop2]; simpa using hc
   obtain ⟨g, p, hA, hg0, hp⟩ := (OkP'.of hf.ok).a.ev h11
   obtain ⟨gn, rfl⟩ : ∃ gn : Nat, g = (gn : Int) := ⟨g.toNat, by omega⟩
   obtain ⟨op2, i2, e2, g2, x2, y2⟩ := nd2
   obtain rfl : g2 = (gn : Int) := by rw [hA] at hg2; exact hg2
   rw [hA] at hBa hBa2
   have hBa' : Cf fa (evT gn p) := hBa
   have hBp : Cf fa2 p := hBa2
   refine gK (gS (gR ?_)); refine gAs ?_; refine gE (gS (gS (gR ?_))); refine gMv ?_; refine gE (gB ?_)
   refine GoH.addNone (ob FV.v 23 [] []) ?_
   refine GoH.pick (pre' := [(some b6, .cells (NV.cells ⟨op2, i2, e2, gn, x2, y2⟩).toArray 80 (0, 0)), (qa2, obN 80 fa2 spa2), (qa, obN 80 fa spa), (none, ob FV.v 23 [] [])]) [1, 2, 5, 0] (by decide) rfl ?_
   refine GoH.loop (σ := Nat × Option Nat × Nat × List FV × List Value × Hl) (fun z => [(0, .slice a f.length ca), (4, osv qa fa.length cA), (6, .pointer (some ⟨b6, 0, none⟩)), (7, osv qa2 fa2.length cA2), (9, osv z.2.1 z.2.2.2.1.length z.2.2.1), (26, .int .i64 z.1)])
     (fun z => [(some b6, .cells (NV.cells ⟨op2, i2, e2, gn, x2, y2⟩).toArray 80 (0, 0)), (qa2, obN 80 fa2 spa2), (qa, obN 80 fa spa), (z.2.1, ob FV.v 23 z.2.2.2.1 z.2.2.2.2.1)] ++ z.2.2.2.2.2)
     (fun z => z.1 ≤ 4 ∧ (z.2.1 = none → z.2.2.2.1.length = 0 ∧ z.2.2.1 = 0) ∧ (z.2.2.2.1.map FV.v ++ z.2.2.2.2.1).length = z.2.2.1 ∧ (∀ g ∈ z.2.2.2.1, g.In 80 z.2.2.2.2.2) ∧ z.2.2.2.1.map FV.f = (kwL gn z.1 p).map bT)
     (fun z => 4 - z.1) (0, none, 0, [], [], []) ⟨Nat.zero_le _, fun _ => ⟨rfl, rfl⟩, rfl, (fun _ h => by cases h), rfl⟩ ⟨rfl, rfl, rfl, rfl, rfl, rfl, trivial⟩ (List.Sublist.refl _) (fun z hI IH => ?_)
   obtain ⟨k, q, cap, gs, sp, H⟩ := z
   obtain ⟨hk, hq, hcap, hin, hgs⟩ := hI
   dsimp only at hk hq hcap hin hgs IH ⊢
   have hgl : gs.length ≤ 4 := by
     have h1 := congrArg List.length hgs
     have h2 := @agTo_len gn k
     simp only [List.length_map, kwL] at h1
     omega
   refine gS (gR ?_); refine gBi bLt ?_; refine gE (gS ?_)
   refine gC (fun hc => ?_) fun hc => ?_
   ·
    have hk4 : k < 4 := by simp at hc; omega
    have hdv : gn / 2 ^ k ≤ gn := Nat.div_le_self _ _
    refine gK (gS (gB (gS (gR ?_)))); refine gMv ?_; refine gAs ?_; refine gE (gS (gR ?_)); refine gFp underlying80 sizeOf3 3 ?_; refine gLo isAgg3 0 ?_; refine gMv ?_
    refine gBx rfl rfl rfl rfl (bShrN (x := gn) (j := k) rfl (by omega) (by omega)) ?_
    refine gBx rfl rfl rfl rfl (bAnd1N (by omega)) ?_; refine gBi bEq ?_; refine gE ?_
    refine gC (fun hc => ?_) fun hc => ?_
    ·
     have h1 : gb gn k = 1 := by
       have : ((gn / 2 ^ k % 2 : Nat) : Int) = 1 := by simpa using hc
       show gn / 2 ^ k % 2 = 1
       omega
     refine gR ?_
     iterate 3 refine gMv ?_
     refine gM rfl rfl rfl rfl rfl call102 (fun w _ hS => (by exact hknow_c (k : Int) (by omega) ⟨(qa2.map (fun b => ⟨b, 0, none⟩)), cA2, fa2⟩ p w (faAt hS 1 rfl (fun e => (hqa2 e).1)) hBp.eq hp)) ?_
     rintro v w1 w2 Y' hS he ho
     obtain ⟨qf, capf, spf, rfl, hqf, hcapf, hS'⟩ := gainN hS he ho
     refine ⟨_, hS', ?_⟩
     refine GoH.bsN (c := [_]) rfl rfl rfl rfl underlying111 sizeOf23 zeroValue23 rfl rfl (fun b39 => ?_)
     refine GoH.appE FV.v (news := [⟨qf.map (fun b => ⟨b, 0, none⟩), capf, bT (kwT (k : Int) p)⟩]) (spn := []) (xs := gs) (sp := sp) (q := q) rfl rfl rfl rfl rfl underlying111 hi1 hz1 hsz1 rfl hq 5 rfl 0 rfl hcap rfl (by decide) (fun _ => rfl) (by simp [maxLen]; omega) (by simp [hby1]; omega) (fun b' sp' cap' hlen => ?_)
     refine gAs ?_; refine gE (gIb (gR ?_)); refine gBx rfl rfl rfl rfl (bAdd (by omega)) ?_; refine gMv ?_; refine gE ?_
     refine GoH.pickT (pre := [_, _, _, _, _, _]) (pre' := [_, _, _, _, _]) H [2, 3, 4, 5, 1] (by decide) rfl ?_
     refine IH (k + 1, some b', cap', gs ++ [⟨qf.map (fun b => ⟨b, 0, none⟩), capf, bT (kwT (k : Int) p)⟩], sp', (qf, obN 80 (bT (kwT (k : Int) p)) spf) :: H) _ _ ⟨hk4, (fun e => by cases e), hlen, fun g hg => ?_, ?_⟩ (by dsimp only; omega) ⟨rfl, rfl, rfl, rfl, rfl, rfl, trivial⟩ (List.Sublist.refl _)
     · rcases List.mem_append.1 hg with hg | hg
       · exact (hin g hg).mono (List.subset_cons_self _ _)
       · rw [List.mem_singleton.1 hg]; exact ⟨qf, spf, List.mem_cons_self .., rfl, hqf, hcapf⟩
     · dsimp only; rw [List.map_append, hgs, kwL, kwL, agTo_yes h1, List.map_append, List.map_append]; rfl
    ·
     have h1 : gb gn k ≠ 1 := by
       have : ¬ ((gn / 2 ^ k % 2 : Nat) : Int) = 1 := by simpa using hc
       show ¬ gn / 2 ^ k % 2 = 1
       omega
     refine gK (gIb (gR ?_)); refine gBx rfl rfl rfl rfl (bAdd (by omega)) ?_; refine gMv ?_; refine gE ?_
     exact IH (k + 1, q, cap, gs, sp, H) _ _ ⟨hk4, hq, hcap, hin, by dsimp only; rw [hgs, kwL, kwL, agTo_no h1]⟩ (by dsimp only; omega) ⟨rfl, rfl, rfl, rfl, rfl, rfl, trivial⟩ (List.Sublist.refl _)
   ·
    have hge : ¬ k < 4 := by simp at hc; omega
    obtain rfl : k = 4 := by omega
    have hcg : gs.length ≤ cap := by rw [← hcap, List.length_append, List.length_map]; omega
    have hok4 := kwL_ok (g := gn) (Nat.le_refl 4) hp
    have hfl : ∀ g ∈ gs, g.f.length ≤ maxLen := fun g hg => by
      have h5 : g.f ∈ gs.map FV.f := List.mem_map_of_mem hg
      rw [hgs] at h5
      obtain ⟨u, _, e⟩ := List.mem_map.1 h5
      exact bT_max e.symm
    have hall : bldAll (gs.map FV.f) = bT (allT gn p) := by rw [hgs]; exact bldAll_bT hok4
    refine GoH.exit rfl (gS (gR ?_))
    iterate 3 refine gMv ?_
    refine gM rfl rfl rfl rfl rfl call180 (fun w _ hS => (by exact allF_c (q.map (fun b => ⟨b, 0, none⟩)) cap gs w (slgAt hS 3 rfl (fun e => (hq e).1)) (fun g hg => ((hin g hg).mono (List.subset_append_right [_, _, _, _] H)).at hS) hfl (by unfold maxLen; omega) hcg)) ?_
    rintro v w1 w2 Y' hS he ho
    rw [hall] at ho
    obtain ⟨r1, cr1, spr1, rfl, hr1, hcr1, hS'⟩ := gainN hS he ho
    refine ⟨_, hS', ?_⟩
    refine gM rfl rfl rfl rfl rfl call179 (fun w _ hS => (by exact hiff_c ⟨(qa.map (fun b => ⟨b, 0, none⟩)), cA, fa⟩ ⟨(r1.map (fun b => ⟨b, 0, none⟩)), cr1, bT (allT gn p)⟩ (evT gn p) (allT gn p) w (faAt hS 3 rfl (fun e => (hqa e).1)) hBa'.eq hBa'.ok (faAt hS 0 rfl (fun e => (hr1 e).1)) rfl (allT_ok hp))) ?_
    rintro v w1 w2 Y' hS he ho
    obtain ⟨r4, cr4, spr4, rfl, hr4, hcr4, hS'⟩ := gainN hS he ho
    refine ⟨_, hS', ?_⟩
    refine gP rfl rfl rfl rfl rfl call41 (fun w _ hS => (by exact fsame_c a ca f (r4.map (fun b => ⟨b, 0, none⟩)) cr4 _ w (ha.ex0 hS.ext) (faAt hS 0 rfl (fun e => (hr4 e).1)) (bT_max hf.eq) (bT_max rfl))) ?_
    refine gAs ?_; refine gE ?_
    refine gT func175 fun w' hS => ?_
    exact ⟨hS.ext, _, rfl, by rw [sameB_cf hf (if_ok hBa'.ok (allT_ok hp)), decide_eq_true_eq]; exact AxE.iff hA⟩
end Go.Proofs.YtlihcmknfdckdaaDoor
namespace Go.Proofs.YtlihcmknfdckdaaDoor
open Go.RowKit Go.Proofs.Wit Tryd
/-! the rule of induction, the program -/
set_option maxRecDepth 8000 in
theorem induces_c (a : Option Addr) (ca : Nat) (f : List NV) (t : Tr) (b : Option Addr) (cB : Nat) (g : List NV) (w : World) (ha : FA w a f) (hf : Cf f t) (hb : FA w b g) (hg0 : chkF g = 0) (hgl : g.length ≤ maxLen) :
    Cn Tryd.prog 103 [.slice a f.length ca, .slice b g.length cB] w (fun v _ => ∃ b, v = .bool b ∧ (b = true ↔ AxI (topT g) t)) := by
  refine Cn.of func103 rfl rfl ?_
  refine gS (gR ?_); refine gAs ?_; refine gE (gS (gR ?_)); refine gMv ?_
  refine gM rfl rfl rfl rfl rfl call59 (fun w _ hS => (by exact part_c a ca f (some t) w (ha.ex0 hS.ext) hf)) ?_
  rintro v w1 w2 Y' hS he ⟨nd, qa, cA, fa, spa, qb, cb, fb, spb, rfl, hqa, hqb, hnew, hBa, hBb, hop, hi, hg⟩
  refine ⟨_, hS.gainL he hnew, ?_⟩
  refine gMv ?_
  iterate 3 refine gEx ?_
  refine GoH.alc rfl rfl rfl (fun _ => zeroValue80 _) (fun b5 => ?_)
  refine GoH.stB rfl rfl rfl rfl sizeOf80 0 rfl rfl rfl rfl ?_
  iterate 2 refine gAs ?_
  refine gE (gS (gR ?_)); refine gMv ?_
  refine gM rfl rfl rfl rfl rfl call59 (fun w _ hS => (by exact part_c (qb.map (fun b => ⟨b, 0, none⟩)) cb fb (kdB (some t)) w (faAt hS 2 rfl (fun e => (hqb e).1)) hBb)) ?_
  rintro v w1 w2 Y' hS he ⟨nd2, qa2, cA2, fa2, spa2, qb2, cb2, fb2, spb2, rfl, hqa2, hqb2, hnew, hBa2, hBb2, hop2, hi2, hg2⟩
  refine ⟨_, hS.gainL he hnew, ?_⟩
  refine gMv ?_
  iterate 3 refine gEx ?_
  refine GoH.alc rfl rfl rfl (fun _ => zeroValue80 _) (fun b8 => ?_)
  refine GoH.stB rfl rfl rfl rfl sizeOf80 0 rfl rfl rfl rfl ?_
  iterate 2 refine gAs ?_
  refine gE (gS ?_)
  refine GoH.drawCh 26 mixed ?_
  refine cV 0 (Vop.fldP rfl rfl rfl rfl underlying80 rfl (by exact sizeOf3) 0 rfl) ?_
  refine cV 1 (Vop.ldo rfl rfl rfl rfl isAgg3 0 rfl rfl) ?_
  refine cV 2 (Vop.bin rfl rfl rfl rfl bEq rfl) ?_
  refine cV 3 (Vop.mv rfl rfl rfl rfl) ?_
  refine RdC.cases (d := 26) rfl (fun hc => ?_) (fun hc => ?_)
  ·
   have h13 : opP (kdB (some t)) = 13 := by rw [← hop2]; simpa using hc
   obtain ⟨gr, p, q, hA, hgr, hp, hq⟩ := (OkP'.of hf.ok).b.co h13
   obtain ⟨z, hz⟩ := kdB_some hA
   have hzo : z.ok := (OkP'.of hf.ok).a z hz
   obtain rfl : nd2.g = gr := by rw [hg2, hA]; rfl
   rw [hA] at hBb hBa2 hBb2
   rw [hz] at hBa
   have hBz : Cf fa z := hBa
   have hBc : Cf fb (coT nd2.g p q) := hBb
   have hBp : Cf fa2 p := hBa2
   have hBq : Cf fb2 q := hBb2
   have hco : (coT nd2.g p q).ok := hBc.ok
   have hiff := AxI.iff (u := topT g) hz hA
   refine cV 4 (Vop.mv rfl rfl rfl rfl) ?_
   refine cV 5 (Vop.mv rfl rfl rfl rfl) ?_
   refine cV 6 (Vop.mv rfl rfl rfl rfl) ?_
   refine RdC.call (i := 7) _ rfl rfl rfl rfl rfl rfl (fun _ _ => call60 _ _) (fun w _ hS => (by exact himp_c ⟨(qa.map (fun b => ⟨b, 0, none⟩)), cA, fa⟩ ⟨(qb.map (fun b => ⟨b, 0, none⟩)), cb, fb⟩ z (coT nd2.g p q) w (faAt hS 4 rfl (fun e => (hqa e).1)) hBz.eq hzo (faAt hS 5 rfl (fun e => (hqb e).1)) hBc.eq hco)) ?_
   rintro v w1 w2 Y' hS he ho
   obtain ⟨r1, cr1, spr1, rfl, hr1, hcr1, hS'⟩ := gainN hS he ho
   refine ⟨_, hS', (by repeat (first | exact List.Sublist.refl _ | refine List.Sublist.cons _ ?_)), ?_⟩
   refine RdC.callP (i := 8) rfl rfl rfl rfl rfl rfl (fun _ _ => call41 _ _) (fun w _ hS => (by exact fsame_c a ca f (r1.map (fun b => ⟨b, 0, none⟩)) cr1 _ w (ha.ex0 hS.ext) (faAt hS 0 rfl (fun e => (hr1 e).1)) (bT_max hf.eq) (bT_max rfl))) (by repeat (first | exact List.Sublist.refl _ | exact List.nil_sublist _ | refine List.Sublist.cons_cons _ ?_ | refine List.Sublist.cons _ ?_)) ?_
   refine cV 9 (Vop.pickT rfl rfl rfl rfl rfl) ?_
   refine cV 10 (Vop.mv rfl rfl rfl rfl) ?_
   refine RdC.cases (d := 33) rfl (fun hc => ?_) (fun hc => ?_)
   ·
    have ht1 : t = imT z (coT nd2.g p q) := by rw [sameB_cf hf (im_ok hzo hco)] at hc; exact of_decide_eq_true hc
    refine cV 11 (Vop.mv rfl rfl rfl rfl) ?_
    refine cV 12 (Vop.mv rfl rfl rfl rfl) ?_
    refine cV 13 (Vop.fldP rfl rfl rfl rfl underlying80 rfl (by exact sizeOf3) 3 rfl) ?_
    refine cV 14 (Vop.ldo rfl rfl rfl rfl isAgg3 0 rfl rfl) ?_
    refine cV 15 (Vop.mv rfl rfl rfl rfl) ?_
    refine cV 16 (Vop.mv rfl rfl rfl rfl) ?_
    refine cV 17 (Vop.mv rfl rfl rfl rfl) ?_
    refine RdC.call (i := 18) _ rfl rfl rfl rfl rfl rfl (fun _ _ => call128 _ _) (fun w _ hS => (by exact hand_c ⟨(qb2.map (fun b => ⟨b, 0, none⟩)), cb2, fb2⟩ ⟨(qa.map (fun b => ⟨b, 0, none⟩)), cA, fa⟩ q z w (faAt hS 3 rfl (fun e => (hqb2 e).1)) hBq.eq hq (faAt hS 5 rfl (fun e => (hqa e).1)) hBz.eq hzo)) ?_
    rintro v w1 w2 Y' hS he ho
    obtain ⟨r2, cr2, spr2, rfl, hr2, hcr2, hS'⟩ := gainN hS he ho
    refine ⟨_, hS', (by repeat (first | exact List.Sublist.refl _ | refine List.Sublist.cons _ ?_)), ?_⟩
    refine RdC.call (i := 19) _ rfl rfl rfl rfl rfl rfl (fun _ _ => call60 _ _) (fun w _ hS => (by exact himp_c ⟨(qa2.map (fun b => ⟨b, 0, none⟩)), cA2, fa2⟩ ⟨(r2.map (fun b => ⟨b, 0, none⟩)), cr2, bT (adT q z)⟩ p (adT q z) w (faAt hS 3 rfl (fun e => (hqa2 e).1)) hBp.eq hp (faAt hS 0 rfl (fun e => (hr2 e).1)) rfl (ad_ok hq hzo))) ?_
    rintro v w1 w2 Y' hS he ho
    obtain ⟨r3, cr3, spr3, rfl, hr3, hcr3, hS'⟩ := gainN hS he ho
    refine ⟨_, hS', (by repeat (first | exact List.Sublist.refl _ | refine List.Sublist.cons _ ?_)), ?_⟩
    refine RdC.call (i := 20) _ rfl rfl rfl rfl rfl rfl (fun _ _ => call127 _ _) (fun w _ hS => (by exact hevery_c nd2.g hgr ⟨(r3.map (fun b => ⟨b, 0, none⟩)), cr3, bT (imT p (adT q z))⟩ (imT p (adT q z)) w (faAt hS 0 rfl (fun e => (hr3 e).1)) rfl (im_ok hp (ad_ok hq hzo)))) ?_
    rintro v w1 w2 Y' hS he ho
    obtain ⟨r4, cr4, spr4, rfl, hr4, hcr4, hS'⟩ := gainN hS he ho
    refine ⟨_, hS', (by repeat (first | exact List.Sublist.refl _ | refine List.Sublist.cons _ ?_)), ?_⟩
    refine RdC.call (i := 21) _ rfl rfl rfl rfl rfl rfl (fun _ _ => call60 _ _) (fun w _ hS => (by exact himp_c ⟨(qa.map (fun b => ⟨b, 0, none⟩)), cA, fa⟩ ⟨(r4.map (fun b => ⟨b, 0, none⟩)), cr4, bT (evT nd2.g (imT p (adT q z)))⟩ z (evT nd2.g (imT p (adT q z))) w (faAt hS 8 rfl (fun e => (hqa e).1)) hBz.eq hzo (faAt hS 0 rfl (fun e => (hr4 e).1)) rfl (ev_ok hgr (im_ok hp (ad_ok hq hzo))))) ?_
    rintro v w1 w2 Y' hS he ho
    obtain ⟨r5, cr5, spr5, rfl, hr5, hcr5, hS'⟩ := gainN hS he ho
    refine ⟨_, hS', (by repeat (first | exact List.Sublist.refl _ | refine List.Sublist.cons _ ?_)), ?_⟩
    refine RdC.callP (i := 22) rfl rfl rfl rfl rfl rfl (fun _ _ => call41 _ _) (fun w _ hS => (by exact fsame_c b cB g (r5.map (fun b => ⟨b, 0, none⟩)) cr5 _ w (hb.ex0 hS.ext) (faAt hS 0 rfl (fun e => (hr5 e).1)) hgl (bT_max rfl))) (by repeat (first | exact List.Sublist.refl _ | exact List.nil_sublist _ | refine List.Sublist.cons_cons _ ?_ | refine List.Sublist.cons _ ?_)) ?_
    refine cV 23 (Vop.pickT rfl rfl rfl rfl rfl) ?_
    refine cV 24 (Vop.asg rfl rfl rfl rfl) ?_
    refine RdC.done rfl ?_
    refine gE ?_
    refine gT func103 fun w' hS => ?_
    exact ⟨hS.ext, _, rfl, by rw [sameB_bT hg0 (im_ok hzo (ev_ok hgr (im_ok hp (ad_ok hq hzo)))), decide_eq_true_eq]; exact ⟨fun h => hiff.1 ⟨ht1, h⟩, fun h => (hiff.2 h).2⟩⟩
   ·
    have hno : ¬ t = imT z (coT nd2.g p q) := by rw [sameB_cf hf (im_ok hzo hco)] at hc; exact of_decide_eq_false hc
    refine cN 11 ?_
    refine cN 12 ?_
    refine cN 13 ?_
    refine cN 14 ?_
    refine cN 15 ?_
    refine cN 16 ?_
    refine cN 17 ?_
    refine cN 18 ?_
    refine cN 19 ?_
    refine cN 20 ?_
    refine cN 21 ?_
    refine cN 22 ?_
    refine cV 23 (Vop.pickF rfl rfl rfl rfl rfl) ?_
    refine cV 24 (Vop.asg rfl rfl rfl rfl) ?_
    refine RdC.done rfl ?_
    refine gE ?_
    refine gT func103 fun w' hS => ?_
    exact ⟨hS.ext, false, rfl, fun h => (by cases h), fun h => absurd (hiff.2 h).1 hno⟩
  ·
   have hno : ¬ opP (kdB (some t)) = 13 := by rw [← hop2]; simpa using hc
   refine cN 4 ?_
   refine cN 5 ?_
   refine cN 6 ?_
   refine cN 7 ?_
   refine cN 8 ?_
   refine cV 9 (Vop.pickF rfl rfl rfl rfl rfl) ?_
   refine cV 10 (Vop.mv rfl rfl rfl rfl) ?_
   refine cN 11 ?_
   refine cN 12 ?_
   refine cN 13 ?_
   refine cN 14 ?_
   refine cN 15 ?_
   refine cN 16 ?_
   refine cN 17 ?_
   refine cN 18 ?_
   refine cN 19 ?_
   refine cN 20 ?_
   refine cN 21 ?_
   refine cN 22 ?_
   refine cV 23 (Vop.pickF rfl rfl rfl rfl rfl) ?_
   refine cV 24 (Vop.asg rfl rfl rfl rfl) ?_
   refine RdC.done rfl ?_
   refine gE ?_
   refine gT func103 fun w' hS => ?_
   exact ⟨hS.ext, false, rfl, fun h => (by cases h), fun h => absurd h.gd hno⟩
end Go.Proofs.YtlihcmknfdckdaaDoor
namespace Go.Proofs.YtlihcmknfdckdaaDoor
open Go.RowKit Go.Proofs.Wit Tryd
/-! the fragments of a formula -/
theorem frags1_c (n : NV) (op : Int) (w : World) : Cn Tryd.prog 107 [n.v, usV op] w (fun v _ => v = .int .i64 (frO op)) := by
 refine Cn.of func107 rfl rfl ?_
 refine gS (gR ?_)
 refine GoH.bx rfl rfl rfl rfl (fun b2 => ?_)
 refine GoH.bx rfl rfl rfl rfl (fun b3 => ?_)
 refine gAs ?_; refine gE (gS (gR ?_)); refine gFp underlying109 sizeOf3 6 ?_; refine gLo isAgg3 0 ?_; refine gAs ?_; refine gE ?_
 refine gT func107 fun w' hS => ?_
 exact ⟨hS.ext, rfl⟩
set_option maxRecDepth 4000 in
theorem funion_c (a : Option Addr) (ca : Nat) (f : List NV) (w : World) (ha : FA w a f) (hl : f.length ≤ maxLen) : Cn Tryd.prog 106 [.slice a f.length ca, .func (.func 107) #[] #[]] w (fun v _ => v = .int .i64 (frgL (compF f))) := by
  have hcl := compF_le f
  refine Cn.of func106 rfl rfl ?_
  refine gS (gR ?_); refine gAs ?_; refine gE (gS (gR ?_)); refine gAs ?_; refine gE (gS (gS (gR ?_))); refine gMv ?_
  refine gM rfl rfl rfl rfl rfl call44 (fun w _ hS => fcompact_c a ca f w (ha.ex0 hS.ext) hl) ?_
  rintro v w1 w2 Y' hS he ho
  rw [subF_top] at ho
  obtain ⟨q, cap, sp, rfl, hq, hcap, hS'⟩ := gainN hS he ho
  refine ⟨_, hS', ?_⟩
  refine gBl underlying23 ?_; refine gMv ?_; refine gE (gB ?_)
  refine GoH.loop (σ := Nat) (fun k => [(1, .func (.func 107) #[] #[]), (5, .int .i64 (frgL ((compF f).take k))), (11, osv q (compF f).length cap), (12, .int .i64 (compF f).length), (13, .int .i64 k)]) (fun _ => [(q, obN 80 (compF f) sp)]) (fun k => k ≤ (compF f).length) (fun k => (compF f).length - k) 0 (Nat.zero_le _) ⟨rfl, rfl, rfl, rfl, rfl, trivial⟩ (List.Sublist.refl _) (fun k hk IH => ?_)
  refine gS (gR ?_); refine gBi bLt ?_; refine gE (gS ?_)
  refine gC (fun hc => ?_) fun hc => ?_
  ·
   have hm : k < (compF f).length := by simpa using hc
   obtain ⟨b, rfl⟩ : ∃ b, q = some b := by
     cases q with
     | none => have := (hq rfl).1; omega
     | some b => exact ⟨b, rfl⟩
   have h1 := frgL_lt ((compF f).take k)
   have h2 := frO_lt (compF f)[k].op
   have h3 := frN_eq (compF f)[k]
   have ht : frgL ((compF f).take (k + 1)) = frgL ((compF f).take k) ||| frN (compF f)[k] := by rw [List.take_succ_eq_append_getElem hm, frgL_snoc]
   refine gK (gS (gB (gS (gR ?_))))
   refine GoH.v (Vop.idxS rfl rfl rfl rfl rfl underlying23 sizeOf80 k ⟨rfl, hm⟩) ?_
   refine GoH.v (Vop.ldN (cs := NV.cells (compF f)[k]) rfl rfl rfl rfl isAgg80 sizeOf80 (fun w _ hS => Sl.many (enc := NV.cells) (sz := 6) (a := some ⟨b, 0, none⟩) (Sl.blk (hS.get (j := 0) rfl)) (fun _ => rfl) hm)) ?_
   refine GoH.alc rfl rfl rfl (fun _ => zeroValue80 _) (fun b7 => ?_)
   refine GoH.stB rfl rfl rfl rfl sizeOf80 0 rfl rfl rfl rfl ?_
   refine gE (gS (gR ?_)); refine gFp underlying80 sizeOf3 0 ?_; refine gLo isAgg3 0 ?_
   refine gP rfl rfl rfl rfl rfl call126 (fun w _ hS => (by exact uses_c (compF f)[k].op w)) ?_
   refine gMv ?_
   iterate 2 refine gEx ?_
   refine GoH.alc rfl rfl rfl (fun _ => zeroValue109 _) (fun b8 => ?_)
   refine GoH.stB rfl rfl rfl rfl sizeOf109 0 rfl rfl rfl rfl ?_
   refine gAs ?_; refine gE (gR ?_)
   iterate 2 refine gMv ?_
   refine GoH.v (Vop.ldB rfl rfl rfl rfl isAgg80 1 rfl sizeOf80 rfl) ?_
   refine GoH.v (Vop.ldB rfl rfl rfl rfl isAgg109 0 rfl sizeOf109 rfl) ?_
   refine gP rfl rfl rfl rfl rfl call107 (fun w _ hS => (by have := frags1_c (compF f)[k] (compF f)[k].op w; rw [← h3] at this; exact this)) ?_
   refine gBx rfl rfl rfl rfl (bOrI h1 (by omega) ht) ?_; refine gAs ?_; refine gE (gIb (gR ?_)); refine gBx rfl rfl rfl rfl (bAdd (by omega)) ?_; refine gMv ?_; refine gE ?_
   exact IH (k + 1) _ _ hm (by omega) ⟨rfl, rfl, rfl, rfl, rfl, trivial⟩ (.cons _ (.cons _ (List.Sublist.refl _)))
  ·
   have hge : ¬ k < (compF f).length := by simpa using hc
   obtain rfl : k = (compF f).length := by omega
   rw [List.take_length]
   refine GoH.exit rfl (gS (gR ?_))
   refine gMv ?_; refine gAs ?_; refine gE ?_
   refine gT func106 fun w' hS => ?_
   exact ⟨hS.ext, rfl⟩
theorem frags_c (a : Option Addr) (ca : Nat) (f : List NV) (w : World) (ha : FA w a f) (hl : f.length ≤ maxLen) : Cn Tryd.prog 77 [.slice a f.length ca] w (fun v _ => v = .int .i64 (frgL (compF f))) := by
 refine Cn.of func77 rfl rfl ?_
 refine gS (gR ?_); refine gAs ?_; refine gE (gS (gR ?_)); refine gMv ?_
 refine gP rfl rfl rfl rfl rfl call106 (fun w _ hS => (by exact funion_c a ca f w (ha.ex0 hS.ext) hl)) ?_
 refine gAs ?_; refine gE ?_
 refine gT func77 fun w' hS => ?_
 exact ⟨hS.ext, rfl⟩
end Go.Proofs.YtlihcmknfdckdaaDoor
namespace Go.Proofs.YtlihcmknfdckdaaDoor
open Go.RowKit Go.Proofs.Wit Tryd
/-! rules and logics: the program -/
theorem logics_c (a : Option Addr) (ca : Nat) (xs : List Int) (w : World) (ha : SlI w a xs) (hx : ∀ x ∈ xs, 0 ≤ x ∧ x < 64) (hl : xs.length ≤ 64) :
    Cn Tryd.prog 79 [.slice a xs.length ca] w (fun v _ => v = U (logW xs)) := by
  refine Cn.of func79 rfl rfl ?_
  refine gS (gR ?_)
  refine GoH.v (Vop.asg (v := U 0#64) rfl rfl rfl rfl) ?_
  refine gE (gS (gS (gR ?_))); refine gMv ?_; refine gBl underlying70 ?_; refine gMv ?_; refine gE (gB ?_)
  refine GoH.loop (σ := Nat) (fun k => [(2, U (logW (xs.take k))), (5, .slice a xs.length ca), (6, .int .i64 xs.length), (7, .int .i64 k)]) (fun _ => []) (fun k => k ≤ xs.length) (fun k => xs.length - k) 0 (Nat.zero_le _) ⟨rfl, rfl, rfl, rfl, trivial⟩ .slnil (fun k hI IH => ?_)
  refine gS (gR ?_); refine gBi bLt ?_; refine gE (gS ?_)
  refine gC (fun hc => ?_) fun hc => ?_
  ·
   have hlt : k < xs.length := by simpa using hc
   obtain ⟨h0, h64⟩ := hx xs[k] (List.getElem_mem hlt)
   refine gK (gS (gB (gS (gR ?_))))
   refine GoH.v (Vop.idx rfl rfl rfl rfl rfl underlying70 sizeOf3 ⟨_, ha⟩ (by simp) (k) ⟨rfl, by simpa using hlt⟩) ?_
   refine GoH.v (Vop.ld rfl rfl rfl rfl isAgg3 (fun w _ hS => (SlI.ex0 ha hS.ext).at (k) hlt)) ?_
   refine gAs ?_; refine gE (gR ?_)
   iterate 2 refine gMv ?_
   refine GoH.v (Vop.bin (a := U 1#64) rfl rfl rfl rfl (bShl xs[k].toNat (by omega)) rfl) ?_
   refine gBi bOr ?_; refine gAs ?_; refine gE (gIb (gR ?_)); refine gBx rfl rfl rfl rfl (bAdd (by omega)) ?_; refine gMv ?_; refine gE ?_
   exact IH (k + 1) _ _ hlt (by omega) ⟨by rw [List.take_succ_eq_append_getElem hlt, logW_snoc]; rfl, rfl, rfl, rfl, trivial⟩ .slnil
  ·
   have hge : ¬ k < xs.length := by simpa using hc
   obtain rfl : k = xs.length := by omega
   rw [List.take_length]
   refine GoH.exit rfl (gS (gR ?_))
   refine gMv ?_; refine gAs ?_; refine gE ?_
   refine gT func79 fun w' hS => ?_
   exact ⟨hS.ext, rfl⟩
theorem hhas_c (l r : Int) (w : World) (hl : 0 ≤ l ∧ l ≤ 6) : Cn Tryd.prog 45 [.int .i64 l, .int .i64 r] w (fun v _ => v = .bool (hasL49 l r)) := by
  refine Cn.of func45 rfl rfl ?_
  refine gS (gR ?_); refine gAs ?_; refine gE (gS (gR ?_))
  refine GoH.v (Vop.asg (v := U 18446744073709551615#64) rfl rfl rfl rfl) ?_
  refine gE (gS ?_)
  refine GoH.seqJ (α := Unit) (fun _ => [(0, .int .i64 l), (5, U (if r = 3 then logW [2, 4, 6] else if r = 4 then logW [3, 4, 5, 6] else if r = 5 then logW [5, 6] else if r = 6 then logW [1, 5] else BitVec.allOnes 64))]) (fun _ => []) (fun _ => ?_) (fun K => ?_)
  · -- what comes behind
   refine gS (gR ?_)
   iterate 2 refine gMv ?_
   refine gBx rfl rfl rfl rfl (bShr l.toNat (by omega)) ?_
   refine GoH.v (Vop.bin (b := U 1#64) rfl rfl rfl rfl bAnd rfl) ?_
   refine GoH.v (Vop.bin (b := U 1#64) rfl rfl rfl rfl bEqU rfl) ?_
   refine gAs ?_; refine gE ?_
   refine gT func45 fun w' hS => ?_
   exact ⟨hS.ext, by rw [has49 hl]; rfl⟩
  · -- the first part
   refine gS (gR ?_); refine gMv ?_; refine gE (gB (gS (gR ?_))); refine gBi bEq ?_; refine gAs ?_; refine gE ?_
   refine gC (fun hc => ?_) fun hc => ?_
   ·
    have hr3 : r = 3 := by simpa using hc
    refine gR ?_
    refine GoH.bsN (c := [_, _, _]) rfl rfl rfl rfl underlying70 sizeOf3 zeroValue3 rfl rfl (fun b9 => ?_)
    refine gP rfl rfl rfl rfl rfl call79 (fun w _ hS => (by exact logics_c (some ⟨b9, 0, none⟩) 3 [2, 4, 6] w (Sl.blk (hS.get (j := 0) rfl)) (by decide) (by decide))) ?_
    refine gAs ?_; refine gE (gIb ?_)
    exact K () _ _ (by rw [if_pos hr3]; repeat (first | exact SubF.nil | refine SubF.cons rfl ?_)) (fun _ _ hS => hS.subH (List.nil_sublist _))
   ·
    have hr3 : ¬ r = 3 := by simpa using hc
    refine gS (gR ?_); refine gBi bEq ?_; refine gAs ?_; refine gE ?_
    refine gC (fun hc => ?_) fun hc => ?_
    ·
     have hr4 : r = 4 := by simpa using hc
     refine gR ?_
     refine GoH.bsN (c := [_, _, _, _]) rfl rfl rfl rfl underlying70 sizeOf3 zeroValue3 rfl rfl (fun b13 => ?_)
     refine gP rfl rfl rfl rfl rfl call79 (fun w _ hS => (by exact logics_c (some ⟨b13, 0, none⟩) 4 [3, 4, 5, 6] w (Sl.blk (hS.get (j := 0) rfl)) (by decide) (by decide))) ?_
     refine gAs ?_; refine gE (gIb ?_)
     exact K () _ _ (by rw [if_neg (by omega), if_pos hr4]; repeat (first | exact SubF.nil | refine SubF.cons rfl ?_)) (fun _ _ hS => hS.subH (List.nil_sublist _))
    ·
     have hr4 : ¬ r = 4 := by simpa using hc
     refine gS (gR ?_); refine gBi bEq ?_; refine gAs ?_; refine gE ?_
     refine gC (fun hc => ?_) fun hc => ?_
     ·
      have hr5 : r = 5 := by simpa using hc
      refine gR ?_
      refine GoH.bsN (c := [_, _]) rfl rfl rfl rfl underlying70 sizeOf3 zeroValue3 rfl rfl (fun b17 => ?_)
      refine gP rfl rfl rfl rfl rfl call79 (fun w _ hS => (by exact logics_c (some ⟨b17, 0, none⟩) 2 [5, 6] w (Sl.blk (hS.get (j := 0) rfl)) (by decide) (by decide))) ?_
      refine gAs ?_; refine gE (gIb ?_)
      exact K () _ _ (by rw [if_neg (by omega), if_neg (by omega), if_pos hr5]; repeat (first | exact SubF.nil | refine SubF.cons rfl ?_)) (fun _ _ hS => hS.subH (List.nil_sublist _))
     ·
      have hr5 : ¬ r = 5 := by simpa using hc
      refine gS (gR ?_); refine gBi bEq ?_; refine gAs ?_; refine gE ?_
      refine gC (fun hc => ?_) fun hc => ?_
      ·
       have hr6 : r = 6 := by simpa using hc
       refine gR ?_
       refine GoH.bsN (c := [_, _]) rfl rfl rfl rfl underlying70 sizeOf3 zeroValue3 rfl rfl (fun b21 => ?_)
       refine gP rfl rfl rfl rfl rfl call79 (fun w _ hS => (by exact logics_c (some ⟨b21, 0, none⟩) 2 [1, 5] w (Sl.blk (hS.get (j := 0) rfl)) (by decide) (by decide))) ?_
       refine gAs ?_; refine gE (gIb ?_)
       exact K () _ _ (by rw [if_neg (by omega), if_neg (by omega), if_neg (by omega), if_pos hr6]; repeat (first | exact SubF.nil | refine SubF.cons rfl ?_)) (fun _ _ hS => hS.subH (List.nil_sublist _))
      ·
       have hr6 : ¬ r = 6 := by simpa using hc
       refine gK (gIb ?_)
       exact K () _ _ (by rw [if_neg hr3, if_neg hr4, if_neg hr5, if_neg hr6]; repeat (first | exact SubF.nil | refine SubF.cons rfl ?_)) (fun _ _ hS => hS)
theorem there_c (l : Int) (w : World) : Cn Tryd.prog 38 [.int .i64 l] w (fun v _ => v = .bool (decide (0 ≤ l ∧ l ≤ 6))) := by
  refine Cn.of func38 rfl rfl ?_
  refine gS (gR ?_); refine gAs ?_; refine gE (gS (gR ?_)); refine gMv ?_; refine gBi bGe ?_; refine gMv ?_
  refine gCs 5 (fun hc => ?_) fun hc => ?_
  ·
   have h1 : 0 ≤ l := by simpa using hc
   refine gMv ?_; refine gBi bLe ?_; refine gPt ?_; refine gAs ?_; refine gE ?_
   refine gT func38 fun w' hS => ?_
   exact ⟨hS.ext, by simp [h1]; rfl⟩
  ·
   have h1 : ¬ 0 ≤ l := by simp at hc; omega
   iterate 2 refine gNo ?_
   refine gPf ?_; refine gAs ?_; refine gE ?_
   refine gT func38 fun w' hS => ?_
   exact ⟨hS.ext, by simp [h1]; rfl⟩
theorem formed_c (a : Option Addr) (ca : Nat) (f : List NV) (w : World) (ha : FA w a f) (hl : f.length ≤ maxLen) : Cn Tryd.prog 43 [.slice a f.length ca] w (fun v _ => v = .int .i64 (formE f)) := by
  refine Cn.of func43 rfl rfl ?_
  refine gS (gR ?_); refine gAs ?_; refine gE (gS (gS (gR ?_))); refine gMv ?_
  refine gP rfl rfl rfl rfl rfl call75 (fun w _ hS => (by exact fcheck_c a ca f w (ha.ex0 hS.ext) hl)) ?_
  refine gAs ?_; refine gE (gS (gR ?_)); refine gMv ?_; refine gBi bNe ?_; refine gE ?_
  refine gC (fun hc => ?_) fun hc => ?_
  ·
   have h1 : chkF f ≠ 0 := by simpa using hc
   refine gS (gR ?_); refine gMv ?_; refine gAs ?_; refine gE ?_
   refine gT func43 fun w' hS => ?_
   exact ⟨hS.ext, by rw [formE, if_pos h1]; rfl⟩
  ·
   have h1 : chkF f = 0 := by simpa using hc
   refine gK (gS (gS (gR ?_))); refine gMv ?_
   refine gP rfl rfl rfl rfl rfl call77 (fun w _ hS => (by exact frags_c a ca f w (ha.ex0 hS.ext) hl)) ?_
   refine gBx rfl rfl rfl rfl (bAndNotI (frgL_lt _) (by omega : (11 : Nat) < 512)) ?_
   refine gBi bNe ?_; refine gE ?_
   refine gC (fun hc => ?_) fun hc => ?_
   ·
    have h3 : andN (frgL (compF f)) 11 ≠ 0 := by
      have : ((andN (frgL (compF f)) 11 : Nat) : Int) ≠ 0 := by simpa using hc
      omega
    refine gS (gR ?_); refine gAs ?_; refine gE ?_
    refine gT func43 fun w' hS => ?_
    exact ⟨hS.ext, by rw [formE, if_neg (by simp [h1]), if_pos h3]; rfl⟩
   ·
    have h3 : andN (frgL (compF f)) 11 = 0 := by
      have : ((andN (frgL (compF f)) 11 : Nat) : Int) = 0 := by simpa using hc
      omega
    refine gK (gS (gR ?_)); refine gAs ?_; refine gE ?_
    refine gT func43 fun w' hS => ?_
    exact ⟨hS.ext, by rw [formE, if_neg (by simp [h1]), if_neg (by simp [h3])]; rfl⟩
theorem prem_c (r : Int) (w : World) : Cn Tryd.prog 65 [.int .i64 r] w (fun v _ => v = .int .i64 (premN r)) := by
  refine Cn.of func65 rfl rfl ?_
  refine gS (gR ?_); refine gAs ?_; refine gE (gS (gS (gR ?_))); refine gMv ?_; refine gE (gB (gS (gR ?_))); refine gBi bEq ?_; refine gAs ?_; refine gE ?_
  refine gC (fun hc => ?_) fun hc => ?_
  ·
   have h1 : r = 10 := by simpa using hc
   refine gS (gR ?_); refine gAs ?_; refine gE ?_
   refine gT func65 fun w' hS => ?_
   exact ⟨hS.ext, by rw [premN, if_pos h1]; rfl⟩
  ·
   have h1 : ¬ r = 10 := by simpa using hc
   refine gS (gS (gR ?_)); refine gBi bEq ?_; refine gAs ?_; refine gE ?_
   refine gC (fun hc => ?_) fun hc => ?_
   ·
    have h2 : r = 11 := by simpa using hc
    refine gK ?_
    refine GoH.cond rfl (fun _ => ?_) (fun hc => by exfalso; simp [h2] at hc)
    refine gS (gR ?_); refine gAs ?_; refine gE ?_
    refine gT func65 fun w' hS => ?_
    exact ⟨hS.ext, by rw [premN, if_neg h1, if_pos (.inl h2)]; rfl⟩
   ·
    have h2 : ¬ r = 11 := by simpa using hc
    refine gR ?_; refine gBi bEq ?_; refine gAs ?_; refine gE ?_
    refine gC (fun hc => ?_) fun hc => ?_
    ·
     have h3 : r = 12 := by simpa using hc
     refine gS (gR ?_); refine gAs ?_; refine gE ?_
     refine gT func65 fun w' hS => ?_
     exact ⟨hS.ext, by rw [premN, if_neg h1, if_pos (.inr h3)]; rfl⟩
    ·
     have h3 : ¬ r = 12 := by simpa using hc
     refine gK (gIb (gS (gR ?_))); refine gAs ?_; refine gE ?_
     refine gT func65 fun w' hS => ?_
     exact ⟨hS.ext, by rw [premN, if_neg h1, if_neg (by omega)]; rfl⟩
end Go.Proofs.YtlihcmknfdckdaaDoor
