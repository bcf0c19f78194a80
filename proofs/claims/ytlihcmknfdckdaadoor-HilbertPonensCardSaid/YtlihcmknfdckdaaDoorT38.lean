/- What calls of the program return, under the conditions that each theorem states. -/
import Derived.Test.YtlihcmknfdckdaaDoorT36
import Derived.Test.YtlihcmknfdckdaaDoorT37
import Derived.Test.YtlihcmknfdckdaaDoorT04
namespace Go.Proofs.YtlihcmknfdckdaaDoor
open Go.RowKit Go.Proofs.Wit Tryd
theorem infoLn : (Tryd.prog.info? 40).map (fun i => (i.zero, i.size, i.bytes)) = some (some (.agg #[.slice none 0 0, .int .i64 0, .int .i64 0, .int .i64 0, .int .i64 0]), 5, 56) := by kernel_rfl
end Go.Proofs.YtlihcmknfdckdaaDoor
namespace Go.Proofs.YtlihcmknfdckdaaDoor
open Go.RowKit Go.Proofs.Wit Tryd
theorem join1_c (y : Int) (w : World) : Cn Tryd.prog 62 [.int .i64 y] w (fun v _ => v = .int .i64 y) := by
 refine Cn.of func62 rfl rfl ?_
 refine gS (gR ?_); refine gAs ?_; refine gE (gS (gR ?_)); refine gMv ?_; refine gAs ?_; refine gE ?_
 refine gT func62 fun w' hS => ?_
 exact ⟨hS.ext, rfl⟩
theorem join2_c (y : Int) (b4 : Nat) (A : Option Addr) (n cA : Nat) (w : World) (h4 : w.heap[b4]? = some (.cells #[.slice A n cA] 22 (0, 0))) (h0 : 0 ≤ y ∧ y ≤ 1000) (hn : n ≤ 1000) : Cn Tryd.prog 63 [.int .i64 y, .pointer (some ⟨b4, 0, none⟩)] w (fun v _ => v = .int .i64 (y + n)) := by
 have HA : ∀ {w' : World} {j : Nat} {u : Value}, Ex [] w w' → (#[Value.slice A n cA] : Array Value)[j]? = some u → w'.cell? ⟨b4, j, none⟩ = some u := fun e h => Ex.cell e h4 h
 refine Cn.of func63 rfl rfl ?_
 refine gS (gR ?_); refine gAs ?_; refine gE (gS (gR ?_)); refine gMv ?_
 refine GoH.v (Vop.ld (p := ⟨b4, 0, none⟩) rfl rfl rfl rfl isAgg22 (fun w _ hS => HA hS.ext rfl)) ?_
 refine gBl underlying22 ?_; refine gBx rfl rfl rfl rfl (bAdd (by omega)) ?_; refine gAs ?_; refine gE ?_
 refine gT func63 fun w' hS => ?_
 exact ⟨hS.ext, rfl⟩
set_option maxRecDepth 8000 in
theorem hjoin_c (l : Int) (A : Option Addr) (cA : Nat) (a : List LV) (B : Option Addr) (cB : Nat) (b : List LV) (w : World) (hA : LA w A a) (hB : LA w B b) (hT : Axs w) :
    Cn Tryd.prog 29 [.int .i64 l, .slice A a.length cA, .slice B b.length cB] w (fun v w' => ∃ sv ls', v = .tuple #[sv, .int .i64 (joiE l a b)] ∧ OwnLn0 80 40 w w' sv ls' ∧ (joiE l a b = 0 → ls'.map LV.d = joiL a b) ∧ (joiE l a b ≠ 0 → ls' = [])) := by
  obtain ⟨i3, hi3, hz3, hsz3, hby3⟩ := info_parts infoLn
  refine Cn.of func29 rfl rfl ?_
  refine gS (gR ?_)
  refine GoH.bx rfl rfl rfl rfl (fun b4 => ?_)
  iterate 2 refine gAs ?_
  refine gE (gS (gS (gR ?_))); refine gMv ?_; refine gLo isAgg22 0 ?_
  refine gP rfl rfl rfl rfl rfl call14 (fun w _ hS => (by exact hcheck_c l A cA a w (hA.ex0 hS.ext) (hT.ex hS.ext))) ?_
  refine gAs ?_; refine gE (gS (gR ?_)); refine gMv ?_; refine gBi bNe ?_; refine gE ?_
  refine gC (fun hc => ?_) fun hc => ?_
  ·
   have h1 : checkH l a ≠ 0 := by simpa using hc
   refine gS (gR ?_); refine gMv ?_
   iterate 2 refine gAs ?_
   refine gE ?_
   refine gT func29 fun w' hS => ?_
   exact ⟨hS.ext, _, [], by rw [joiE, if_pos h1]; rfl, OwnLn0.nil, fun h => absurd h (by rw [joiE, if_pos h1]; exact h1), fun _ => rfl⟩
  ·
   have h1 : checkH l a = 0 := by simpa using hc
   refine gK (gS (gS (gR ?_)))
   iterate 2 refine gMv ?_
   refine gP rfl rfl rfl rfl rfl call14 (fun w _ hS => (by exact hcheck_c l B cB b w (hB.ex0 hS.ext) (hT.ex hS.ext))) ?_
   refine gAs ?_; refine gE (gS (gR ?_)); refine gMv ?_; refine gBi bNe ?_; refine gE ?_
   refine gC (fun hc => ?_) fun hc => ?_
   ·
    have h2 : checkH l b ≠ 0 := by simpa using hc
    refine gS (gR ?_); refine gMv ?_
    iterate 2 refine gAs ?_
    refine gE ?_
    refine gT func29 fun w' hS => ?_
    exact ⟨hS.ext, _, [], by rw [joiE, if_neg (by simp [h1]), if_pos h2]; rfl, OwnLn0.nil, fun h => absurd h (by rw [joiE, if_neg (by simp [h1]), if_pos h2]; exact h2), fun _ => rfl⟩
   ·
    have h2 : checkH l b = 0 := by simpa using hc
    obtain ⟨xa1, xa2, xa3, xa4⟩ := checkH_zero.1 h1
    obtain ⟨xb1, xb2, xb3, xb4⟩ := checkH_zero.1 h2
    have hla : a.length - 1 < a.length := by omega
    have hlb : b.length - 1 < b.length := by omega
    obtain ⟨hfa, hfal⟩ := hA.fs a[a.length - 1] (List.getElem_mem hla)
    obtain ⟨hfb, hfbl⟩ := hB.fs b[b.length - 1] (List.getElem_mem hlb)
    obtain ⟨hac, _⟩ := formE_zero.1 (lineE_zero.1 (xa4 _ hla)).1
    obtain ⟨hbc, _⟩ := formE_zero.1 (lineE_zero.1 (xb4 _ hlb)).1
    obtain ⟨X, hX⟩ : ∃ X, X = topT a[a.length - 1].f.f := ⟨_, rfl⟩
    obtain ⟨T, hT'⟩ : ∃ T, T = topT b[b.length - 1].f.f := ⟨_, rfl⟩
    have hXo : X.ok := by rw [hX]; exact (chkF_zero.1 hac).top
    have hcT := cf_comp hbc hT'
    have hlX : lstT a = X := by rw [hX]; exact lnT_get hla (by omega)
    have hlT : lstT b = T := by rw [hT']; exact lnT_get hlb (by omega)
    have hE2 : joiE l a b = if T ≠ imT X (kdI T) then 13 else if 400 < a.length + b.length + 1 then 8 else 0 := by rw [joiE, if_neg (by simp [h1]), if_neg (by simp [h2]), hlX, hlT]
    refine gK (gS (gR ?_))
    iterate 2 refine gLo isAgg22 0 ?_
    refine gBl underlying22 ?_
    refine gBx rfl rfl rfl rfl (bSubE (c := ((a.length - 1 : Nat) : Int)) (by omega) (by omega)) ?_
    refine GoH.v (Vop.idxN rfl rfl rfl rfl rfl underlying22 sizeOf40 ⟨_, (hA).at_⟩ (flat_len (enc := LV.cells) (sz := 5) (fun _ => rfl)) (by decide) ((a.length - 1)) ⟨rfl, hla⟩) ?_
    refine GoH.v (Vop.fldA rfl rfl rfl rfl underlying40 rfl sizeOf23 (((a.length - 1)) * 5 + 0) rfl) ?_
    refine GoH.v (Vop.ld rfl rfl rfl rfl isAgg23 (fun w _ hS => Sl.fld (enc := LV.cells) (sz := 5) ((hA).ex0 hS.ext).at_ (fun _ => rfl) hla rfl)) ?_
    refine gAs ?_; refine gE (gS (gR ?_))
    iterate 2 refine gMv ?_
    refine gBl underlying22 ?_
    refine gBx rfl rfl rfl rfl (bSubE (c := ((b.length - 1 : Nat) : Int)) (by omega) (by omega)) ?_
    refine GoH.v (Vop.idxN rfl rfl rfl rfl rfl underlying22 sizeOf40 ⟨_, (hB).at_⟩ (flat_len (enc := LV.cells) (sz := 5) (fun _ => rfl)) (by decide) ((b.length - 1)) ⟨rfl, hlb⟩) ?_
    refine GoH.v (Vop.fldA rfl rfl rfl rfl underlying40 rfl sizeOf23 (((b.length - 1)) * 5 + 0) rfl) ?_
    refine GoH.v (Vop.ld rfl rfl rfl rfl isAgg23 (fun w _ hS => Sl.fld (enc := LV.cells) (sz := 5) ((hB).ex0 hS.ext).at_ (fun _ => rfl) hlb rfl)) ?_
    refine gM rfl rfl rfl rfl rfl call44 (fun w _ hS => (by exact fcompact_c b[b.length - 1].f.a b[b.length - 1].f.c b[b.length - 1].f.f w (hfb.ex0 hS.ext) hfbl)) ?_
    rintro v w1 w2 Y' hS he ho
    rw [subF_top] at ho
    obtain ⟨qf, cf, spf, rfl, hqf, hcf, hS'⟩ := gainN hS he ho
    refine ⟨_, hS', ?_⟩
    refine gAs ?_; refine gE (gS (gR ?_)); refine gMv ?_
    refine gM rfl rfl rfl rfl rfl call59 (fun w _ hS => (by exact part_c (qf.map (fun b => ⟨b, 0, none⟩)) cf (compF b[b.length - 1].f.f) (some T) w (faAt hS 0 rfl (fun e => (hqf e).1)) hcT)) ?_
    rintro v w1 w2 Y' hS he ⟨nd, qa, ca, fa, spa, qy, cy, fy, spy, rfl, hqa, hqy, hnew, hBa, hBy, hop, hi, hg⟩
    refine ⟨_, hS.gainL he hnew, ?_⟩
    refine gMv ?_
    iterate 3 refine gEx ?_
    refine GoH.alc rfl rfl rfl (fun _ => zeroValue80 _) (fun b12 => ?_)
    refine GoH.stB rfl rfl rfl rfl sizeOf80 0 rfl rfl rfl rfl ?_
    iterate 2 refine gAs ?_
    refine gE (gS (gS (gR ?_))); refine gFp underlying80 sizeOf3 0 ?_; refine gLo isAgg3 0 ?_; refine gBi bNe ?_; refine gMv ?_
    refine gCs 56 (fun hc => ?_) fun hc => ?_
    ·
     have h3 : nd.op ≠ 7 := by simpa using hc
     have hE : joiE l a b = 13 := by rw [hE2, if_pos (fun e => h3 (by rw [hop, e]; rfl))]
     iterate 6 refine gNo ?_
     refine gPt ?_; refine gE (GoH.condT rfl (gS (gR ?_)))
     iterate 2 refine gAs ?_
     refine gE ?_
     refine gT func29 fun w' hS => ?_
     exact ⟨hS.ext, _, [], by rw [hE]; rfl, OwnLn0.nil, fun h => absurd h (by rw [hE]; decide), fun _ => rfl⟩
    ·
     have h3 : nd.op = 7 := by simpa using hc
     obtain ⟨X1, Y1, rfl⟩ := top_bin hcT.ok (by rw [← h3, hop]; rfl) (.inr (.inr (.inl rfl)))
     have hcY : Cf fy Y1 := hBy
     have hE2 : joiE l a b = if imT X1 Y1 ≠ imT X Y1 then 13 else if 400 < a.length + b.length + 1 then 8 else 0 := hE2
     iterate 3 refine gMv ?_
     refine gM rfl rfl rfl rfl rfl call60 (fun w _ hS => (by exact imp_c a[a.length - 1].f.a a[a.length - 1].f.c a[a.length - 1].f.f (qy.map (fun b => ⟨b, 0, none⟩)) cy fy w (hfa.ex0 hS.ext) hfal (faAt hS 2 rfl (fun e => (hqy e).1)) (bT_max hcY.eq))) ?_
     rintro v w1 w2 Y' hS he ho
     rw [show bldF ⟨7, 0, 0, 0, 0, 0⟩ [a[a.length - 1].f.f, fy] = bT (imT X Y1) from by have := bld2 (n := ⟨7, 0, 0, 0, 0, 0⟩) hac hcY.chk (by decide) rfl rfl; rw [hcY.top, ← hX] at this; exact this] at ho
     obtain ⟨qi, ci, spi, rfl, hqi, hci, hS'⟩ := gainN hS he ho
     refine ⟨_, hS', ?_⟩
     refine gP rfl rfl rfl rfl rfl call41 (fun w _ hS => (by exact fsame_c (qf.map (fun b => ⟨b, 0, none⟩)) cf (compF b[b.length - 1].f.f) (qi.map (fun b => ⟨b, 0, none⟩)) ci _ w (faAt hS 4 rfl (fun e => (hqf e).1)) (faAt hS 0 rfl (fun e => (hqi e).1)) (bT_max hcT.eq) (bT_max rfl))) ?_
     refine gUn uNot ?_; refine gPf ?_; refine gE ?_
     refine gC (fun hc => ?_) fun hc => ?_
     ·
      have h5 : ¬ imT X1 Y1 = imT X Y1 := by
        have h6 : sameB (compF b[b.length - 1].f.f) (bT (imT X Y1)) = false := by simpa using hc
        rw [sameB_cf hcT (im_ok hXo hcY.ok), decide_eq_false_iff_not] at h6; exact h6
      have hE : joiE l a b = 13 := by rw [hE2, if_pos h5]
      refine gS (gR ?_)
      iterate 2 refine gAs ?_
      refine gE ?_
      refine gT func29 fun w' hS => ?_
      exact ⟨hS.ext, _, [], by rw [hE]; rfl, OwnLn0.nil, fun h => absurd h (by rw [hE]; decide), fun _ => rfl⟩
     ·
      have h5 : imT X1 Y1 = imT X Y1 := by
        have h6 : sameB (compF b[b.length - 1].f.f) (bT (imT X Y1)) = true := by simpa using hc
        rw [sameB_cf hcT (im_ok hXo hcY.ok), decide_eq_true_eq] at h6; exact h6
      have hE3 : joiE l a b = if 400 < a.length + b.length + 1 then 8 else 0 := by rw [hE2, if_neg (fun h => h h5)]
      refine gK (gS (gS (gR ?_))); refine gLo isAgg22 5 ?_; refine gBl underlying22 ?_; refine gMv ?_; refine gBl underlying22 ?_
      iterate 2 refine gBx rfl rfl rfl rfl (bAdd (by omega)) ?_
      refine gBi bGt ?_; refine gE ?_
      refine gC (fun hc => ?_) fun hc => ?_
      ·
       have h6 : 400 < a.length + b.length + 1 := by simp at hc; omega
       have hE : joiE l a b = 8 := by rw [hE3, if_pos h6]
       refine gS (gR ?_)
       iterate 2 refine gAs ?_
       refine gE ?_
       refine gT func29 fun w' hS => ?_
       exact ⟨hS.ext, _, [], by rw [hE]; rfl, OwnLn0.nil, fun h => absurd h (by rw [hE]; decide), fun _ => rfl⟩
      ·
       have h6 : ¬ 400 < a.length + b.length + 1 := by simp at hc; omega
       have hE : joiE l a b = 0 := by rw [hE3, if_neg h6]
       refine gK (gS (gR ?_)); refine gAs ?_; refine gE (gS (gS (gR ?_))); refine gLo isAgg22 5 ?_; refine gBl underlying22 ?_; refine gMv ?_; refine gE (gB ?_)
       refine GoH.addNone (obL 40 [] []) ?_
       refine GoH.pick (pre := [_, _, _, _, _, _, _]) (pre' := [(some b4, .cells #[.slice A a.length cA] 22 (0, 0)), (none, obL 40 [] []), (qy, obN 80 fy spy)]) [6, 0, 4] (by decide) rfl ?_
       refine GoH.loop (σ := Nat × Option Nat × Nat × List LV × List Value × Hl) (fun z => [(2, .slice B b.length cB), (4, .pointer (some ⟨b4, 0, none⟩)), (14, osv qy fy.length cy), (15, osv z.2.1 z.2.2.2.1.length z.2.2.1), (71, .slice A a.length cA), (72, .int .i64 a.length), (73, .int .i64 z.1)])
         (fun z => [(some b4, .cells #[.slice A a.length cA] 22 (0, 0)), (z.2.1, obL 40 z.2.2.2.1 z.2.2.2.2.1), (qy, obN 80 fy spy)] ++ z.2.2.2.2.2)
         (fun z => z.1 ≤ a.length ∧ (z.2.1 = none → z.2.2.2.1.length = 0 ∧ z.2.2.1 = 0) ∧ (z.2.2.2.1.flatMap LV.cells ++ z.2.2.2.2.1).length = z.2.2.1 * 5 ∧ z.2.2.2.1.map LV.d = (a.take z.1).map (mvL id) ∧ ∀ x ∈ z.2.2.2.1, x.f.In0 80 z.2.2.2.2.2 ∧ x.f.f.length ≤ maxLen)
         (fun z => a.length - z.1) (0, none, 0, [], [], []) ⟨Nat.zero_le _, fun _ => ⟨rfl, rfl⟩, rfl, rfl, fun _ h => by cases h⟩ ⟨rfl, rfl, rfl, rfl, rfl, rfl, rfl, trivial⟩ (List.Sublist.refl _) (fun z hZ IH => ?_)
       obtain ⟨k, qo, co, os, spo, H⟩ := z
       obtain ⟨hk, hqo, hco, hos, hin⟩ := hZ
       dsimp only at hk hqo hco hos hin IH ⊢
       have hol : os.length = k := by have := congrArg List.length hos; simp at this; omega
       refine gS (gR ?_); refine gBi bLt ?_; refine gE (gS ?_)
       refine gC (fun hc => ?_) fun hc => ?_
       ·
        have hlt : k < a.length := by simpa using hc
        obtain ⟨hga, hgl⟩ := hA.fs a[k] (List.getElem_mem hlt)
        have hr12 := (lineE_zero.1 (xa4 k hlt)).2.1
        refine gK (gS (gB (gS (gR ?_))))
        refine GoH.v (Vop.idxN rfl rfl rfl rfl rfl underlying22 sizeOf40 ⟨_, (hA).at_⟩ (flat_len (enc := LV.cells) (sz := 5) (fun _ => rfl)) (by decide) (k) ⟨rfl, hlt⟩) ?_
        refine GoH.v (Vop.ldN (cs := LV.cells a[k]) rfl rfl rfl rfl isAgg40 sizeOf40 (fun w _ hS => Sl.many (enc := LV.cells) (sz := 5) (hA.ex0 hS.ext).at_ (fun _ => rfl) hlt)) ?_
        refine GoH.alc rfl rfl rfl (fun _ => zeroValue40 _) (fun b17 => ?_)
        refine GoH.stB rfl rfl rfl rfl sizeOf40 0 rfl rfl rfl rfl ?_
        refine gE (gR ?_); refine gMv ?_
        refine GoH.v (Vop.ldB rfl rfl rfl rfl isAgg40 0 rfl sizeOf40 rfl) ?_
        refine gM rfl rfl rfl rfl rfl call61 (fun w _ hS => (by exact moved_c a[k] 62 [] id w (hga.ex0 hS.ext) hgl hr12 (fun _ _ => call62 _ _) (fun w' e y hy => join1_c y w'))) ?_
        rintro v w1 w2 Y' hS he ⟨qm, cm, spm, rfl, hqm, hcm, hnew⟩
        refine ⟨_, hS.gainL he hnew, ?_⟩
        refine GoH.bsN (c := [_, _, _, _, _]) rfl rfl rfl rfl underlying22 sizeOf40 zeroValue40 rfl rfl (fun b80 => ?_)
        refine GoH.appL (ls := os) (sp := spo) (q := qo) (nl := mvV id a[k] qm cm) rfl rfl rfl rfl rfl underlying22 hi3 hz3 hsz3 rfl hqo 4 rfl 0 rfl hco (by unfold maxLen; omega) (by rw [hby3]; omega) (fun b' sp' cap' hlen => ?_)
        refine gAs ?_; refine gE (gIb (gR ?_)); refine gBx rfl rfl rfl rfl (bAdd (by omega)) ?_; refine gMv ?_; refine gE ?_
        refine GoH.pickT (pre := [_, _, _, _, _, _]) (pre' := [(some b4, .cells #[.slice A a.length cA] 22 (0, 0)), (some b', obL 40 (os ++ [mvV id a[k] qm cm]) sp'), (qy, obN 80 fy spy), (qm, obN 80 (compF a[k].f.f) spm)]) H [3, 4, 5, 1] (by decide) rfl ?_
        refine IH (k + 1, some b', cap', os ++ [mvV id a[k] qm cm], sp', (qm, obN 80 (compF a[k].f.f) spm) :: H) _ _ ⟨hlt, (fun e => by cases e), hlen, ?_, fun x hx => ?_⟩ (by dsimp only; omega) ⟨rfl, rfl, rfl, rfl, rfl, rfl, rfl, trivial⟩ (List.Sublist.refl _)
        · dsimp only; rw [List.map_append, hos, List.take_succ_eq_append_getElem hlt, List.map_append]; rfl
        · dsimp only at hx ⊢
          rcases List.mem_append.1 hx with hx | hx
          · exact ⟨(hin x hx).1.mono (List.subset_cons_self _ _), (hin x hx).2⟩
          · rw [List.mem_singleton.1 hx]; exact ⟨⟨qm, spm, List.mem_cons_self .., rfl, fun e => (hqm e).1⟩, by have := compF_le a[k].f.f; show (compF a[k].f.f).length ≤ maxLen; unfold maxLen; omega⟩
       ·
        have hge : ¬ k < a.length := by simpa using hc
        obtain rfl : k = a.length := by omega
        rw [List.take_length] at hos
        refine GoH.exit rfl (gS (gS (gR ?_)))
        refine gMv ?_; refine gBl underlying22 ?_; refine gMv ?_; refine gE (gB ?_)
        refine GoH.loop (σ := Nat × Option Nat × Nat × List LV × List Value × Hl) (fun z => [(2, .slice B b.length cB), (4, .pointer (some ⟨b4, 0, none⟩)), (14, osv qy fy.length cy), (15, osv z.2.1 z.2.2.2.1.length z.2.2.1), (83, .slice B b.length cB), (84, .int .i64 b.length), (85, .int .i64 z.1)])
          (fun z => [(some b4, .cells #[.slice A a.length cA] 22 (0, 0)), (z.2.1, obL 40 z.2.2.2.1 z.2.2.2.2.1), (qy, obN 80 fy spy)] ++ z.2.2.2.2.2)
          (fun z => z.1 ≤ b.length ∧ (z.2.1 = none → z.2.2.2.1.length = 0 ∧ z.2.2.1 = 0) ∧ (z.2.2.2.1.flatMap LV.cells ++ z.2.2.2.2.1).length = z.2.2.1 * 5 ∧ z.2.2.2.1.map LV.d = a.map (mvL id) ++ (b.take z.1).map (mvL (fun y => y + a.length)) ∧ ∀ x ∈ z.2.2.2.1, x.f.In0 80 z.2.2.2.2.2 ∧ x.f.f.length ≤ maxLen)
          (fun z => b.length - z.1) (0, qo, co, os, spo, H) ⟨Nat.zero_le _, hqo, hco, by dsimp only; rw [hos]; simp, hin⟩ ⟨rfl, rfl, rfl, rfl, rfl, rfl, rfl, trivial⟩ (List.Sublist.refl _) (fun z hZ IH => ?_)
        clear hqo hco hos hin hol
        obtain ⟨k, qo, co, os, spo, H⟩ := z
        obtain ⟨hk, hqo, hco, hos, hin⟩ := hZ
        dsimp only at hk hqo hco hos hin IH ⊢
        have hol : os.length = a.length + k := by have := congrArg List.length hos; simp at this; omega
        refine gS (gR ?_); refine gBi bLt ?_; refine gE (gS ?_)
        refine gC (fun hc => ?_) fun hc => ?_
        ·
         have hlt : k < b.length := by simpa using hc
         obtain ⟨hga, hgl⟩ := hB.fs b[k] (List.getElem_mem hlt)
         have hr12 := (lineE_zero.1 (xb4 k hlt)).2.1
         have hln := line_nums (xb4 k hlt)
         have hyI : ∀ y : Int, (10 ≤ b[k].r ∧ y = b[k].a) ∨ (b[k].r = 10 ∧ y = b[k].b) → 0 ≤ y ∧ y ≤ 1000 := fun y hy => by
           rcases hy with ⟨k1, rfl⟩ | ⟨k1, rfl⟩
           · have := hln.1 k1; omega
           · have := hln.2 k1; omega
         refine gK (gS (gB (gS (gR ?_))))
         refine GoH.v (Vop.idxN rfl rfl rfl rfl rfl underlying22 sizeOf40 ⟨_, (hB).at_⟩ (flat_len (enc := LV.cells) (sz := 5) (fun _ => rfl)) (by decide) (k) ⟨rfl, hlt⟩) ?_
         refine GoH.v (Vop.ldN (cs := LV.cells b[k]) rfl rfl rfl rfl isAgg40 sizeOf40 (fun w _ hS => Sl.many (enc := LV.cells) (sz := 5) (hB.ex0 hS.ext).at_ (fun _ => rfl) hlt)) ?_
         refine GoH.alc rfl rfl rfl (fun _ => zeroValue40 _) (fun b19 => ?_)
         refine GoH.stB rfl rfl rfl rfl sizeOf40 0 rfl rfl rfl rfl ?_
         refine gE (gR ?_); refine gMv ?_
         refine GoH.v (Vop.ldB rfl rfl rfl rfl isAgg40 0 rfl sizeOf40 rfl) ?_
         refine GoH.v (Vop.mkFunc rfl rfl rfl rfl rfl) ?_
         refine gM rfl rfl rfl rfl rfl call61 (fun w _ hS => (by exact moved_c b[k] 63 [.pointer (some ⟨b4, 0, none⟩)] (fun y => y + a.length) w (hga.ex0 hS.ext) hgl hr12 (fun _ _ => call63 _ _) (fun w' e y hy => join2_c y b4 A a.length cA w' (e.keep (hS.get (j := 1) rfl)) (hyI y hy) (by omega)))) ?_
         rintro v w1 w2 Y' hS he ⟨qm, cm, spm, rfl, hqm, hcm, hnew⟩
         refine ⟨_, hS.gainL he hnew, ?_⟩
         refine GoH.bsN (c := [_, _, _, _, _]) rfl rfl rfl rfl underlying22 sizeOf40 zeroValue40 rfl rfl (fun b93 => ?_)
         refine GoH.appL (ls := os) (sp := spo) (q := qo) (nl := mvV (fun y => y + a.length) b[k] qm cm) rfl rfl rfl rfl rfl underlying22 hi3 hz3 hsz3 rfl hqo 4 rfl 0 rfl hco (by unfold maxLen; omega) (by rw [hby3]; omega) (fun b' sp' cap' hlen => ?_)
         refine gAs ?_; refine gE (gIb (gR ?_)); refine gBx rfl rfl rfl rfl (bAdd (by omega)) ?_; refine gMv ?_; refine gE ?_
         refine GoH.pickT (pre := [_, _, _, _, _, _]) (pre' := [(some b4, .cells #[.slice A a.length cA] 22 (0, 0)), (some b', obL 40 (os ++ [mvV (fun y => y + a.length) b[k] qm cm]) sp'), (qy, obN 80 fy spy), (qm, obN 80 (compF b[k].f.f) spm)]) H [3, 4, 5, 1] (by decide) rfl ?_
         refine IH (k + 1, some b', cap', os ++ [mvV (fun y => y + a.length) b[k] qm cm], sp', (qm, obN 80 (compF b[k].f.f) spm) :: H) _ _ ⟨hlt, (fun e => by cases e), hlen, ?_, fun x hx => ?_⟩ (by dsimp only; omega) ⟨rfl, rfl, rfl, rfl, rfl, rfl, rfl, trivial⟩ (List.Sublist.refl _)
         · dsimp only; rw [List.map_append, hos, List.take_succ_eq_append_getElem hlt, List.map_append, List.append_assoc]; rfl
         · dsimp only at hx ⊢
           rcases List.mem_append.1 hx with hx | hx
           · exact ⟨(hin x hx).1.mono (List.subset_cons_self _ _), (hin x hx).2⟩
           · rw [List.mem_singleton.1 hx]; exact ⟨⟨qm, spm, List.mem_cons_self .., rfl, fun e => (hqm e).1⟩, by have := compF_le b[k].f.f; show (compF b[k].f.f).length ≤ maxLen; unfold maxLen; omega⟩
        ·
         have hge : ¬ k < b.length := by simpa using hc
         obtain rfl : k = b.length := by omega
         rw [List.take_length] at hos
         refine GoH.exit rfl (gS (gR ?_))
         iterate 2 refine gMv ?_
         refine gLo isAgg22 0 ?_; refine gBl underlying22 ?_; refine gBx rfl rfl rfl rfl (bSub (by omega)) ?_; refine gLo isAgg22 0 ?_; refine gBl underlying22 ?_; refine gMv ?_; refine gBl underlying22 ?_; refine gBx rfl rfl rfl rfl (bAdd (by omega)) ?_; refine gBx rfl rfl rfl rfl (bSub (by omega)) ?_
         refine GoH.v (Vop.bld rfl rfl rfl rfl (bld (c := [_, _, _, _, _]) underlying40 (Szs.cons sizeOf23 (Szs.cons sizeOf3 (Szs.cons sizeOf3 (Szs.cons sizeOf3 (Szs.cons sizeOf3 Szs.nil))))) zeroValue40 rfl)) ?_
         refine GoH.bsN (c := [_, _, _, _, _]) rfl rfl rfl rfl underlying22 sizeOf40 zeroValue40 rfl rfl (fun b108 => ?_)
         refine GoH.appL (ls := os) (sp := spo) (q := qo) (nl := ⟨⟨qy.map (fun b => ⟨b, 0, none⟩), cy, fy⟩, 10, (a.length : Int) - 1, (a.length : Int) + b.length - 1, 0⟩) rfl rfl rfl rfl rfl underlying22 hi3 hz3 hsz3 rfl hqo 2 rfl 0 rfl hco (by unfold maxLen; omega) (by rw [hby3]; omega) (fun b' sp' cap' hlen => ?_)
         iterate 2 refine gAs ?_
         refine gE ?_
         refine gT func29 fun w' hS => ?_
         refine ⟨hS.ext, _, _, by rw [hE]; rfl, ⟨some b', cap', sp', (qy, obN 80 fy spy) :: H, rfl, (fun e => by cases e), hlen, (NewH.of hS).sub (.cons _ (.cons _ (List.Sublist.refl _))), fun x hx => ?_⟩, fun _ => ?_, fun h => absurd hE h⟩
         · rcases List.mem_append.1 hx with hx | hx
           · exact ⟨(hin x hx).1.mono (List.subset_cons_self _ _), (hin x hx).2⟩
           · rw [List.mem_singleton.1 hx]; exact ⟨⟨qy, spy, List.mem_cons_self .., rfl, fun e => (hqy e).1⟩, bT_max hcY.eq⟩
         · rw [List.map_append, hos, joiL, hlT, show kdI (imT X1 Y1) = Y1 from rfl, ← hcY.eq]; rfl
end Go.Proofs.YtlihcmknfdckdaaDoor
namespace Go.Proofs.YtlihcmknfdckdaaDoor
open Go.RowKit Go.Proofs.Wit Tryd
/-! the reference: two formulas in one; equal proofs -/
set_option maxRecDepth 8000 in
theorem rbinW_c (op i e g : Int) (a : Option Addr) (ca : Nat) (f : List NV) (t : Tr) (b : Option Addr) (cb : Nat) (h : List NV) (u : Tr) (w : World) (hop : 1 ≤ op ∧ op ≤ 21) (hY : usY op = true) (hf : fldE op i e g = 0) (ha : FA w a f) (hc1 : chkF f = 0) (htt : t = topT f) (hb : FA w b h) (hc2 : chkF h = 0) (huu : u = topT h) : Cn Tryd.prog 58 [NV.v ⟨op, i, e, g, 0, 0⟩, .slice a f.length ca, .slice b h.length cb] w (fun v w' => OwnN 80 w w' v (bT (.bin op i e g t u))) := by
  obtain ⟨iN, hiN, hzN, hszN, hbyN⟩ := info_parts infoN
  have hfl : f.length ≤ 200 := (chkF_zero.1 hc1).len
  have hhl : h.length ≤ 200 := (chkF_zero.1 hc2).len
  refine Cn.of func58 rfl rfl ?_
  refine gS (gR ?_)
  refine GoH.bx rfl rfl rfl rfl (fun b3 => ?_)
  refine gAs ?_; refine gE (gS (gS (gR ?_))); refine gMv ?_
  refine gP rfl rfl rfl rfl rfl call25 (fun w _ hS => (by exact rchk_c a ca f w (ha.ex0 hS.ext) (by unfold maxLen; omega))) ?_
  refine gBi bNe ?_; refine gMv ?_
  refine gCs 14 (fun hc => ?_) fun hc => ?_
  ·
   have h1 : chkF f ≠ 0 := by simpa using hc
   iterate 3 refine gNo ?_
   refine gPt ?_; refine gE (GoH.condT rfl (gS (gR ?_))); refine gAs ?_; refine gE ?_
   refine gT func58 fun w' hS => ?_
   exact absurd hc1 h1
  ·
   have h1 : chkF f = 0 := by simpa using hc
   refine gMv ?_
   refine gP rfl rfl rfl rfl rfl call25 (fun w _ hS => (by exact rchk_c b cb h w (hb.ex0 hS.ext) (by unfold maxLen; omega))) ?_
   refine gBi bNe ?_; refine gPf ?_; refine gE ?_
   refine gC (fun hc => ?_) fun hc => ?_
   ·
    have h2 : chkF h ≠ 0 := by simpa using hc
    refine gS (gR ?_); refine gAs ?_; refine gE ?_
    refine gT func58 fun w' hS => ?_
    exact absurd hc2 h2
   ·
    have h2 : chkF h = 0 := by simpa using hc
    have hk1 := chkF_zero.1 hc1
    have hk2 := chkF_zero.1 hc2
    have hp := hk1.pos
    have hp2 := hk2.pos
    have hF0 : LT f (trees f) := ⟨hk1.nodes, rfl⟩
    have hH0 : LT h (trees h) := ⟨hk2.nodes, rfl⟩
    have hgf : (trees f)[(trees f).length - 1]? = some t := by
      have hkk : f.length - 1 < f.length := by omega
      rw [trees_len, List.getElem?_eq_getElem (by rw [trees_len]; exact hkk), htt, topT_treeAt, treeAt_eq hkk]
    have hgh : (trees h)[(trees h).length - 1]? = some u := by
      have hkk : h.length - 1 < h.length := by omega
      rw [trees_len, List.getElem?_eq_getElem (by rw [trees_len]; exact hkk), huu, topT_treeAt, treeAt_eq hkk]
    have hsl : (trees f).length = f.length := hF0.len
    have hsl2 : (trees h).length = h.length := hH0.len
    have hL0 := hF0.cat hH0
    have hcl : (catN f h).length = f.length + h.length := catN_len
    have hL := hL0.bin (n := ⟨op, i, e, g, ((f.length - 1 : Nat) : Int), (((catN f h).length - 1 : Nat) : Int)⟩) hop hY hf (k := (trees f).length - 1) (by dsimp only; rw [hsl]) (by rw [List.getElem?_append_left (by omega)]; exact hgf) (l := (trees f).length + ((trees h).length - 1)) (by dsimp only; rw [hcl]; omega) (by rw [List.getElem?_append_right (by omega), Nat.add_sub_cancel_left]; exact hgh)
    have hnE : nodeE ⟨op, i, e, g, ((f.length - 1 : Nat) : Int), (((catN f h).length - 1 : Nat) : Int)⟩ ((catN f h).length : Int) = 0 := nodeE_zero.2 (by have := hL.nodes (catN f h).length (by simp); simpa using this)
    have hokh := hk2
    refine gK (gS (gR ?_)); refine gAs ?_; refine gE (gS (gS (gR ?_))); refine gAs ?_; refine gE (gB ?_)
    refine GoH.addNone (obN 80 [] []) ?_
    refine GoH.pick (pre := [_, _]) (pre' := [_, _]) [1, 0] (by decide) rfl ?_
    refine GoH.loop (σ := Nat × Option Nat × Nat × List Value) (fun z => [(1, .slice a f.length ca), (2, .slice b h.length cb), (3, .pointer (some ⟨b3, 0, none⟩)), (7, osv z.2.1 (f.take z.1).length z.2.2.1), (8, .int .i64 z.1)]) (fun z => [(some b3, .cells (NV.cells ⟨op, i, e, g, 0, 0⟩).toArray 80 (0, 0)), (z.2.1, obN 80 (f.take z.1) z.2.2.2)])
      (fun z => z.1 ≤ f.length ∧ (z.2.1 = none → (f.take z.1).length = 0 ∧ z.2.2.1 = 0) ∧ ((f.take z.1).flatMap NV.cells ++ z.2.2.2).length = z.2.2.1 * 6) (fun z => f.length - z.1) (0, none, 0, []) ⟨Nat.zero_le _, fun _ => ⟨rfl, rfl⟩, rfl⟩ ⟨rfl, rfl, rfl, rfl, rfl, trivial⟩ (List.Sublist.refl _) (fun z hI IH => ?_)
    obtain ⟨k, q, cap, sp⟩ := z
    obtain ⟨hk, hq, hcap⟩ := hI
    dsimp only at hk hq hcap IH ⊢
    have htl : (f.take k).length ≤ 200 := by rw [List.length_take]; omega
    refine gS (gS (gR ?_))
    iterate 2 refine gMv ?_
    refine gBl underlying23 ?_; refine gBi bLt ?_; refine gE ?_
    refine gC (fun hc => ?_) fun hc => ?_
    ·
     have hlt : k < f.length := by simpa using hc
     refine gK (gS (gB (gR ?_)))
     iterate 3 refine gMv ?_
     refine GoH.v (Vop.idxN rfl rfl rfl rfl rfl underlying23 sizeOf80 ⟨_, (ha).at_⟩ (flat_len (enc := NV.cells) (sz := 6) (fun _ => rfl)) (by decide) (k) ⟨rfl, hlt⟩) ?_
     refine GoH.v (Vop.ldN (cs := NV.cells f[k]) rfl rfl rfl rfl isAgg80 sizeOf80 (fun w _ hS => Sl.many (enc := NV.cells) (sz := 6) (ha.ex0 hS.ext).at_ (fun _ => rfl) hlt)) ?_
     refine GoH.bsN (c := [_, _, _, _, _, _]) rfl rfl rfl rfl underlying23 sizeOf80 zeroValue80 rfl rfl (fun b30 => ?_)
     have e1 : (f.take k).flatMap NV.cells ++ NV.cells f[k] = (f.take (k + 1)).flatMap NV.cells := by rw [List.take_succ_eq_append_getElem hlt, List.flatMap_append]; simp
     have e2 : (f.take k).length + 1 = (f.take (k + 1)).length := by rw [List.length_take, List.length_take]; omega
     refine GoH.app 6 (xs := (f.take k).flatMap NV.cells) (sp := sp) (nx := (f.take k).length) (q := q) (news := NV.cells f[k]) (spn := []) rfl rfl rfl rfl rfl underlying23 hiN hzN hszN rfl hq 2 rfl 0 rfl flatN hcap rfl (by decide) (fun u hu => by
       simp only [NV.cells, List.mem_cons, List.not_mem_nil, or_false] at hu
       rcases hu with rfl | rfl | rfl | rfl | rfl | rfl <;> rfl) (by unfold maxLen; omega) (by rw [hbyN]; omega) (fun b' sp' cap' hlen => ?_)
     simp only [e1, e2] at hlen ⊢
     refine gAs ?_; refine gE (gIb (gR ?_)); refine gMv ?_; refine gBx rfl rfl rfl rfl (bAdd (by omega)) ?_; refine gAs ?_; refine gE ?_
     exact IH (k + 1, some b', cap', sp') _ _ ⟨hlt, (fun e => by cases e), hlen⟩ (by dsimp only; omega) ⟨rfl, rfl, rfl, rfl, rfl, trivial⟩ (.cons _ (List.Sublist.refl _))
    ·
     have hge : ¬ k < f.length := by simpa using hc
     obtain rfl : k = f.length := by omega
     rw [List.take_length] at hq hcap htl
     rw [List.take_length]
     refine GoH.exit rfl (gS (gS (gR ?_)))
     refine gAs ?_; refine gE (gB ?_)
     refine GoH.loop (σ := Nat × Option Nat × Nat × List Value) (fun z => [(1, .slice a f.length ca), (2, .slice b h.length cb), (3, .pointer (some ⟨b3, 0, none⟩)), (7, osv z.2.1 (catN f (h.take z.1)).length z.2.2.1), (9, .int .i64 z.1)]) (fun z => [(some b3, .cells (NV.cells ⟨op, i, e, g, 0, 0⟩).toArray 80 (0, 0)), (z.2.1, obN 80 (catN f (h.take z.1)) z.2.2.2)])
       (fun z => z.1 ≤ h.length ∧ (z.2.1 = none → (catN f (h.take z.1)).length = 0 ∧ z.2.2.1 = 0) ∧ ((catN f (h.take z.1)).flatMap NV.cells ++ z.2.2.2).length = z.2.2.1 * 6) (fun z => h.length - z.1) (0, q, cap, sp) (by rw [cat_zero]; exact ⟨Nat.zero_le _, hq, hcap⟩) (by rw [cat_zero]; exact ⟨rfl, rfl, rfl, rfl, rfl, trivial⟩) (by rw [cat_zero]; exact List.Sublist.refl _) (fun z hI IH2 => ?_)
     obtain ⟨m, q, cap, sp⟩ := z
     obtain ⟨hm0, hq, hcap⟩ := hI
     dsimp only at hm0 hq hcap IH2 ⊢
     have hcl2 : (catN f (h.take m)).length ≤ 1000 := by rw [catN_len, List.length_take]; omega
     refine gS (gS (gR ?_))
     iterate 2 refine gMv ?_
     refine gBl underlying23 ?_; refine gBi bLt ?_; refine gE ?_
     refine gC (fun hc => ?_) fun hc => ?_
     ·
      have hm : m < h.length := by simpa using hc
      have hokn := hokh.at m hm
      refine gK (gS (gB (gS (gR ?_))))
      iterate 2 refine gMv ?_
      refine GoH.v (Vop.idxN rfl rfl rfl rfl rfl underlying23 sizeOf80 ⟨_, (hb).at_⟩ (flat_len (enc := NV.cells) (sz := 6) (fun _ => rfl)) (by decide) (m) ⟨rfl, hm⟩) ?_
      refine GoH.v (Vop.ldN (cs := NV.cells h[m]) rfl rfl rfl rfl isAgg80 sizeOf80 (fun w _ hS => Sl.many (enc := NV.cells) (sz := 6) (hb.ex0 hS.ext).at_ (fun _ => rfl) hm)) ?_
      refine GoH.alc rfl rfl rfl (fun _ => zeroValue80 _) (fun b10 => ?_)
      refine GoH.stB rfl rfl rfl rfl sizeOf80 0 rfl rfl rfl rfl ?_
      refine gE (gS (gS (gR ?_))); refine gFp underlying80 sizeOf3 0 ?_; refine gLo isAgg3 0 ?_
      refine gP rfl rfl rfl rfl rfl call92 (fun w _ hS => (by exact usesX_c h[m].op w)) ?_
      refine gE ?_
      refine gC (fun hc => ?_) fun hc => ?_
      ·
       have hX : usX h[m].op = true := hc
       have hxr := hokn.x hX
       refine gR ?_; refine gFp underlying80 sizeOf3 4 ?_; refine gLo isAgg3 0 ?_; refine gMv ?_; refine gBl underlying23 ?_; refine gBx rfl rfl rfl rfl (bAdd (by omega)) ?_; refine gFp underlying80 sizeOf3 4 ?_
       refine GoH.st rfl rfl rfl rfl sizeOf3 rfl 0 rfl rfl ?_
       refine gE (gS (gS (gR ?_))); refine gFp underlying80 sizeOf3 0 ?_; refine gLo isAgg3 0 ?_
       refine gP rfl rfl rfl rfl rfl call93 (fun w _ hS => (by exact usesY_c h[m].op w)) ?_
       refine gE ?_
       refine gC (fun hc => ?_) fun hc => ?_
       ·
        have hY2 : usY h[m].op = true := hc
        have hyr := hokn.y hY2
        refine gR ?_; refine gFp underlying80 sizeOf3 5 ?_; refine gLo isAgg3 0 ?_; refine gMv ?_; refine gBl underlying23 ?_; refine gBx rfl rfl rfl rfl (bAdd (by omega)) ?_; refine gFp underlying80 sizeOf3 5 ?_
        refine GoH.st rfl rfl rfl rfl sizeOf3 rfl 0 rfl rfl ?_
        refine gE (gR ?_); refine gMv ?_
        refine GoH.v (Vop.ldB rfl rfl rfl rfl isAgg80 0 rfl sizeOf80 rfl) ?_
        refine GoH.bsN (c := [_, _, _, _, _, _]) rfl rfl rfl rfl underlying23 sizeOf80 zeroValue80 rfl rfl (fun b62 => ?_)
        have hsh : shiftN f.length h[m] = ({ h[m] with x := (h[m]).x + (f.length : Int), y := (h[m]).y + (f.length : Int) } : NV) := by simp [shiftN, hX, hY2]
        have hct := cat_take (o := f) hm
        rw [hsh] at hct
        have e1 : (catN f (h.take m)).flatMap NV.cells ++ NV.cells ({ h[m] with x := (h[m]).x + (f.length : Int), y := (h[m]).y + (f.length : Int) } : NV) = (catN f (h.take (m + 1))).flatMap NV.cells := by rw [hct, List.flatMap_append]; simp
        have e2 : (catN f (h.take m)).length + 1 = (catN f (h.take (m + 1))).length := by rw [hct]; simp
        refine GoH.app 6 (xs := (catN f (h.take m)).flatMap NV.cells) (sp := sp) (nx := (catN f (h.take m)).length) (q := q) (news := NV.cells ({ h[m] with x := (h[m]).x + (f.length : Int), y := (h[m]).y + (f.length : Int) } : NV)) (spn := []) rfl rfl rfl rfl rfl underlying23 hiN hzN hszN rfl hq 3 rfl 0 rfl flatN hcap rfl (by decide) (fun u hu => by
          simp only [NV.cells, List.mem_cons, List.not_mem_nil, or_false] at hu
          rcases hu with rfl | rfl | rfl | rfl | rfl | rfl <;> rfl) (by unfold maxLen; omega) (by rw [hbyN]; omega) (fun b' sp' cap' hlen => ?_)
        simp only [e1, e2] at hlen ⊢
        refine gAs ?_; refine gE (gIb (gR ?_)); refine gMv ?_; refine gBx rfl rfl rfl rfl (bAdd (by omega)) ?_; refine gAs ?_; refine gE ?_
        exact IH2 (m + 1, some b', cap', sp') _ _ ⟨hm, (fun e => by cases e), hlen⟩ (by dsimp only; omega) ⟨rfl, rfl, rfl, rfl, rfl, trivial⟩ (.cons _ (.cons _ (List.Sublist.refl _)))
       ·
        have hY2 : usY h[m].op = false := hc
        refine gK (gR ?_); refine gMv ?_
        refine GoH.v (Vop.ldB rfl rfl rfl rfl isAgg80 0 rfl sizeOf80 rfl) ?_
        refine GoH.bsN (c := [_, _, _, _, _, _]) rfl rfl rfl rfl underlying23 sizeOf80 zeroValue80 rfl rfl (fun b62 => ?_)
        have hsh : shiftN f.length h[m] = ({ h[m] with x := (h[m]).x + (f.length : Int) } : NV) := by simp [shiftN, hX, hY2]
        have hct := cat_take (o := f) hm
        rw [hsh] at hct
        have e1 : (catN f (h.take m)).flatMap NV.cells ++ NV.cells ({ h[m] with x := (h[m]).x + (f.length : Int) } : NV) = (catN f (h.take (m + 1))).flatMap NV.cells := by rw [hct, List.flatMap_append]; simp
        have e2 : (catN f (h.take m)).length + 1 = (catN f (h.take (m + 1))).length := by rw [hct]; simp
        refine GoH.app 6 (xs := (catN f (h.take m)).flatMap NV.cells) (sp := sp) (nx := (catN f (h.take m)).length) (q := q) (news := NV.cells ({ h[m] with x := (h[m]).x + (f.length : Int) } : NV)) (spn := []) rfl rfl rfl rfl rfl underlying23 hiN hzN hszN rfl hq 3 rfl 0 rfl flatN hcap rfl (by decide) (fun u hu => by
          simp only [NV.cells, List.mem_cons, List.not_mem_nil, or_false] at hu
          rcases hu with rfl | rfl | rfl | rfl | rfl | rfl <;> rfl) (by unfold maxLen; omega) (by rw [hbyN]; omega) (fun b' sp' cap' hlen => ?_)
        simp only [e1, e2] at hlen ⊢
        refine gAs ?_; refine gE (gIb (gR ?_)); refine gMv ?_; refine gBx rfl rfl rfl rfl (bAdd (by omega)) ?_; refine gAs ?_; refine gE ?_
        exact IH2 (m + 1, some b', cap', sp') _ _ ⟨hm, (fun e => by cases e), hlen⟩ (by dsimp only; omega) ⟨rfl, rfl, rfl, rfl, rfl, trivial⟩ (.cons _ (.cons _ (List.Sublist.refl _)))
      ·
       have hX : usX h[m].op = false := hc
       have hY2 := usX_of_Y hX
       refine gK (gS (gS (gR ?_))); refine gFp underlying80 sizeOf3 0 ?_; refine gLo isAgg3 0 ?_
       refine gP rfl rfl rfl rfl rfl call93 (fun w _ hS => (by exact usesY_c h[m].op w)) ?_
       refine gE ?_
       refine gC (fun hc => ?_) fun hc => ?_
       ·
        exact absurd (hY2.symm.trans hc) (by decide)
       ·
        refine gK (gR ?_); refine gMv ?_
        refine GoH.v (Vop.ldB rfl rfl rfl rfl isAgg80 0 rfl sizeOf80 rfl) ?_
        refine GoH.bsN (c := [_, _, _, _, _, _]) rfl rfl rfl rfl underlying23 sizeOf80 zeroValue80 rfl rfl (fun b62 => ?_)
        have hsh : shiftN f.length h[m] = h[m] := by simp [shiftN, hX, hY2]
        have hct := cat_take (o := f) hm
        rw [hsh] at hct
        have e1 : (catN f (h.take m)).flatMap NV.cells ++ NV.cells h[m] = (catN f (h.take (m + 1))).flatMap NV.cells := by rw [hct, List.flatMap_append]; simp
        have e2 : (catN f (h.take m)).length + 1 = (catN f (h.take (m + 1))).length := by rw [hct]; simp
        refine GoH.app 6 (xs := (catN f (h.take m)).flatMap NV.cells) (sp := sp) (nx := (catN f (h.take m)).length) (q := q) (news := NV.cells h[m]) (spn := []) rfl rfl rfl rfl rfl underlying23 hiN hzN hszN rfl hq 3 rfl 0 rfl flatN hcap rfl (by decide) (fun u hu => by
          simp only [NV.cells, List.mem_cons, List.not_mem_nil, or_false] at hu
          rcases hu with rfl | rfl | rfl | rfl | rfl | rfl <;> rfl) (by unfold maxLen; omega) (by rw [hbyN]; omega) (fun b' sp' cap' hlen => ?_)
        simp only [e1, e2] at hlen ⊢
        refine gAs ?_; refine gE (gIb (gR ?_)); refine gMv ?_; refine gBx rfl rfl rfl rfl (bAdd (by omega)) ?_; refine gAs ?_; refine gE ?_
        exact IH2 (m + 1, some b', cap', sp') _ _ ⟨hm, (fun e => by cases e), hlen⟩ (by dsimp only; omega) ⟨rfl, rfl, rfl, rfl, rfl, trivial⟩ (.cons _ (.cons _ (List.Sublist.refl _)))
     ·
      have hge : ¬ m < h.length := by simpa using hc
      obtain rfl : m = h.length := by omega
      rw [List.take_length] at hq hcap hcl2
      rw [List.take_length]
      refine GoH.exit rfl (gS (gR ?_))
      refine gMv ?_; refine gBl underlying23 ?_
      refine gBx rfl rfl rfl rfl (bSubE (c := ((f.length - 1 : Nat) : Int)) (by omega) (by omega)) ?_
      refine gMv ?_; refine gBl underlying23 ?_
      refine gBx rfl rfl rfl rfl (bSubE (c := (((catN f h).length - 1 : Nat) : Int)) (by omega) (by omega)) ?_
      refine gFp underlying80 sizeOf3 4 ?_
      refine GoH.st rfl rfl rfl rfl sizeOf3 rfl 0 rfl rfl ?_
      refine gFp underlying80 sizeOf3 5 ?_
      refine GoH.st rfl rfl rfl rfl sizeOf3 rfl 0 rfl rfl ?_
      refine gE (gS (gS (gR ?_)))
      refine GoH.v (Vop.ldB rfl rfl rfl rfl isAgg80 0 rfl sizeOf80 rfl) ?_
      refine gMv ?_; refine gBl underlying23 ?_
      refine gP rfl rfl rfl rfl rfl call56 (fun w _ hS => (by exact rnode_c (⟨op, i, e, g, ((f.length - 1 : Nat) : Int), (((catN f h).length - 1 : Nat) : Int)⟩ : NV) ((catN f h).length : Int) w)) ?_
      refine gBi bNe ?_; refine gE ?_
      refine gC (fun hc => ?_) fun hc => ?_
      ·
       exact absurd hc (by rw [hnE]; decide)
      ·
       refine gK (gS (gR ?_)); refine gMv ?_
       refine GoH.v (Vop.ldB rfl rfl rfl rfl isAgg80 0 rfl sizeOf80 rfl) ?_
       refine GoH.bsN (c := [_, _, _, _, _, _]) rfl rfl rfl rfl underlying23 sizeOf80 zeroValue80 rfl rfl (fun b79 => ?_)
       have e1 : (catN f h).flatMap NV.cells ++ NV.cells (⟨op, i, e, g, ((f.length - 1 : Nat) : Int), (((catN f h).length - 1 : Nat) : Int)⟩ : NV) = (catN f h ++ [(⟨op, i, e, g, ((f.length - 1 : Nat) : Int), (((catN f h).length - 1 : Nat) : Int)⟩ : NV)]).flatMap NV.cells := by rw [List.flatMap_append]; simp
       have e2 : (catN f h).length + 1 = (catN f h ++ [(⟨op, i, e, g, ((f.length - 1 : Nat) : Int), (((catN f h).length - 1 : Nat) : Int)⟩ : NV)]).length := by simp
       refine GoH.app 6 (xs := (catN f h).flatMap NV.cells) (sp := sp) (nx := (catN f h).length) (q := q) (news := NV.cells (⟨op, i, e, g, ((f.length - 1 : Nat) : Int), (((catN f h).length - 1 : Nat) : Int)⟩ : NV)) (spn := []) rfl rfl rfl rfl rfl underlying23 hiN hzN hszN rfl hq 2 rfl 0 rfl flatN hcap rfl (by decide) (fun u hu => by
         simp only [NV.cells, List.mem_cons, List.not_mem_nil, or_false] at hu
         rcases hu with rfl | rfl | rfl | rfl | rfl | rfl <;> rfl) (by unfold maxLen; omega) (by rw [hbyN]; omega) (fun b' sp' cap' hlen => ?_)
       simp only [e1, e2] at hlen ⊢
       refine gM rfl rfl rfl rfl rfl call98 (fun w _ hS => (by exact short_c (some ⟨b', 0, none⟩) cap' (catN f h ++ [(⟨op, i, e, g, ((f.length - 1 : Nat) : Int), (((catN f h).length - 1 : Nat) : Int)⟩ : NV)]) w ⟨Sl.blk (hS.get (j := 2) rfl)⟩ hL.nodes (by simp) (by simp; omega))) ?_
       rintro v w1 w2 Y' hS he ho
       rw [show treeAt (catN f h ++ [(⟨op, i, e, g, ((f.length - 1 : Nat) : Int), (((catN f h).length - 1 : Nat) : Int)⟩ : NV)]) ((catN f h ++ [(⟨op, i, e, g, ((f.length - 1 : Nat) : Int), (((catN f h).length - 1 : Nat) : Int)⟩ : NV)]).length - 1) = .bin op i e g t u from by rw [← e2, Nat.add_sub_cancel]; exact hL.last] at ho
       obtain ⟨qr, capr, spr, rfl, hqr, hcapr, hS'⟩ := gainN hS he ho
       refine ⟨_, hS', ?_⟩
       refine gAs ?_; refine gE ?_
       refine gT func58 fun w' hS => ?_
       exact ⟨hS.ext, OwnN.mk hS 0 rfl rfl hqr hcapr⟩
theorem gorW_c (x y : FV) (w : World) (ha : FA w x.a x.f) (hx : chkF x.f = 0) (hb : FA w y.a y.f) (hy : chkF y.f = 0) : Cn Tryd.prog 28 [x.v, y.v] w (fun v w' => OwnN 80 w w' v (bT (.bin 6 0 0 0 (topT x.f) (topT y.f)))) := by
 refine Cn.of func28 rfl rfl ?_
 refine gS (gR ?_); refine gAs ?_; refine gE (gS (gR ?_))
 refine GoH.v (Vop.bld rfl rfl rfl rfl (bld (c := [_, _, _, _, _, _]) underlying80 (Szs.cons sizeOf3 (Szs.cons sizeOf3 (Szs.cons sizeOf3 (Szs.cons sizeOf3 (Szs.cons sizeOf3 (Szs.cons sizeOf3 Szs.nil)))))) zeroValue80 rfl)) ?_
 iterate 2 refine gMv ?_
 refine gM rfl rfl rfl rfl rfl call58 (fun w _ hS => (by exact rbinW_c 6 0 0 0 x.a x.c x.f (topT x.f) y.a y.c y.f (topT y.f) w (by decide) rfl rfl (ha.ex0 hS.ext) hx rfl (hb.ex0 hS.ext) hy rfl)) ?_
 rintro v w1 w2 Y' hS he ho
 obtain ⟨q, cap, sp, rfl, hq, hcap, hS'⟩ := gainN hS he ho
 refine ⟨_, hS', ?_⟩
 refine gAs ?_; refine gE ?_
 refine gT func28 fun w' hS => ?_
 exact ⟨hS.ext, OwnN.mk hS 0 rfl rfl hq hcap⟩
theorem gimpW_c (x y : FV) (w : World) (ha : FA w x.a x.f) (hx : chkF x.f = 0) (hb : FA w y.a y.f) (hy : chkF y.f = 0) : Cn Tryd.prog 27 [x.v, y.v] w (fun v w' => OwnN 80 w w' v (bT (.bin 7 0 0 0 (topT x.f) (topT y.f)))) := by
 refine Cn.of func27 rfl rfl ?_
 refine gS (gR ?_); refine gAs ?_; refine gE (gS (gR ?_))
 refine GoH.v (Vop.bld rfl rfl rfl rfl (bld (c := [_, _, _, _, _, _]) underlying80 (Szs.cons sizeOf3 (Szs.cons sizeOf3 (Szs.cons sizeOf3 (Szs.cons sizeOf3 (Szs.cons sizeOf3 (Szs.cons sizeOf3 Szs.nil)))))) zeroValue80 rfl)) ?_
 iterate 2 refine gMv ?_
 refine gM rfl rfl rfl rfl rfl call58 (fun w _ hS => (by exact rbinW_c 7 0 0 0 x.a x.c x.f (topT x.f) y.a y.c y.f (topT y.f) w (by decide) rfl rfl (ha.ex0 hS.ext) hx rfl (hb.ex0 hS.ext) hy rfl)) ?_
 rintro v w1 w2 Y' hS he ho
 obtain ⟨q, cap, sp, rfl, hq, hcap, hS'⟩ := gainN hS he ho
 refine ⟨_, hS', ?_⟩
 refine gAs ?_; refine gE ?_
 refine gT func27 fun w' hS => ?_
 exact ⟨hS.ext, OwnN.mk hS 0 rfl rfl hq hcap⟩
end Go.Proofs.YtlihcmknfdckdaaDoor
namespace Go.Proofs.YtlihcmknfdckdaaDoor
open Go.RowKit Go.Proofs.Wit Tryd
/-! the law HilbertPonens -/
theorem top_small {f : List NV} (h : chkF f = 0) : (canT (topT f)).length ≤ f.length := by
 have := compF_len h
 rw [compF_eq h] at this
 exact this
set_option maxRecDepth 8000 in
theorem hilbertPonens_c (l : Int) (A : Option Addr) (cA : Nat) (ls : List LV) (a : Option Addr) (ca : Nat) (f : List NV) (w : World) (hT : Axs w) (hA : LA w A ls) (ha : FA w a f) (hl : f.length ≤ maxLen) :
    Cn Tryd.prog 8 [.int .i64 l, .slice A ls.length cA, .slice a f.length ca] w (fun v _ => v = .bool true) := by
  refine Cn.of func8 rfl rfl ?_
  refine gS (gR ?_); refine gAs ?_; refine gE (gS (gS (gR ?_))); refine gMv ?_
  refine gM rfl rfl rfl rfl rfl call11 (fun w _ hS => (by exact gfewL_c A cA ls 20 w (by decide) (hA.ex0 hS.ext))) ?_
  rintro v w1 w2 Y' hS he ⟨b1, rfl, hb1⟩
  refine ⟨_, hS.later he, ?_⟩
  refine gUn uNot ?_; refine gMv ?_
  refine gCs 15 (fun hc => ?_) fun hc => ?_
  ·
   have h1 : b1 = false := by simpa using hc
   iterate 4 refine gNo ?_
   refine gPt ?_; refine gMv ?_
   iterate 3 refine gNo ?_
   refine gPt ?_; refine gMv ?_
   iterate 3 refine gNo ?_
   refine gPt ?_; refine gMv ?_
   iterate 3 refine gNo ?_
   refine gPt ?_; refine gMv ?_
   iterate 3 refine gNo ?_
   refine gPt ?_; refine gE (GoH.condT rfl (gS (gR ?_)))
   refine gP rfl rfl rfl rfl rfl call13 (fun w _ hS => (by exact awake49_c w (hT.ex hS.ext))) ?_
   refine gAs ?_; refine gE ?_
   refine gT func8 fun w' hS => ?_
   exact ⟨hS.ext, rfl⟩
  ·
   have h1 : b1 = true := by simpa using hc
   obtain ⟨hal, hfl⟩ := hb1 h1
   iterate 2 refine gMv ?_
   refine gP rfl rfl rfl rfl rfl call14 (fun w _ hS => (by exact hcheck_c l A cA ls w (hA.ex0 hS.ext) (hT.ex hS.ext))) ?_
   refine gBi bNe ?_; refine gPf ?_; refine gMv ?_
   refine gCs 21 (fun hc => ?_) fun hc => ?_
   ·
    have h2 : checkH l ls ≠ 0 := by simpa using hc
    iterate 3 refine gNo ?_
    refine gPt ?_; refine gMv ?_
    iterate 3 refine gNo ?_
    refine gPt ?_; refine gMv ?_
    iterate 3 refine gNo ?_
    refine gPt ?_; refine gMv ?_
    iterate 3 refine gNo ?_
    refine gPt ?_; refine gE (GoH.condT rfl (gS (gR ?_)))
    refine gP rfl rfl rfl rfl rfl call13 (fun w _ hS => (by exact awake49_c w (hT.ex hS.ext))) ?_
    refine gAs ?_; refine gE ?_
    refine gT func8 fun w' hS => ?_
    exact ⟨hS.ext, rfl⟩
   ·
    have h2 : checkH l ls = 0 := by simpa using hc
    refine gMv ?_; refine gBl underlying22 ?_; refine gBi bEq ?_; refine gPf ?_; refine gMv ?_
    refine gCs 26 (fun hc => ?_) fun hc => ?_
    ·
     have h3 : ls.length = 0 := by simpa using hc
     iterate 3 refine gNo ?_
     refine gPt ?_; refine gMv ?_
     iterate 3 refine gNo ?_
     refine gPt ?_; refine gMv ?_
     iterate 3 refine gNo ?_
     refine gPt ?_; refine gE (GoH.condT rfl (gS (gR ?_)))
     refine gP rfl rfl rfl rfl rfl call13 (fun w _ hS => (by exact awake49_c w (hT.ex hS.ext))) ?_
     refine gAs ?_; refine gE ?_
     refine gT func8 fun w' hS => ?_
     exact ⟨hS.ext, rfl⟩
    ·
     have h3 : ¬ ls.length = 0 := by simpa using hc
     refine gMv ?_
     refine gP rfl rfl rfl rfl rfl call12 (fun w _ hS => (by exact gfewF_c a ca f 12 w)) ?_
     refine gUn uNot ?_; refine gPf ?_; refine gMv ?_
     refine gCs 31 (fun hc => ?_) fun hc => ?_
     ·
      have h4 : ¬ f.length ≤ 12 := by simpa using hc
      iterate 3 refine gNo ?_
      refine gPt ?_; refine gMv ?_
      iterate 3 refine gNo ?_
      refine gPt ?_; refine gE (GoH.condT rfl (gS (gR ?_)))
      refine gP rfl rfl rfl rfl rfl call13 (fun w _ hS => (by exact awake49_c w (hT.ex hS.ext))) ?_
      refine gAs ?_; refine gE ?_
      refine gT func8 fun w' hS => ?_
      exact ⟨hS.ext, rfl⟩
     ·
      have h4 : f.length ≤ 12 := by simpa using hc
      refine gMv ?_
      refine gP rfl rfl rfl rfl rfl call25 (fun w _ hS => (by exact rchk_c a ca f w (ha.ex0 hS.ext) hl)) ?_
      refine gBi bNe ?_; refine gPf ?_; refine gMv ?_
      refine gCs 36 (fun hc => ?_) fun hc => ?_
      ·
       have h5 : chkF f ≠ 0 := by simpa using hc
       iterate 3 refine gNo ?_
       refine gPt ?_; refine gE (GoH.condT rfl (gS (gR ?_)))
       refine gP rfl rfl rfl rfl rfl call13 (fun w _ hS => (by exact awake49_c w (hT.ex hS.ext))) ?_
       refine gAs ?_; refine gE ?_
       refine gT func8 fun w' hS => ?_
       exact ⟨hS.ext, rfl⟩
      ·
       have h5 : chkF f = 0 := by simpa using hc
       refine gMv ?_
       refine gP rfl rfl rfl rfl rfl call26 (fun w _ hS => (by exact glang2_c a ca f w (ha.ex0 hS.ext) hl)) ?_
       refine gUn uNot ?_; refine gPf ?_; refine gE ?_
       refine gC (fun hc => ?_) fun hc => ?_
       ·
        have h6 : ¬ andN (frgL (compF f)) 11 = 0 := by simpa using hc
        refine gS (gR ?_)
        refine gP rfl rfl rfl rfl rfl call13 (fun w _ hS => (by exact awake49_c w (hT.ex hS.ext))) ?_
        refine gAs ?_; refine gE ?_
        refine gT func8 fun w' hS => ?_
        exact ⟨hS.ext, rfl⟩
       ·
        have h6 : andN (frgL (compF f)) 11 = 0 := by simpa using hc
        have hlt : ls.length - 1 < ls.length := by omega
        obtain ⟨hfa, hfal⟩ := hA.fs ls[ls.length - 1] (List.getElem_mem hlt)
        have hf60 := hfl _ (List.getElem_mem hlt)
        obtain ⟨hck, _⟩ := formE_zero.1 (line_form h2 _ hlt)
        obtain ⟨X, hX⟩ : ∃ X, X = topT ls[ls.length - 1].f.f := ⟨_, rfl⟩
        obtain ⟨Y, hY⟩ : ∃ Y, Y = topT f := ⟨_, rfl⟩
        have hXo : X.ok := by rw [hX]; exact (chkF_zero.1 hck).top
        have hYo : Y.ok := by rw [hY]; exact (chkF_zero.1 h5).top
        have hXs : (canT X).length ≤ 60 := by rw [hX]; exact Nat.le_trans (top_small hck) hf60
        have hYs : (canT Y).length ≤ 12 := by rw [hY]; exact Nat.le_trans (top_small h5) h4
        obtain ⟨O, hO⟩ : ∃ O, O = Tr.bin 6 0 0 0 Y X := ⟨_, rfl⟩
        have hOo : O.ok := by rw [hO]; exact ⟨by decide, rfl, by decide, hYo, hXo⟩
        have hOs : (canT O).length ≤ 73 := by rw [hO]; exact Nat.le_trans canT_bin (by omega)
        have hTo : (imT X O).ok := im_ok hXo hOo
        have hTs : (canT (imT X O)).length ≤ 134 := Nat.le_trans canT_bin (by omega)
        have hcO : Cf (bT O) O := Cf.ofB hOo (bT_ne.2 (by omega))
        have hcT : Cf (bT (imT X O)) (imT X O) := Cf.ofB hTo (bT_ne.2 (by omega))
        have hlX : lstT ls = X := by rw [hX]; exact lnT_get hlt (by omega)
        refine gK (gS (gR ?_))
        iterate 2 refine gMv ?_
        refine gBl underlying22 ?_
        refine gBx rfl rfl rfl rfl (bSubE (c := ((ls.length - 1 : Nat) : Int)) (by omega) (by omega)) ?_
        refine GoH.v (Vop.idxN rfl rfl rfl rfl rfl underlying22 sizeOf40 ⟨_, (hA).at_⟩ (flat_len (enc := LV.cells) (sz := 5) (fun _ => rfl)) (by decide) ((ls.length - 1)) ⟨rfl, hlt⟩) ?_
        refine GoH.v (Vop.fldA rfl rfl rfl rfl underlying40 rfl sizeOf23 (((ls.length - 1)) * 5 + 0) rfl) ?_
        refine GoH.v (Vop.ld rfl rfl rfl rfl isAgg23 (fun w _ hS => Sl.fld (enc := LV.cells) (sz := 5) ((hA).ex0 hS.ext).at_ (fun _ => rfl) hlt rfl)) ?_
        refine gAs ?_; refine gE (gS (gR ?_))
        iterate 3 refine gMv ?_
        refine gM rfl rfl rfl rfl rfl call28 (fun w _ hS => (by have := gorW_c ⟨a, ca, f⟩ ls[ls.length - 1].f w (ha.ex0 hS.ext) h5 (hfa.ex0 hS.ext) hck; rw [← hX, ← hY, ← hO] at this; exact this)) ?_
        rintro v w1 w2 Y' hS he ho
        obtain ⟨qo, co, spo, rfl, hqo, hco, hS'⟩ := gainN hS he ho
        refine ⟨_, hS', ?_⟩
        refine gM rfl rfl rfl rfl rfl call27 (fun w _ hS => (by have := gimpW_c ls[ls.length - 1].f ⟨qo.map (fun b => ⟨b, 0, none⟩), co, bT O⟩ w (hfa.ex0 hS.ext) hck (faAt hS 0 rfl (fun e => (hqo e).1)) hcO.chk; rw [← hX, hcO.top] at this; exact this)) ?_
        rintro v w1 w2 Y' hS he ho
        obtain ⟨qi, ci, spi, rfl, hqi, hci, hS'⟩ := gainN hS he ho
        refine ⟨_, hS', ?_⟩
        refine gAs ?_; refine gE (gS (gR ?_)); refine gMv ?_
        refine GoH.v (Vop.bld rfl rfl rfl rfl (bld (c := [_, _, _, _, _]) underlying40 (Szs.cons sizeOf23 (Szs.cons sizeOf3 (Szs.cons sizeOf3 (Szs.cons sizeOf3 (Szs.cons sizeOf3 Szs.nil))))) zeroValue40 rfl)) ?_
        refine GoH.bsN (c := [_, _, _, _, _]) rfl rfl rfl rfl underlying22 sizeOf40 zeroValue40 rfl rfl (fun b56 => ?_)
        refine gAs ?_; refine gE (gS (gS (gR ?_)))
        iterate 2 refine gMv ?_
        refine gP rfl rfl rfl rfl rfl call14 (fun w _ hS => (by exact hcheck_c l (some ⟨b56, 0, none⟩) 1 [⟨⟨qi.map (fun b => ⟨b, 0, none⟩), ci, bT (imT X O)⟩, 1, 0, 0, 0⟩] w ⟨Sl.blk (hS.get (j := 0) rfl), List.forall_mem_cons.2 ⟨⟨faAt hS 1 rfl (fun e => (hqi e).1), (show (bT (imT X O)).length ≤ maxLen from bT_max rfl)⟩, fun _ h => by cases h⟩⟩ (hT.ex hS.ext))) ?_
        refine gBi bNe ?_; refine gE ?_
        refine gC (fun hc => ?_) fun hc => ?_
        ·
         have h7 : checkH l [⟨⟨qi.map (fun b => ⟨b, 0, none⟩), ci, bT (imT X O)⟩, 1, 0, 0, 0⟩] ≠ 0 := by simpa using hc
         refine gS (gR ?_)
         refine gP rfl rfl rfl rfl rfl call13 (fun w _ hS => (by exact awake49_c w (hT.ex hS.ext))) ?_
         refine gAs ?_; refine gE ?_
         refine gT func8 fun w' hS => ?_
         exact ⟨hS.ext, rfl⟩
        ·
         have h7 : checkH l [⟨⟨qi.map (fun b => ⟨b, 0, none⟩), ci, bT (imT X O)⟩, 1, 0, 0, 0⟩] = 0 := by simpa using hc
         obtain ⟨bs, hbs⟩ : ∃ bs : List LV, bs = [⟨⟨qi.map (fun b => ⟨b, 0, none⟩), ci, bT (imT X O)⟩, 1, 0, 0, 0⟩] := ⟨_, rfl⟩
         have hbl : bs.length = 1 := by rw [hbs]; rfl
         have h7b : checkH l bs = 0 := by rw [hbs]; exact h7
         have hlT : lstT bs = imT X O := by rw [hbs]; exact (lnT_get (k := 0) (by simp) (by simp)).trans hcT.top
         have hjE : joiE l ls bs = 0 := by
           rw [joiE, if_neg (by simp [h2]), if_neg (by simp [h7b]), hlX, hlT]
           show (if imT X O ≠ imT X O then (13 : Int) else if 400 < ls.length + bs.length + 1 then 8 else 0) = 0
           rw [if_neg (fun h => h rfl), if_neg (by omega)]
         have hjc : checkH l ((joiL ls bs).map LD.v) = 0 := joi_check h2 h7b (by rw [hlX, hlT]; rfl) (by omega)
         have hj1 : joiL ls bs = ls.map (mvL id) ++ bs.map (mvL (fun y => y + ls.length)) ++ [⟨bT O, 10, (ls.length : Int) - 1, (ls.length : Int) + bs.length - 1, 0⟩] := by rw [joiL, hlT]; rfl
         refine gK (gS (gR ?_))
         iterate 3 refine gMv ?_
         refine gM rfl rfl rfl rfl rfl call29 (fun w _ hS => (by have := hjoin_c l A cA ls (some ⟨b56, 0, none⟩) 1 bs w (hA.ex0 hS.ext) (by rw [hbs]; exact ⟨Sl.blk (hS.get (j := 0) rfl), List.forall_mem_cons.2 ⟨⟨faAt hS 1 rfl (fun e => (hqi e).1), (show (bT (imT X O)).length ≤ maxLen from bT_max rfl)⟩, fun _ h => by cases h⟩⟩) (hT.ex hS.ext); rw [hjE, hbl] at this; exact this)) ?_
         rintro v w1 w2 Y' hS he ⟨sv, x3, rfl, ⟨q3, c3, s3, H3, rfl, hq3, hc3, hn3, hi3⟩, hx3, hx3'⟩
         have hxd := hx3 rfl
         have hxl : x3.length = ls.length + 2 := by have := congrArg List.length hxd; rw [List.length_map, joi_len] at this; omega
         have hcx : checkH l x3 = 0 := checkH_dat (by rw [hxd, List.map_map]; exact List.map_id _) hjc
         have hlast : (x3.map (fun x => x.f.f)).getD (x3.length - 1) [] = bT O := by
           have e1 : x3.map (fun x => x.f.f) = (joiL ls bs).map LD.f := by rw [← hxd, List.map_map]; rfl
           have e2 := joi_C (a := ls) (b := bs)
           rw [e1, List.getD_eq_getElem?_getD, List.getElem?_map, show x3.length - 1 = ls.length + bs.length by omega, e2, hlT]; rfl
         refine ⟨_, hS.gainPre (pre := [_]) he hn3, ?_⟩
         refine gMv ?_
         iterate 2 refine gEx ?_
         iterate 2 refine gAs ?_
         refine gE (gS (gR ?_)); refine gMv ?_
         refine gBx rfl rfl rfl rfl (bEqV (v := true) rfl) ?_
         iterate 2 refine gMv ?_
         refine gBl underlying22 ?_; refine gMv ?_; refine gBl underlying22 ?_; refine gBx rfl rfl rfl rfl (bAdd (by omega)) ?_
         refine gBx rfl rfl rfl rfl (bEqV (v := true) (by rw [hxl, beq_iff_eq]; omega)) ?_
         refine gPt ?_
         iterate 5 refine gMv ?_
         refine gM rfl rfl rfl rfl rfl call28 (fun w _ hS => (by have := gorW_c ⟨a, ca, f⟩ ls[ls.length - 1].f w (ha.ex0 hS.ext) h5 (hfa.ex0 hS.ext) hck; rw [← hX, ← hY, ← hO] at this; exact this)) ?_
         rintro v w1 w2 Y' hS he ho
         obtain ⟨qp, cp, spp, rfl, hqp, hcp, hS'⟩ := gainN hS he ho
         refine ⟨_, hS', ?_⟩
         refine gP rfl rfl rfl rfl rfl call16 (fun w _ hS => (by exact hproves_c l (q3.map (fun b => ⟨b, 0, none⟩)) c3 x3 (qp.map (fun b => ⟨b, 0, none⟩)) cp (bT O) w (laAt0 hS 1 rfl (fun e => (hq3 e).1) (fun x hx => ⟨(hi3 x hx).1.mono (fun z hz => by simp [hz]), (hi3 x hx).2⟩)) (hT.ex hS.ext) (faAt hS 0 rfl (fun e => (hqp e).1)) (bT_max rfl))) ?_
         rw [show (decide (checkH l x3 = 0) && sameB ((x3.map (fun x => x.f.f)).getD (x3.length - 1) []) (bT O)) = true from by rw [hcx, hlast, sameB_cf hcO hOo]; simp]
         refine gPt ?_; refine gMv ?_
         refine gP rfl rfl rfl rfl rfl call13 (fun w _ hS => (by exact awake49_c w (hT.ex hS.ext))) ?_
         refine gPt ?_; refine gAs ?_; refine gE ?_
         refine gT func8 fun w' hS => ?_
         exact ⟨hS.ext, rfl⟩
end Go.Proofs.YtlihcmknfdckdaaDoor
