/- What calls of the program return, under the conditions that each theorem states. -/
import Derived.Test.YtkoipdlkkchmiaaC32
import Derived.Test.YtkoipdlkkchmiaaC33
import Derived.Test.YtkoipdlkkchmiaaC03
import Derived.Test.YtkoipdlkkchmiaaC21
namespace Go.Proofs.Ytkoipdlkkchmiaa
open Go.RowKit Go.Proofs.Wit
/-! the reference's rules of simplification -/
theorem top_c (a : Option Addr) (ca : Nat) (f : List NV) (t : Tr) (w : World) (ha : FA w a f) (h : Cf f t) : Cn Try.prog 62 [.slice a f.length ca] w (fun v _ => v = .int .i64 (topO t)) := by
  have hp := h.pos
  have hle := h.le
  obtain ⟨k, hk⟩ : ∃ k, k = f.length - 1 := ⟨_, rfl⟩
  have hlt : k < f.length := by omega
  have hlast := h.last (by omega)
  refine Cn.of Try.func62 rfl rfl ?_
  refine gS (gR ?_)
  refine gAs ?_
  refine gE (gS (gS (gR ?_)))
  refine gMv ?_
  refine gBl Try.underlying22 ?_
  refine gBi bEq ?_
  refine gE ?_
  refine GoH.cond rfl (fun hc => ?_) (fun hc => ?_)
  ·
   exact absurd hc (by simp; exact h.ne)
  ·
   refine gK (gS (gR ?_))
   iterate 2 refine gMv ?_
   refine gBl Try.underlying22 ?_
   refine GoH.v (Vop.bin rfl rfl rfl rfl (bSubE (c := (k : Int)) (by omega) (by omega)) rfl) ?_
   refine GoH.v (Vop.idxN rfl rfl rfl rfl rfl Try.underlying22 Try.sizeOf49 ⟨_, (ha).at_⟩ (flat_len (enc := NV.cells) (sz := 6) (fun _ => rfl)) (by decide) (k) ⟨rfl, hlt⟩) ?_
   refine GoH.v (Vop.fldA rfl rfl rfl rfl Try.underlying49 rfl Try.sizeOf3 ((k) * 6 + 0) rfl) ?_
   refine GoH.v (Vop.ld rfl rfl rfl rfl Try.isAgg3 (fun w _ hS => Sl.fld (enc := NV.cells) (sz := 6) ((ha).ex0 hS.ext).at_ (fun _ => rfl) hlt rfl)) ?_
   refine gAs ?_
   refine gE ?_
   refine GoH.ret Try.f62 Try.func62 rfl (fun w' hS => ?_)
   subst hk
   exact ⟨hS.ext, by rw [← hlast.1]; rfl⟩
theorem ropposite_c (a : Option Addr) (ca : Nat) (f : List NV) (t : Tr) (w : World) (ha : FA w a f) (h : Cf f t) : Cn Try.prog 64 [.slice a f.length ca] w (fun v w' => OwnN 49 w w' v (bT (negT t))) := by
  have hp := h.pos
  have hle := h.le
  have hcf : compF f = f := by rw [compF_eq h.chk, h.top]; exact h.can.1.symm
  obtain ⟨k, hk⟩ : ∃ k, k = f.length - 1 := ⟨_, rfl⟩
  have hlt : k < f.length := by omega
  have hlast := h.last (by omega)
  refine Cn.of Try.func64 rfl rfl ?_
  refine gS (gR ?_)
  refine gAs ?_
  refine gE (gS (gR ?_))
  refine gMv ?_
  refine GoH.callM _ rfl rfl rfl rfl rfl (fun _ _ => Try.call19 _ _) (fun w _ hS => (by exact rcompact_c a ca f w (ha.ex0 hS.ext) (by unfold maxLen; omega))) ?_
  rintro v w1 w2 Y' hS he ho
  rw [subF_top, hcf] at ho
  obtain ⟨qc, capc, spc, rfl, hqc, hcapc, hS'⟩ := gainN hS he ho
  refine ⟨_, hS', ?_⟩
  refine gAs ?_
  refine gE (gS (gS (gR ?_)))
  refine gMv ?_
  refine gBl Try.underlying22 ?_
  refine gBi bEq ?_
  refine gE ?_
  refine GoH.cond rfl (fun hc => ?_) (fun hc => ?_)
  ·
   exact absurd hc (by simp; exact h.ne)
  ·
   obtain ⟨bc, rfl⟩ : ∃ bc, qc = some bc := by
     cases qc with
     | none => have := (hqc rfl).1; omega
     | some b => exact ⟨b, rfl⟩
   refine gK (gS (gS (gR ?_)))
   iterate 2 refine gMv ?_
   refine gBl Try.underlying22 ?_
   refine GoH.v (Vop.bin rfl rfl rfl rfl (bSubE (c := (k : Int)) (by omega) (by omega)) rfl) ?_
   refine GoH.v (Vop.idxS rfl rfl rfl rfl rfl Try.underlying22 Try.sizeOf49 k ⟨rfl, hlt⟩) ?_
   refine GoH.v (Vop.ldN (cs := NV.cells f[k]) rfl rfl rfl rfl Try.isAgg49 Try.sizeOf49 (fun w _ hS => Sl.many (enc := NV.cells) (sz := 6) (a := some ⟨bc, 0, none⟩) (Sl.blk (hS.get (j := 0) rfl)) (fun _ => rfl) hlt)) ?_
   refine GoH.alc rfl rfl rfl (fun _ => Try.zeroValue49 _) (fun b4 => ?_)
   refine GoH.stB rfl rfl rfl rfl Try.sizeOf49 0 rfl rfl rfl rfl ?_
   refine gE (gS (gR ?_))
   refine gFp Try.underlying49 Try.sizeOf3 0 ?_
   refine gLo Try.isAgg3 0 ?_
   refine gBi bEq ?_
   refine gE ?_
   refine GoH.cond rfl (fun hc => ?_) (fun hc => ?_)
   ·
    subst hk
    have h4 : f[f.length - 1].op = 4 := by simpa using hc
    obtain ⟨hs, h5, h6⟩ := hlast.2 h4
    have hsub : subF f f[f.length - 1].x = bT (negT t) := by
      rw [subF, if_neg (by rw [h.chk]; simp; omega)]
      have e1 : negT t = treeAt f f[f.length - 1].x.toNat := by simp [negT, hs]
      rw [e1]
      exact (bT_ok (by have := canT_kid (kid_in hs); have := h.can.2; omega)).symm
    refine gS (gR ?_)
    refine gMv ?_
    refine gFp Try.underlying49 Try.sizeOf3 4 ?_
    refine gLo Try.isAgg3 0 ?_
    refine GoH.callM _ rfl rfl rfl rfl rfl (fun _ _ => Try.call54 _ _) (fun w _ hS => (by exact rsub_c (some ⟨bc, 0, none⟩) capc f f[f.length - 1].x w ⟨Sl.blk (hS.get (j := 1) rfl)⟩ (by unfold maxLen; omega))) ?_
    rintro v w1 w2 Y' hS he ho
    rw [hsub] at ho
    obtain ⟨q, cap, sp, rfl, hq, hcap, hS'⟩ := gainN hS he ho
    refine ⟨_, hS', ?_⟩
    refine gAs ?_
    refine gE ?_
    refine GoH.ret Try.f64 Try.func64 rfl (fun w' hS => ?_)
    exact ⟨hS.ext, OwnN.mk hS 0 rfl rfl hq hcap⟩
   ·
    subst hk
    have h4 : topO t ≠ 4 := by rw [← hlast.1]; simpa using hc
    have hs := strT_none h.ok h4
    have e1 : negT t = ntT t := by simp [negT, hs]
    refine gK (gS (gR ?_))
    refine gMv ?_
    refine GoH.callM _ rfl rfl rfl rfl rfl (fun _ _ => Try.call38 _ _) (fun w _ hS => (by exact rnot_c (some ⟨bc, 0, none⟩) capc f t w ⟨Sl.blk (hS.get (j := 1) rfl)⟩ h.eq h.ok)) ?_
    rintro v w1 w2 Y' hS he ho
    rw [← e1] at ho
    obtain ⟨q, cap, sp, rfl, hq, hcap, hS'⟩ := gainN hS he ho
    refine ⟨_, hS', ?_⟩
    refine gAs ?_
    refine gE ?_
    refine GoH.ret Try.f64 Try.func64 rfl (fun w' hS => ?_)
    exact ⟨hS.ext, OwnN.mk hS 0 rfl rfl hq hcap⟩
theorem same_tr {f g : List NV} {s t : Tr} (h : Cf f s) (h' : Cf g t) : sameB f g = (s == t) := by
  rw [same_cf h.chk h', h.top]
  by_cases e : s = t
  · simp [e]
  · rw [decide_eq_false e]; symm; rw [beq_eq_false_iff_ne]; exact e
theorem rsame_t (x y : FV) (s t : Tr) (w : World) (ha : FA w x.a x.f) (hb : FA w y.a y.f) (h : Cf x.f s) (h' : Cf y.f t) : Cn Try.prog 22 [.slice x.a x.f.length x.c, .slice y.a y.f.length y.c] w (fun v _ => v = .bool (s == t)) := by
  have := rsame_c x.a x.c x.f y.a y.c y.f w ha hb (by have := h.le; unfold maxLen; omega) (by have := h'.le; unfold maxLen; omega)
  rw [same_tr h h'] at this; exact this

theorem opposed_c (x y : FV) (s t : Tr) (w : World) (ha : FA w x.a x.f) (hb : FA w y.a y.f) (h : Cf x.f s) (h' : Cf y.f t) : Cn Try.prog 87 [x.v, y.v] w (fun v _ => v = .bool (oppT s t)) := by
  have hA : ∀ {w' : World}, Ex [] w w' → FA w' x.a x.f := fun e => ha.ex0 e
  have hB : ∀ {w' : World}, Ex [] w w' → FA w' y.a y.f := fun e => hb.ex0 e
  have hpx := h.pos
  have hpy := h'.pos
  have hlx := h.le
  have hly := h'.le
  have hltx : x.f.length - 1 < x.f.length := by omega
  have hlty : y.f.length - 1 < y.f.length := by omega
  have hlastx := h.last hltx
  have hlasty := h'.last hlty
  refine Cn.of Try.func87 rfl rfl ?_
  refine gS (gR ?_)
  refine gAs ?_
  refine gE (gS (gR ?_))
  refine gMv ?_
  refine GoH.callP rfl rfl rfl rfl rfl (fun _ _ => Try.call62 _ _) (fun w _ hS => (by exact top_c x.a x.c x.f s w (hA hS.ext) h)) ?_
  refine gBi bEq ?_
  refine gMv ?_
  refine GoH.cases (d := 8) rfl (fun hc => ?_) (fun hc => ?_)
  ·
   have h41 : topO s = 4 := by simpa using hc
   obtain ⟨hs1, h51, h61⟩ := hlastx.2 (by rw [hlastx.1]; exact h41)
   obtain ⟨c1, hc1⟩ : ∃ c, c = treeAt x.f x.f[x.f.length - 1].x.toNat := ⟨_, rfl⟩
   rw [← hc1] at hs1
   have hcc1 := h.small (strT_ok h.ok hs1) (canT_kid (kid_in hs1))
   have hsub1 : subF x.f x.f[x.f.length - 1].x = bT c1 := by
     rw [subF, if_neg (by rw [h.chk]; simp; omega), hc1]
     exact (bT_ok (by have := canT_kid (kid_in hs1); rw [hc1] at this; have := h.can.2; omega)).symm
   iterate 3 refine gMv ?_
   refine gBl Try.underlying22 ?_
   refine GoH.v (Vop.bin rfl rfl rfl rfl (bSubE (c := ((x.f.length - 1 : Nat) : Int)) (by omega) (by omega)) rfl) ?_
   refine GoH.v (Vop.idxN rfl rfl rfl rfl rfl Try.underlying22 Try.sizeOf49 ⟨_, (ha).at_⟩ (flat_len (enc := NV.cells) (sz := 6) (fun _ => rfl)) (by decide) (x.f.length - 1) ⟨rfl, hltx⟩) ?_
   refine GoH.v (Vop.fldA rfl rfl rfl rfl Try.underlying49 rfl Try.sizeOf3 ((x.f.length - 1) * 6 + 4) rfl) ?_
   refine GoH.v (Vop.ld rfl rfl rfl rfl Try.isAgg3 (fun w _ hS => Sl.fld (enc := NV.cells) (sz := 6) ((ha).ex0 hS.ext).at_ (fun _ => rfl) hltx rfl)) ?_
   refine GoH.callM _ rfl rfl rfl rfl rfl (fun _ _ => Try.call54 _ _) (fun w _ hS => (by exact rsub_c x.a x.c x.f x.f[x.f.length - 1].x w (hA hS.ext) (by unfold maxLen; omega))) ?_
   rintro v w1 w2 Y' hS he ho
   rw [hsub1] at ho
   obtain ⟨r1, cap1, sp1, rfl, hq1, hcap1, hS'⟩ := gainN hS he ho
   have hv1 : (c1 == t) = (strT s == some t) := by rw [hs1]; simp
   refine ⟨_, hS', ?_⟩
   refine gMv ?_
   refine GoH.callP rfl rfl rfl rfl rfl (fun _ _ => Try.call22 _ _) (fun w _ hS => (by exact rsame_t ⟨r1.map (fun b => ⟨b, 0, none⟩), cap1, bT c1⟩ y c1 t w (faAt hS 0 rfl (fun e => (hq1 e).1)) (hB hS.ext) hcc1 h')) ?_
   refine gPt ?_
   refine gMv ?_
   refine GoH.cases (d := 21) rfl (fun hc => ?_) (fun hc => ?_)
   ·
    have h1 : (strT s == some t) = true := by rw [← hv1]; exact hc
    iterate 16 refine gNo ?_
    refine gPt ?_
    refine gAs ?_
    refine gE ?_
    refine GoH.ret Try.f87 Try.func87 rfl (fun w' hS => ?_)
    exact ⟨hS.ext, by rw [oppT, h1]; rfl⟩
   ·
    have h1 : (strT s == some t) = false := by rw [← hv1]; exact hc
    refine gMv ?_
    refine GoH.callP rfl rfl rfl rfl rfl (fun _ _ => Try.call62 _ _) (fun w _ hS => (by exact top_c y.a y.c y.f t w (hB hS.ext) h')) ?_
    refine gBi bEq ?_
    refine gMv ?_
    refine GoH.cases (d := 25) rfl (fun hc => ?_) (fun hc => ?_)
    ·
     have h42 : topO t = 4 := by simpa using hc
     obtain ⟨hs2, h52, h62⟩ := hlasty.2 (by rw [hlasty.1]; exact h42)
     obtain ⟨c2, hc2⟩ : ∃ c, c = treeAt y.f y.f[y.f.length - 1].x.toNat := ⟨_, rfl⟩
     rw [← hc2] at hs2
     have hcc2 := h'.small (strT_ok h'.ok hs2) (canT_kid (kid_in hs2))
     have hsub2 : subF y.f y.f[y.f.length - 1].x = bT c2 := by
       rw [subF, if_neg (by rw [h'.chk]; simp; omega), hc2]
       exact (bT_ok (by have := canT_kid (kid_in hs2); rw [hc2] at this; have := h'.can.2; omega)).symm
     iterate 3 refine gMv ?_
     refine gBl Try.underlying22 ?_
     refine GoH.v (Vop.bin rfl rfl rfl rfl (bSubE (c := ((y.f.length - 1 : Nat) : Int)) (by omega) (by omega)) rfl) ?_
     refine GoH.v (Vop.idxN rfl rfl rfl rfl rfl Try.underlying22 Try.sizeOf49 ⟨_, (hb).at_⟩ (flat_len (enc := NV.cells) (sz := 6) (fun _ => rfl)) (by decide) (y.f.length - 1) ⟨rfl, hlty⟩) ?_
     refine GoH.v (Vop.fldA rfl rfl rfl rfl Try.underlying49 rfl Try.sizeOf3 ((y.f.length - 1) * 6 + 4) rfl) ?_
     refine GoH.v (Vop.ld rfl rfl rfl rfl Try.isAgg3 (fun w _ hS => Sl.fld (enc := NV.cells) (sz := 6) ((hb).ex0 hS.ext).at_ (fun _ => rfl) hlty rfl)) ?_
     refine GoH.callM _ rfl rfl rfl rfl rfl (fun _ _ => Try.call54 _ _) (fun w _ hS => (by exact rsub_c y.a y.c y.f y.f[y.f.length - 1].x w (hB hS.ext) (by unfold maxLen; omega))) ?_
     rintro v w1 w2 Y' hS he ho
     rw [hsub2] at ho
     obtain ⟨r2, cap2, sp2, rfl, hq2, hcap2, hS'⟩ := gainN hS he ho
     have hv2 : (c2 == s) = (strT t == some s) := by rw [hs2]; simp
     refine ⟨_, hS', ?_⟩
     refine gMv ?_
     refine GoH.callP rfl rfl rfl rfl rfl (fun _ _ => Try.call22 _ _) (fun w _ hS => (by exact rsame_t ⟨r2.map (fun b => ⟨b, 0, none⟩), cap2, bT c2⟩ x c2 s w (faAt hS 0 rfl (fun e => (hq2 e).1)) (hA hS.ext) hcc2 h)) ?_
     refine gPt ?_
     refine gPf ?_
     refine gAs ?_
     refine gE ?_
     refine GoH.ret Try.f87 Try.func87 rfl (fun w' hS => ?_)
     exact ⟨hS.ext, by rw [oppT, h1, ← hv2]; rfl⟩
    ·
     have h4b : topO t ≠ 4 := by simpa using hc
     have hs2 := strT_none h'.ok h4b
     iterate 11 refine gNo ?_
     iterate 2 refine gPf ?_
     refine gAs ?_
     refine gE ?_
     refine GoH.ret Try.f87 Try.func87 rfl (fun w' hS => ?_)
     exact ⟨hS.ext, by rw [oppT, h1, hs2]; rfl⟩
  ·
   have h4a : topO s ≠ 4 := by simpa using hc
   have hs1 := strT_none h.ok h4a
   have h1 : (strT s == some t) = false := by rw [hs1]; rfl
   iterate 11 refine gNo ?_
   refine gPf ?_
   iterate 2 refine gMv ?_
   refine GoH.callP rfl rfl rfl rfl rfl (fun _ _ => Try.call62 _ _) (fun w _ hS => (by exact top_c y.a y.c y.f t w (hB hS.ext) h')) ?_
   refine gBi bEq ?_
   refine gMv ?_
   refine GoH.cases (d := 25) rfl (fun hc => ?_) (fun hc => ?_)
   ·
    have h42 : topO t = 4 := by simpa using hc
    obtain ⟨hs2, h52, h62⟩ := hlasty.2 (by rw [hlasty.1]; exact h42)
    obtain ⟨c2, hc2⟩ : ∃ c, c = treeAt y.f y.f[y.f.length - 1].x.toNat := ⟨_, rfl⟩
    rw [← hc2] at hs2
    have hcc2 := h'.small (strT_ok h'.ok hs2) (canT_kid (kid_in hs2))
    have hsub2 : subF y.f y.f[y.f.length - 1].x = bT c2 := by
      rw [subF, if_neg (by rw [h'.chk]; simp; omega), hc2]
      exact (bT_ok (by have := canT_kid (kid_in hs2); rw [hc2] at this; have := h'.can.2; omega)).symm
    iterate 3 refine gMv ?_
    refine gBl Try.underlying22 ?_
    refine GoH.v (Vop.bin rfl rfl rfl rfl (bSubE (c := ((y.f.length - 1 : Nat) : Int)) (by omega) (by omega)) rfl) ?_
    refine GoH.v (Vop.idxN rfl rfl rfl rfl rfl Try.underlying22 Try.sizeOf49 ⟨_, (hb).at_⟩ (flat_len (enc := NV.cells) (sz := 6) (fun _ => rfl)) (by decide) (y.f.length - 1) ⟨rfl, hlty⟩) ?_
    refine GoH.v (Vop.fldA rfl rfl rfl rfl Try.underlying49 rfl Try.sizeOf3 ((y.f.length - 1) * 6 + 4) rfl) ?_
    refine GoH.v (Vop.ld rfl rfl rfl rfl Try.isAgg3 (fun w _ hS => Sl.fld (enc := NV.cells) (sz := 6) ((hb).ex0 hS.ext).at_ (fun _ => rfl) hlty rfl)) ?_
    refine GoH.callM _ rfl rfl rfl rfl rfl (fun _ _ => Try.call54 _ _) (fun w _ hS => (by exact rsub_c y.a y.c y.f y.f[y.f.length - 1].x w (hB hS.ext) (by unfold maxLen; omega))) ?_
    rintro v w1 w2 Y' hS he ho
    rw [hsub2] at ho
    obtain ⟨r2, cap2, sp2, rfl, hq2, hcap2, hS'⟩ := gainN hS he ho
    have hv2 : (c2 == s) = (strT t == some s) := by rw [hs2]; simp
    refine ⟨_, hS', ?_⟩
    refine gMv ?_
    refine GoH.callP rfl rfl rfl rfl rfl (fun _ _ => Try.call22 _ _) (fun w _ hS => (by exact rsame_t ⟨r2.map (fun b => ⟨b, 0, none⟩), cap2, bT c2⟩ x c2 s w (faAt hS 0 rfl (fun e => (hq2 e).1)) (hA hS.ext) hcc2 h)) ?_
    refine gPt ?_
    refine gPf ?_
    refine gAs ?_
    refine gE ?_
    refine GoH.ret Try.f87 Try.func87 rfl (fun w' hS => ?_)
    exact ⟨hS.ext, by rw [oppT, h1, ← hv2]; rfl⟩
   ·
    have h4b : topO t ≠ 4 := by simpa using hc
    have hs2 := strT_none h'.ok h4b
    iterate 11 refine gNo ?_
    iterate 2 refine gPf ?_
    refine gAs ?_
    refine gE ?_
    refine GoH.ret Try.f87 Try.func87 rfl (fun w' hS => ?_)
    exact ⟨hS.ext, by rw [oppT, h1, hs2]; rfl⟩
end Go.Proofs.Ytkoipdlkkchmiaa
namespace Go.Proofs.Ytkoipdlkkchmiaa
open Go.RowKit Go.Proofs.Wit
/-! the reference's rules of simplification -/
theorem simpleIff_c (a b : FV) (ta tb : Tr) (w : World) (ha : FA w a.a a.f) (hb : FA w b.a b.f) (h : Cf a.f ta) (h' : Cf b.f tb) (hla : (canT ta).length ≤ 150) (hlb : (canT tb).length ≤ 150) : Cn Try.prog 88 [a.v, b.v, .bool (ta == tb), .bool (oppT ta tb)] w (fun v w' => RvO 49 w w' v a b (equT ta tb) (mkQ 8 0 0 0 ta tb)) := by
  have hA : ∀ {w' : World}, Ex [] w w' → FA w' a.a a.f := fun e => ha.ex0 e
  have hB : ∀ {w' : World}, Ex [] w w' → FA w' b.a b.f := fun e => hb.ex0 e
  refine Cn.of Try.func88 rfl rfl ?_
  refine gS (gR ?_)
  refine gAs ?_
  refine gE (gS (gB (gS (gR ?_))))
  refine gMv ?_
  refine gAs ?_
  refine gE ?_
  refine GoH.cond rfl (fun hc => ?_) (fun hc => ?_)
  ·
   have k1 : (ta == tb) = true := hc
   refine gS (gR ?_)
   refine GoH.callM _ rfl rfl rfl rfl rfl (fun _ _ => Try.call39 _ _) (fun w _ hS => (by exact rtrue_c w)) ?_
   rintro v w1 w2 Y' hS he ho
   obtain ⟨q, cap, sp, rfl, hq, hcap, hS'⟩ := gainN hS he ho
   refine ⟨_, hS', ?_⟩
   refine gAs ?_
   refine gE ?_
   refine GoH.ret Try.f88 Try.func88 rfl (fun w' hS => ?_)
   exact ⟨hS.ext, by rw [equT, if_pos k1]; exact .inl ⟨RvP.own (OwnN.mk hS 0 rfl rfl hq hcap), cT_ne (.inl rfl)⟩⟩
  ·
   have k1 : ¬ (ta == tb) = true := by rw [show (ta == tb) = false from hc]; simp
   refine gS (gR ?_)
   refine gMv ?_
   refine gAs ?_
   refine gE ?_
   refine GoH.cond rfl (fun hc => ?_) (fun hc => ?_)
   ·
    have k2 : oppT ta tb = true := hc
    refine gS (gR ?_)
    refine GoH.callM _ rfl rfl rfl rfl rfl (fun _ _ => Try.call86 _ _) (fun w _ hS => (by exact rfalse_c w)) ?_
    rintro v w1 w2 Y' hS he ho
    obtain ⟨q, cap, sp, rfl, hq, hcap, hS'⟩ := gainN hS he ho
    refine ⟨_, hS', ?_⟩
    refine gAs ?_
    refine gE ?_
    refine GoH.ret Try.f88 Try.func88 rfl (fun w' hS => ?_)
    exact ⟨hS.ext, by rw [equT, if_neg k1, if_pos k2]; exact .inl ⟨RvP.own (OwnN.mk hS 0 rfl rfl hq hcap), cT_ne (.inr rfl)⟩⟩
   ·
    have k2 : ¬ oppT ta tb = true := by rw [show oppT ta tb = false from hc]; simp
    refine gS (gR ?_)
    refine gMv ?_
    refine GoH.callP rfl rfl rfl rfl rfl (fun _ _ => Try.call62 _ _) (fun w _ hS => (by exact top_c a.a a.c a.f ta w (hA hS.ext) h)) ?_
    refine GoH.v (Vop.bin rfl rfl rfl rfl (bEqT h.ok 1 (.inl rfl)) rfl) ?_
    refine gAs ?_
    refine gE ?_
    refine GoH.cond rfl (fun hc => ?_) (fun hc => ?_)
    ·
     have k3 : isT ta 1 = true := hc
     refine gS (gR ?_)
     refine gMv ?_
     refine gAs ?_
     refine gE ?_
     refine GoH.ret Try.f88 Try.func88 rfl (fun w' hS => ?_)
     exact ⟨hS.ext, by rw [equT, if_neg k1, if_neg k2, if_pos k3]; exact .inl ⟨⟨b, rfl, h'.eq, .inr (.inr rfl)⟩, h'.neB⟩⟩
    ·
     have k3 : ¬ isT ta 1 = true := by rw [show isT ta 1 = false from hc]; simp
     refine gS (gR ?_)
     refine gMv ?_
     refine GoH.callP rfl rfl rfl rfl rfl (fun _ _ => Try.call62 _ _) (fun w _ hS => (by exact top_c b.a b.c b.f tb w (hB hS.ext) h')) ?_
     refine GoH.v (Vop.bin rfl rfl rfl rfl (bEqT h'.ok 1 (.inl rfl)) rfl) ?_
     refine gAs ?_
     refine gE ?_
     refine GoH.cond rfl (fun hc => ?_) (fun hc => ?_)
     ·
      have k4 : isT tb 1 = true := hc
      refine gS (gR ?_)
      refine gMv ?_
      refine gAs ?_
      refine gE ?_
      refine GoH.ret Try.f88 Try.func88 rfl (fun w' hS => ?_)
      exact ⟨hS.ext, by rw [equT, if_neg k1, if_neg k2, if_neg k3, if_pos k4]; exact .inl ⟨⟨a, rfl, h.eq, .inr (.inl rfl)⟩, h.neB⟩⟩
     ·
      have k4 : ¬ isT tb 1 = true := by rw [show isT tb 1 = false from hc]; simp
      refine gS (gR ?_)
      refine gMv ?_
      refine GoH.callP rfl rfl rfl rfl rfl (fun _ _ => Try.call62 _ _) (fun w _ hS => (by exact top_c a.a a.c a.f ta w (hA hS.ext) h)) ?_
      refine GoH.v (Vop.bin rfl rfl rfl rfl (bEqT h.ok 2 (.inr rfl)) rfl) ?_
      refine gAs ?_
      refine gE ?_
      refine GoH.cond rfl (fun hc => ?_) (fun hc => ?_)
      ·
       have k5 : isT ta 2 = true := hc
       refine gS (gR ?_)
       refine gMv ?_
       refine GoH.callM _ rfl rfl rfl rfl rfl (fun _ _ => Try.call64 _ _) (fun w _ hS => (by exact ropposite_c b.a b.c b.f tb w (hB hS.ext) h')) ?_
       rintro v w1 w2 Y' hS he ho
       obtain ⟨q, cap, sp, rfl, hq, hcap, hS'⟩ := gainN hS he ho
       refine ⟨_, hS', ?_⟩
       refine gAs ?_
       refine gE ?_
       refine GoH.ret Try.f88 Try.func88 rfl (fun w' hS => ?_)
       exact ⟨hS.ext, by rw [equT, if_neg k1, if_neg k2, if_neg k3, if_neg k4, if_pos k5]; exact .inl ⟨RvP.own (OwnN.mk hS 0 rfl rfl hq hcap), h'.neg hlb⟩⟩
      ·
       have k5 : ¬ isT ta 2 = true := by rw [show isT ta 2 = false from hc]; simp
       refine gS (gR ?_)
       refine gMv ?_
       refine GoH.callP rfl rfl rfl rfl rfl (fun _ _ => Try.call62 _ _) (fun w _ hS => (by exact top_c b.a b.c b.f tb w (hB hS.ext) h')) ?_
       refine GoH.v (Vop.bin rfl rfl rfl rfl (bEqT h'.ok 2 (.inr rfl)) rfl) ?_
       refine gAs ?_
       refine gE ?_
       refine GoH.cond rfl (fun hc => ?_) (fun hc => ?_)
       ·
        have k6 : isT tb 2 = true := hc
        refine gS (gR ?_)
        refine gMv ?_
        refine GoH.callM _ rfl rfl rfl rfl rfl (fun _ _ => Try.call64 _ _) (fun w _ hS => (by exact ropposite_c a.a a.c a.f ta w (hA hS.ext) h)) ?_
        rintro v w1 w2 Y' hS he ho
        obtain ⟨q, cap, sp, rfl, hq, hcap, hS'⟩ := gainN hS he ho
        refine ⟨_, hS', ?_⟩
        refine gAs ?_
        refine gE ?_
        refine GoH.ret Try.f88 Try.func88 rfl (fun w' hS => ?_)
        exact ⟨hS.ext, by rw [equT, if_neg k1, if_neg k2, if_neg k3, if_neg k4, if_neg k5, if_pos k6]; exact .inl ⟨RvP.own (OwnN.mk hS 0 rfl rfl hq hcap), h.neg hla⟩⟩
       ·
        have k6 : ¬ isT tb 2 = true := by rw [show isT tb 2 = false from hc]; simp
        refine gK (gIb (gS (gR ?_)))
        refine gAs ?_
        refine gE ?_
        refine GoH.ret Try.f88 Try.func88 rfl (fun w' hS => ?_)
        exact ⟨hS.ext, .inr ⟨rfl, by rw [equT, if_neg k1, if_neg k2, if_neg k3, if_neg k4, if_neg k5, if_neg k6]⟩⟩
set_option maxRecDepth 8000 in
theorem simpleBool5_c (i e g : Int) (a b : FV) (ta tb : Tr) (w : World) (ha : FA w a.a a.f) (hb : FA w b.a b.f) (h : Cf a.f ta) (h' : Cf b.f tb) (_hla : (canT ta).length ≤ 150) (_hlb : (canT tb).length ≤ 150) : Cn Try.prog 45 [.int .i64 5, a.v, b.v] w (fun v w' => RvO 49 w w' v a b (jointT 5 i e g ta tb 1 2) (mkQ 5 i e g ta tb)) := by
  have hA : ∀ {w' : World}, Ex [] w w' → FA w' a.a a.f := fun e => ha.ex0 e
  have hB : ∀ {w' : World}, Ex [] w w' → FA w' b.a b.f := fun e => hb.ex0 e
  refine Cn.of Try.func45 rfl rfl ?_
  refine gS (gR ?_)
  refine gAs ?_
  refine gE (gS (gR ?_))
  refine gMv ?_
  refine GoH.callP rfl rfl rfl rfl rfl (fun _ _ => Try.call62 _ _) (fun w _ hS => (by exact top_c a.a a.c a.f ta w (hA hS.ext) h)) ?_
  refine gMv ?_
  refine GoH.callP rfl rfl rfl rfl rfl (fun _ _ => Try.call62 _ _) (fun w _ hS => (by exact top_c b.a b.c b.f tb w (hB hS.ext) h')) ?_
  iterate 2 refine gAs ?_
  refine gE (gS (gR ?_))
  iterate 2 refine gMv ?_
  refine GoH.callP rfl rfl rfl rfl rfl (fun _ _ => Try.call22 _ _) (fun w _ hS => (by exact rsame_t a b ta tb w (hA hS.ext) (hB hS.ext) h h')) ?_
  iterate 2 refine gMv ?_
  refine GoH.callP rfl rfl rfl rfl rfl (fun _ _ => Try.call87 _ _) (fun w _ hS => (by exact opposed_c a b ta tb w (hA hS.ext) (hB hS.ext) h h')) ?_
  iterate 2 refine gAs ?_
  refine gE (gS (gB (gS (gR ?_))))
  refine gMv ?_
  refine GoH.v (Vop.bin rfl rfl rfl rfl (bEqV (v := true) rfl) rfl) ?_
  iterate 2 refine gMv ?_
  refine GoH.v (Vop.bin rfl rfl rfl rfl (bEqT h.ok 2 (.inr rfl)) rfl) ?_
  refine gMv ?_
  refine GoH.cases (d := 27) rfl (fun hc => ?_) (fun hc => ?_)
  ·
   have k1 : isT ta 2 = true := hc
   iterate 2 refine gNo ?_
   refine gPt ?_
   refine gMv ?_
   iterate 9 refine gNo ?_
   iterate 2 refine gPt ?_
   refine gAs ?_
   refine gE (GoH.condT rfl (gS (gR ?_)))
   refine GoH.callM _ rfl rfl rfl rfl rfl (fun _ _ => Try.call86 _ _) (fun w _ hS => (by exact rfalse_c w)) ?_
   rintro v w1 w2 Y' hS he ho
   obtain ⟨q, cap, sp, rfl, hq, hcap, hS'⟩ := gainN hS he ho
   refine ⟨_, hS', ?_⟩
   refine gAs ?_
   refine gE ?_
   refine GoH.ret Try.f45 Try.func45 rfl (fun w' hS => ?_)
   exact ⟨hS.ext, by rw [show jointT 5 i e g ta tb 1 2 = cT 2 from if_pos (by simp [k1])]; exact .inl ⟨RvP.own (OwnN.mk hS 0 rfl rfl hq hcap), cT_ne (.inr rfl)⟩⟩
  ·
   have k1 : isT ta 2 = false := hc
   refine gMv ?_
   refine GoH.v (Vop.bin rfl rfl rfl rfl (bEqT h'.ok 2 (.inr rfl)) rfl) ?_
   refine gPf ?_
   refine gMv ?_
   refine GoH.cases (d := 31) rfl (fun hc => ?_) (fun hc => ?_)
   ·
    have k2 : isT tb 2 = true := hc
    iterate 9 refine gNo ?_
    iterate 2 refine gPt ?_
    refine gAs ?_
    refine gE (GoH.condT rfl (gS (gR ?_)))
    refine GoH.callM _ rfl rfl rfl rfl rfl (fun _ _ => Try.call86 _ _) (fun w _ hS => (by exact rfalse_c w)) ?_
    rintro v w1 w2 Y' hS he ho
    obtain ⟨q, cap, sp, rfl, hq, hcap, hS'⟩ := gainN hS he ho
    refine ⟨_, hS', ?_⟩
    refine gAs ?_
    refine gE ?_
    refine GoH.ret Try.f45 Try.func45 rfl (fun w' hS => ?_)
    exact ⟨hS.ext, by rw [show jointT 5 i e g ta tb 1 2 = cT 2 from if_pos (by simp [k2])]; exact .inl ⟨RvP.own (OwnN.mk hS 0 rfl rfl hq hcap), cT_ne (.inr rfl)⟩⟩
   ·
    have k2 : isT tb 2 = false := hc
    iterate 2 refine gMv ?_
    refine GoH.cases (d := 33) rfl (fun hc => ?_) (fun hc => ?_)
    ·
     have k3 : oppT ta tb = true := hc
     refine gMv ?_
     refine GoH.v (Vop.bin rfl rfl rfl rfl (bNeT h.ok 1 (.inl rfl)) rfl) ?_
     refine gPt ?_
     refine gMv ?_
     refine GoH.cases (d := 37) rfl (fun hc => ?_) (fun hc => ?_)
     ·
      have k4 : isT ta 1 = false := by simpa using hc
      refine gMv ?_
      refine GoH.v (Vop.bin rfl rfl rfl rfl (bNeT h'.ok 1 (.inl rfl)) rfl) ?_
      refine gPt ?_
      refine gPf ?_
      refine gPt ?_
      refine gAs ?_
      refine gE ?_
      refine GoH.cond rfl (fun hc => ?_) (fun hc => ?_)
      ·
       have k5 : isT tb 1 = false := by simpa using hc
       refine gS (gR ?_)
       refine GoH.callM _ rfl rfl rfl rfl rfl (fun _ _ => Try.call86 _ _) (fun w _ hS => (by exact rfalse_c w)) ?_
       rintro v w1 w2 Y' hS he ho
       obtain ⟨q, cap, sp, rfl, hq, hcap, hS'⟩ := gainN hS he ho
       refine ⟨_, hS', ?_⟩
       refine gAs ?_
       refine gE ?_
       refine GoH.ret Try.f45 Try.func45 rfl (fun w' hS => ?_)
       exact ⟨hS.ext, by rw [show jointT 5 i e g ta tb 1 2 = cT 2 from if_pos (by simp [k3, k4, k5])]; exact .inl ⟨RvP.own (OwnN.mk hS 0 rfl rfl hq hcap), cT_ne (.inr rfl)⟩⟩
      ·
       have k5 : isT tb 1 = true := by simpa using hc
       have k6 : ¬ (isT ta 2 || isT tb 2 || (oppT ta tb && !isT ta 1 && !isT tb 1)) = true := by simp [k1, k2, k5]
       refine gS (gR ?_)
       refine gMv ?_
       refine GoH.v (Vop.bin rfl rfl rfl rfl (bEqV (v := true) rfl) rfl) ?_
       iterate 2 refine gMv ?_
       refine GoH.v (Vop.bin rfl rfl rfl rfl (bEqT h.ok 1 (.inl rfl)) rfl) ?_
       refine gPt ?_
       refine gAs ?_
       refine gE ?_
       refine GoH.cond rfl (fun hc => ?_) (fun hc => ?_)
       ·
        have k7 : isT ta 1 = true := hc
        refine gS (gR ?_)
        refine gMv ?_
        refine gAs ?_
        refine gE ?_
        refine GoH.ret Try.f45 Try.func45 rfl (fun w' hS => ?_)
        exact ⟨hS.ext, by rw [jointT, if_neg k6, if_pos k7]; exact .inl ⟨⟨b, rfl, h'.eq, .inr (.inr rfl)⟩, h'.neB⟩⟩
       ·
        have k7 : ¬ isT ta 1 = true := by rw [show isT ta 1 = false from hc]; simp
        refine gS (gR ?_)
        refine gMv ?_
        refine GoH.v (Vop.bin rfl rfl rfl rfl (bEqV (v := true) rfl) rfl) ?_
        iterate 2 refine gMv ?_
        refine GoH.v (Vop.bin rfl rfl rfl rfl (bEqT h'.ok 1 (.inl rfl)) rfl) ?_
        refine gMv ?_
        refine GoH.cases (d := 58) rfl (fun hc => ?_) (fun hc => ?_)
        ·
         have k8 : isT tb 1 = true := hc
         refine gNo ?_
         iterate 2 refine gPt ?_
         refine gAs ?_
         refine gE (GoH.condT rfl (gS (gR ?_)))
         refine gMv ?_
         refine gAs ?_
         refine gE ?_
         refine GoH.ret Try.f45 Try.func45 rfl (fun w' hS => ?_)
         exact ⟨hS.ext, by rw [jointT, if_neg k6, if_neg k7, if_pos (by rw [k8]; rfl)]; exact .inl ⟨⟨a, rfl, h.eq, .inr (.inl rfl)⟩, h.neB⟩⟩
        ·
         have k8 : isT tb 1 = false := hc
         refine gMv ?_
         refine gPf ?_
         refine gPt ?_
         refine gAs ?_
         refine gE ?_
         refine GoH.cond rfl (fun hc => ?_) (fun hc => ?_)
         ·
          have k9 : (ta == tb) = true := hc
          refine gS (gR ?_)
          refine gMv ?_
          refine gAs ?_
          refine gE ?_
          refine GoH.ret Try.f45 Try.func45 rfl (fun w' hS => ?_)
          exact ⟨hS.ext, by rw [jointT, if_neg k6, if_neg k7, if_pos (by rw [k8, k9]; rfl)]; exact .inl ⟨⟨a, rfl, h.eq, .inr (.inl rfl)⟩, h.neB⟩⟩
         ·
          have k9 : (ta == tb) = false := hc
          refine gS (gR ?_)
          refine gMv ?_
          refine GoH.v (Vop.bin rfl rfl rfl rfl (bEqV (v := false) rfl) rfl) ?_
          refine gMv ?_
          iterate 17 refine gNo ?_
          refine gPf ?_
          refine gAs ?_
          refine gE (GoH.condF rfl (gS (gR ?_)))
          refine gMv ?_
          refine GoH.v (Vop.bin rfl rfl rfl rfl (bEqV (v := false) rfl) rfl) ?_
          refine gMv ?_
          iterate 2 refine gNo ?_
          refine gPf ?_
          refine gAs ?_
          refine gE (GoH.condF rfl (gS (gR ?_)))
          refine gMv ?_
          refine GoH.v (Vop.bin rfl rfl rfl rfl (bEqV (v := false) rfl) rfl) ?_
          refine gMv ?_
          iterate 5 refine gNo ?_
          refine gPf ?_
          refine gAs ?_
          refine gE (GoH.condF rfl (gS (gR ?_)))
          refine gMv ?_
          refine GoH.v (Vop.bin rfl rfl rfl rfl (bEqV (v := false) rfl) rfl) ?_
          refine gMv ?_
          iterate 9 refine gNo ?_
          refine gPf ?_
          refine gAs ?_
          refine gE (GoH.condF rfl (gS (gR ?_)))
          refine gMv ?_
          refine GoH.v (Vop.bin rfl rfl rfl rfl (bEqV (v := false) rfl) rfl) ?_
          refine gMv ?_
          iterate 2 refine gNo ?_
          refine gPf ?_
          refine gAs ?_
          refine gE (GoH.condF rfl (gS (gR ?_)))
          refine gMv ?_
          refine GoH.v (Vop.bin rfl rfl rfl rfl (bEqV (v := false) rfl) rfl) ?_
          refine gMv ?_
          iterate 2 refine gNo ?_
          refine gPf ?_
          refine gAs ?_
          refine gE (GoH.condF rfl (gK (gIb (gS (gS (gR ?_))))))
          refine gMv ?_
          refine GoH.v (Vop.bin rfl rfl rfl rfl (bNeV (v := true) rfl) rfl) ?_
          refine gE (GoH.condT rfl (gS (gR ?_)))
          refine gAs ?_
          refine gE ?_
          refine GoH.ret Try.f45 Try.func45 rfl (fun w' hS => ?_)
          exact ⟨hS.ext, .inr ⟨rfl, by rw [jointT, if_neg k6, if_neg k7, if_neg (by rw [k8, k9]; simp)]⟩⟩
     ·
      have k4 : isT ta 1 = true := by simpa using hc
      have k10 : ¬ (isT ta 2 || isT tb 2 || (oppT ta tb && !isT ta 1 && !isT tb 1)) = true := by simp [k1, k2, k4]
      iterate 2 refine gNo ?_
      iterate 2 refine gPf ?_
      refine gPt ?_
      refine gAs ?_
      refine gE (GoH.condF rfl (gS (gR ?_)))
      refine gMv ?_
      refine GoH.v (Vop.bin rfl rfl rfl rfl (bEqV (v := true) rfl) rfl) ?_
      iterate 2 refine gMv ?_
      refine GoH.v (Vop.bin rfl rfl rfl rfl (bEqT h.ok 1 (.inl rfl)) rfl) ?_
      refine gPt ?_
      refine gAs ?_
      refine gE ?_
      refine GoH.cond rfl (fun hc => ?_) (fun hc => ?_)
      ·
       have k11 : isT ta 1 = true := hc
       refine gS (gR ?_)
       refine gMv ?_
       refine gAs ?_
       refine gE ?_
       refine GoH.ret Try.f45 Try.func45 rfl (fun w' hS => ?_)
       exact ⟨hS.ext, by rw [jointT, if_neg k10, if_pos k11]; exact .inl ⟨⟨b, rfl, h'.eq, .inr (.inr rfl)⟩, h'.neB⟩⟩
      ·
       have k11 : ¬ isT ta 1 = true := by rw [show isT ta 1 = false from hc]; simp
       refine gS (gR ?_)
       refine gMv ?_
       refine GoH.v (Vop.bin rfl rfl rfl rfl (bEqV (v := true) rfl) rfl) ?_
       iterate 2 refine gMv ?_
       refine GoH.v (Vop.bin rfl rfl rfl rfl (bEqT h'.ok 1 (.inl rfl)) rfl) ?_
       refine gMv ?_
       refine GoH.cases (d := 58) rfl (fun hc => ?_) (fun hc => ?_)
       ·
        have k12 : isT tb 1 = true := hc
        refine gNo ?_
        iterate 2 refine gPt ?_
        refine gAs ?_
        refine gE (GoH.condT rfl (gS (gR ?_)))
        refine gMv ?_
        refine gAs ?_
        refine gE ?_
        refine GoH.ret Try.f45 Try.func45 rfl (fun w' hS => ?_)
        exact ⟨hS.ext, by rw [jointT, if_neg k10, if_neg k11, if_pos (by rw [k12]; rfl)]; exact .inl ⟨⟨a, rfl, h.eq, .inr (.inl rfl)⟩, h.neB⟩⟩
       ·
        have k12 : isT tb 1 = false := hc
        refine gMv ?_
        refine gPf ?_
        refine gPt ?_
        refine gAs ?_
        refine gE ?_
        refine GoH.cond rfl (fun hc => ?_) (fun hc => ?_)
        ·
         have k13 : (ta == tb) = true := hc
         refine gS (gR ?_)
         refine gMv ?_
         refine gAs ?_
         refine gE ?_
         refine GoH.ret Try.f45 Try.func45 rfl (fun w' hS => ?_)
         exact ⟨hS.ext, by rw [jointT, if_neg k10, if_neg k11, if_pos (by rw [k12, k13]; rfl)]; exact .inl ⟨⟨a, rfl, h.eq, .inr (.inl rfl)⟩, h.neB⟩⟩
        ·
         have k13 : (ta == tb) = false := hc
         refine gS (gR ?_)
         refine gMv ?_
         refine GoH.v (Vop.bin rfl rfl rfl rfl (bEqV (v := false) rfl) rfl) ?_
         refine gMv ?_
         iterate 17 refine gNo ?_
         refine gPf ?_
         refine gAs ?_
         refine gE (GoH.condF rfl (gS (gR ?_)))
         refine gMv ?_
         refine GoH.v (Vop.bin rfl rfl rfl rfl (bEqV (v := false) rfl) rfl) ?_
         refine gMv ?_
         iterate 2 refine gNo ?_
         refine gPf ?_
         refine gAs ?_
         refine gE (GoH.condF rfl (gS (gR ?_)))
         refine gMv ?_
         refine GoH.v (Vop.bin rfl rfl rfl rfl (bEqV (v := false) rfl) rfl) ?_
         refine gMv ?_
         iterate 5 refine gNo ?_
         refine gPf ?_
         refine gAs ?_
         refine gE (GoH.condF rfl (gS (gR ?_)))
         refine gMv ?_
         refine GoH.v (Vop.bin rfl rfl rfl rfl (bEqV (v := false) rfl) rfl) ?_
         refine gMv ?_
         iterate 9 refine gNo ?_
         refine gPf ?_
         refine gAs ?_
         refine gE (GoH.condF rfl (gS (gR ?_)))
         refine gMv ?_
         refine GoH.v (Vop.bin rfl rfl rfl rfl (bEqV (v := false) rfl) rfl) ?_
         refine gMv ?_
         iterate 2 refine gNo ?_
         refine gPf ?_
         refine gAs ?_
         refine gE (GoH.condF rfl (gS (gR ?_)))
         refine gMv ?_
         refine GoH.v (Vop.bin rfl rfl rfl rfl (bEqV (v := false) rfl) rfl) ?_
         refine gMv ?_
         iterate 2 refine gNo ?_
         refine gPf ?_
         refine gAs ?_
         refine gE (GoH.condF rfl (gK (gIb (gS (gS (gR ?_))))))
         refine gMv ?_
         refine GoH.v (Vop.bin rfl rfl rfl rfl (bNeV (v := true) rfl) rfl) ?_
         refine gE (GoH.condT rfl (gS (gR ?_)))
         refine gAs ?_
         refine gE ?_
         refine GoH.ret Try.f45 Try.func45 rfl (fun w' hS => ?_)
         exact ⟨hS.ext, .inr ⟨rfl, by rw [jointT, if_neg k10, if_neg k11, if_neg (by rw [k12, k13]; simp)]⟩⟩
    ·
     have k3 : oppT ta tb = false := hc
     have k14 : ¬ (isT ta 2 || isT tb 2 || (oppT ta tb && !isT ta 1 && !isT tb 1)) = true := by simp [k1, k2, k3]
     iterate 2 refine gNo ?_
     refine gPf ?_
     refine gMv ?_
     iterate 2 refine gNo ?_
     iterate 2 refine gPf ?_
     refine gPt ?_
     refine gAs ?_
     refine gE (GoH.condF rfl (gS (gR ?_)))
     refine gMv ?_
     refine GoH.v (Vop.bin rfl rfl rfl rfl (bEqV (v := true) rfl) rfl) ?_
     iterate 2 refine gMv ?_
     refine GoH.v (Vop.bin rfl rfl rfl rfl (bEqT h.ok 1 (.inl rfl)) rfl) ?_
     refine gPt ?_
     refine gAs ?_
     refine gE ?_
     refine GoH.cond rfl (fun hc => ?_) (fun hc => ?_)
     ·
      have k15 : isT ta 1 = true := hc
      refine gS (gR ?_)
      refine gMv ?_
      refine gAs ?_
      refine gE ?_
      refine GoH.ret Try.f45 Try.func45 rfl (fun w' hS => ?_)
      exact ⟨hS.ext, by rw [jointT, if_neg k14, if_pos k15]; exact .inl ⟨⟨b, rfl, h'.eq, .inr (.inr rfl)⟩, h'.neB⟩⟩
     ·
      have k15 : ¬ isT ta 1 = true := by rw [show isT ta 1 = false from hc]; simp
      refine gS (gR ?_)
      refine gMv ?_
      refine GoH.v (Vop.bin rfl rfl rfl rfl (bEqV (v := true) rfl) rfl) ?_
      iterate 2 refine gMv ?_
      refine GoH.v (Vop.bin rfl rfl rfl rfl (bEqT h'.ok 1 (.inl rfl)) rfl) ?_
      refine gMv ?_
      refine GoH.cases (d := 58) rfl (fun hc => ?_) (fun hc => ?_)
      ·
       have k16 : isT tb 1 = true := hc
       refine gNo ?_
       iterate 2 refine gPt ?_
       refine gAs ?_
       refine gE (GoH.condT rfl (gS (gR ?_)))
       refine gMv ?_
       refine gAs ?_
       refine gE ?_
       refine GoH.ret Try.f45 Try.func45 rfl (fun w' hS => ?_)
       exact ⟨hS.ext, by rw [jointT, if_neg k14, if_neg k15, if_pos (by rw [k16]; rfl)]; exact .inl ⟨⟨a, rfl, h.eq, .inr (.inl rfl)⟩, h.neB⟩⟩
      ·
       have k16 : isT tb 1 = false := hc
       refine gMv ?_
       refine gPf ?_
       refine gPt ?_
       refine gAs ?_
       refine gE ?_
       refine GoH.cond rfl (fun hc => ?_) (fun hc => ?_)
       ·
        have k17 : (ta == tb) = true := hc
        refine gS (gR ?_)
        refine gMv ?_
        refine gAs ?_
        refine gE ?_
        refine GoH.ret Try.f45 Try.func45 rfl (fun w' hS => ?_)
        exact ⟨hS.ext, by rw [jointT, if_neg k14, if_neg k15, if_pos (by rw [k16, k17]; rfl)]; exact .inl ⟨⟨a, rfl, h.eq, .inr (.inl rfl)⟩, h.neB⟩⟩
       ·
        have k17 : (ta == tb) = false := hc
        refine gS (gR ?_)
        refine gMv ?_
        refine GoH.v (Vop.bin rfl rfl rfl rfl (bEqV (v := false) rfl) rfl) ?_
        refine gMv ?_
        iterate 17 refine gNo ?_
        refine gPf ?_
        refine gAs ?_
        refine gE (GoH.condF rfl (gS (gR ?_)))
        refine gMv ?_
        refine GoH.v (Vop.bin rfl rfl rfl rfl (bEqV (v := false) rfl) rfl) ?_
        refine gMv ?_
        iterate 2 refine gNo ?_
        refine gPf ?_
        refine gAs ?_
        refine gE (GoH.condF rfl (gS (gR ?_)))
        refine gMv ?_
        refine GoH.v (Vop.bin rfl rfl rfl rfl (bEqV (v := false) rfl) rfl) ?_
        refine gMv ?_
        iterate 5 refine gNo ?_
        refine gPf ?_
        refine gAs ?_
        refine gE (GoH.condF rfl (gS (gR ?_)))
        refine gMv ?_
        refine GoH.v (Vop.bin rfl rfl rfl rfl (bEqV (v := false) rfl) rfl) ?_
        refine gMv ?_
        iterate 9 refine gNo ?_
        refine gPf ?_
        refine gAs ?_
        refine gE (GoH.condF rfl (gS (gR ?_)))
        refine gMv ?_
        refine GoH.v (Vop.bin rfl rfl rfl rfl (bEqV (v := false) rfl) rfl) ?_
        refine gMv ?_
        iterate 2 refine gNo ?_
        refine gPf ?_
        refine gAs ?_
        refine gE (GoH.condF rfl (gS (gR ?_)))
        refine gMv ?_
        refine GoH.v (Vop.bin rfl rfl rfl rfl (bEqV (v := false) rfl) rfl) ?_
        refine gMv ?_
        iterate 2 refine gNo ?_
        refine gPf ?_
        refine gAs ?_
        refine gE (GoH.condF rfl (gK (gIb (gS (gS (gR ?_))))))
        refine gMv ?_
        refine GoH.v (Vop.bin rfl rfl rfl rfl (bNeV (v := true) rfl) rfl) ?_
        refine gE (GoH.condT rfl (gS (gR ?_)))
        refine gAs ?_
        refine gE ?_
        refine GoH.ret Try.f45 Try.func45 rfl (fun w' hS => ?_)
        exact ⟨hS.ext, .inr ⟨rfl, by rw [jointT, if_neg k14, if_neg k15, if_neg (by rw [k16, k17]; simp)]⟩⟩
set_option maxRecDepth 8000 in
theorem simpleBool6_c (i e g : Int) (a b : FV) (ta tb : Tr) (w : World) (ha : FA w a.a a.f) (hb : FA w b.a b.f) (h : Cf a.f ta) (h' : Cf b.f tb) (_hla : (canT ta).length ≤ 150) (_hlb : (canT tb).length ≤ 150) : Cn Try.prog 45 [.int .i64 6, a.v, b.v] w (fun v w' => RvO 49 w w' v a b (jointT 6 i e g ta tb 2 1) (mkQ 6 i e g ta tb)) := by
  have hA : ∀ {w' : World}, Ex [] w w' → FA w' a.a a.f := fun e => ha.ex0 e
  have hB : ∀ {w' : World}, Ex [] w w' → FA w' b.a b.f := fun e => hb.ex0 e
  refine Cn.of Try.func45 rfl rfl ?_
  refine gS (gR ?_)
  refine gAs ?_
  refine gE (gS (gR ?_))
  refine gMv ?_
  refine GoH.callP rfl rfl rfl rfl rfl (fun _ _ => Try.call62 _ _) (fun w _ hS => (by exact top_c a.a a.c a.f ta w (hA hS.ext) h)) ?_
  refine gMv ?_
  refine GoH.callP rfl rfl rfl rfl rfl (fun _ _ => Try.call62 _ _) (fun w _ hS => (by exact top_c b.a b.c b.f tb w (hB hS.ext) h')) ?_
  iterate 2 refine gAs ?_
  refine gE (gS (gR ?_))
  iterate 2 refine gMv ?_
  refine GoH.callP rfl rfl rfl rfl rfl (fun _ _ => Try.call22 _ _) (fun w _ hS => (by exact rsame_t a b ta tb w (hA hS.ext) (hB hS.ext) h h')) ?_
  iterate 2 refine gMv ?_
  refine GoH.callP rfl rfl rfl rfl rfl (fun _ _ => Try.call87 _ _) (fun w _ hS => (by exact opposed_c a b ta tb w (hA hS.ext) (hB hS.ext) h h')) ?_
  iterate 2 refine gAs ?_
  refine gE (gS (gB (gS (gR ?_))))
  refine gMv ?_
  refine GoH.v (Vop.bin rfl rfl rfl rfl (bEqV (v := false) rfl) rfl) ?_
  refine gMv ?_
  iterate 17 refine gNo ?_
  refine gPf ?_
  refine gAs ?_
  refine gE (GoH.condF rfl (gS (gR ?_)))
  refine gMv ?_
  refine GoH.v (Vop.bin rfl rfl rfl rfl (bEqV (v := false) rfl) rfl) ?_
  refine gMv ?_
  iterate 2 refine gNo ?_
  refine gPf ?_
  refine gAs ?_
  refine gE (GoH.condF rfl (gS (gR ?_)))
  refine gMv ?_
  refine GoH.v (Vop.bin rfl rfl rfl rfl (bEqV (v := false) rfl) rfl) ?_
  refine gMv ?_
  iterate 5 refine gNo ?_
  refine gPf ?_
  refine gAs ?_
  refine gE (GoH.condF rfl (gS (gR ?_)))
  refine gMv ?_
  refine GoH.v (Vop.bin rfl rfl rfl rfl (bEqV (v := true) rfl) rfl) ?_
  iterate 2 refine gMv ?_
  refine GoH.v (Vop.bin rfl rfl rfl rfl (bEqT h.ok 1 (.inl rfl)) rfl) ?_
  refine gMv ?_
  refine GoH.cases (d := 69) rfl (fun hc => ?_) (fun hc => ?_)
  ·
   have k18 : isT ta 1 = true := hc
   iterate 2 refine gNo ?_
   refine gPt ?_
   refine gMv ?_
   iterate 9 refine gNo ?_
   iterate 2 refine gPt ?_
   refine gAs ?_
   refine gE (GoH.condT rfl (gS (gR ?_)))
   refine GoH.callM _ rfl rfl rfl rfl rfl (fun _ _ => Try.call39 _ _) (fun w _ hS => (by exact rtrue_c w)) ?_
   rintro v w1 w2 Y' hS he ho
   obtain ⟨q, cap, sp, rfl, hq, hcap, hS'⟩ := gainN hS he ho
   refine ⟨_, hS', ?_⟩
   refine gAs ?_
   refine gE ?_
   refine GoH.ret Try.f45 Try.func45 rfl (fun w' hS => ?_)
   exact ⟨hS.ext, by rw [show jointT 6 i e g ta tb 2 1 = cT 1 from if_pos (by simp [k18])]; exact .inl ⟨RvP.own (OwnN.mk hS 0 rfl rfl hq hcap), cT_ne (.inl rfl)⟩⟩
  ·
   have k18 : isT ta 1 = false := hc
   refine gMv ?_
   refine GoH.v (Vop.bin rfl rfl rfl rfl (bEqT h'.ok 1 (.inl rfl)) rfl) ?_
   refine gPf ?_
   refine gMv ?_
   refine GoH.cases (d := 73) rfl (fun hc => ?_) (fun hc => ?_)
   ·
    have k19 : isT tb 1 = true := hc
    iterate 9 refine gNo ?_
    iterate 2 refine gPt ?_
    refine gAs ?_
    refine gE (GoH.condT rfl (gS (gR ?_)))
    refine GoH.callM _ rfl rfl rfl rfl rfl (fun _ _ => Try.call39 _ _) (fun w _ hS => (by exact rtrue_c w)) ?_
    rintro v w1 w2 Y' hS he ho
    obtain ⟨q, cap, sp, rfl, hq, hcap, hS'⟩ := gainN hS he ho
    refine ⟨_, hS', ?_⟩
    refine gAs ?_
    refine gE ?_
    refine GoH.ret Try.f45 Try.func45 rfl (fun w' hS => ?_)
    exact ⟨hS.ext, by rw [show jointT 6 i e g ta tb 2 1 = cT 1 from if_pos (by simp [k19])]; exact .inl ⟨RvP.own (OwnN.mk hS 0 rfl rfl hq hcap), cT_ne (.inl rfl)⟩⟩
   ·
    have k19 : isT tb 1 = false := hc
    iterate 2 refine gMv ?_
    refine GoH.cases (d := 75) rfl (fun hc => ?_) (fun hc => ?_)
    ·
     have k20 : oppT ta tb = true := hc
     refine gMv ?_
     refine GoH.v (Vop.bin rfl rfl rfl rfl (bNeT h.ok 2 (.inr rfl)) rfl) ?_
     refine gPt ?_
     refine gMv ?_
     refine GoH.cases (d := 79) rfl (fun hc => ?_) (fun hc => ?_)
     ·
      have k21 : isT ta 2 = false := by simpa using hc
      refine gMv ?_
      refine GoH.v (Vop.bin rfl rfl rfl rfl (bNeT h'.ok 2 (.inr rfl)) rfl) ?_
      refine gPt ?_
      refine gPf ?_
      refine gPt ?_
      refine gAs ?_
      refine gE ?_
      refine GoH.cond rfl (fun hc => ?_) (fun hc => ?_)
      ·
       have k22 : isT tb 2 = false := by simpa using hc
       refine gS (gR ?_)
       refine GoH.callM _ rfl rfl rfl rfl rfl (fun _ _ => Try.call39 _ _) (fun w _ hS => (by exact rtrue_c w)) ?_
       rintro v w1 w2 Y' hS he ho
       obtain ⟨q, cap, sp, rfl, hq, hcap, hS'⟩ := gainN hS he ho
       refine ⟨_, hS', ?_⟩
       refine gAs ?_
       refine gE ?_
       refine GoH.ret Try.f45 Try.func45 rfl (fun w' hS => ?_)
       exact ⟨hS.ext, by rw [show jointT 6 i e g ta tb 2 1 = cT 1 from if_pos (by simp [k20, k21, k22])]; exact .inl ⟨RvP.own (OwnN.mk hS 0 rfl rfl hq hcap), cT_ne (.inl rfl)⟩⟩
      ·
       have k22 : isT tb 2 = true := by simpa using hc
       have k23 : ¬ (isT ta 1 || isT tb 1 || (oppT ta tb && !isT ta 2 && !isT tb 2)) = true := by simp [k18, k19, k22]
       refine gS (gR ?_)
       refine gMv ?_
       refine GoH.v (Vop.bin rfl rfl rfl rfl (bEqV (v := true) rfl) rfl) ?_
       iterate 2 refine gMv ?_
       refine GoH.v (Vop.bin rfl rfl rfl rfl (bEqT h.ok 2 (.inr rfl)) rfl) ?_
       refine gPt ?_
       refine gAs ?_
       refine gE ?_
       refine GoH.cond rfl (fun hc => ?_) (fun hc => ?_)
       ·
        have k24 : isT ta 2 = true := hc
        refine gS (gR ?_)
        refine gMv ?_
        refine gAs ?_
        refine gE ?_
        refine GoH.ret Try.f45 Try.func45 rfl (fun w' hS => ?_)
        exact ⟨hS.ext, by rw [jointT, if_neg k23, if_pos k24]; exact .inl ⟨⟨b, rfl, h'.eq, .inr (.inr rfl)⟩, h'.neB⟩⟩
       ·
        have k24 : ¬ isT ta 2 = true := by rw [show isT ta 2 = false from hc]; simp
        refine gS (gR ?_)
        refine gMv ?_
        refine GoH.v (Vop.bin rfl rfl rfl rfl (bEqV (v := true) rfl) rfl) ?_
        iterate 2 refine gMv ?_
        refine GoH.v (Vop.bin rfl rfl rfl rfl (bEqT h'.ok 2 (.inr rfl)) rfl) ?_
        refine gMv ?_
        refine GoH.cases (d := 100) rfl (fun hc => ?_) (fun hc => ?_)
        ·
         have k25 : isT tb 2 = true := hc
         refine gNo ?_
         iterate 2 refine gPt ?_
         refine gAs ?_
         refine gE (GoH.condT rfl (gS (gR ?_)))
         refine gMv ?_
         refine gAs ?_
         refine gE ?_
         refine GoH.ret Try.f45 Try.func45 rfl (fun w' hS => ?_)
         exact ⟨hS.ext, by rw [jointT, if_neg k23, if_neg k24, if_pos (by rw [k25]; rfl)]; exact .inl ⟨⟨a, rfl, h.eq, .inr (.inl rfl)⟩, h.neB⟩⟩
        ·
         have k25 : isT tb 2 = false := hc
         refine gMv ?_
         refine gPf ?_
         refine gPt ?_
         refine gAs ?_
         refine gE ?_
         refine GoH.cond rfl (fun hc => ?_) (fun hc => ?_)
         ·
          have k26 : (ta == tb) = true := hc
          refine gS (gR ?_)
          refine gMv ?_
          refine gAs ?_
          refine gE ?_
          refine GoH.ret Try.f45 Try.func45 rfl (fun w' hS => ?_)
          exact ⟨hS.ext, by rw [jointT, if_neg k23, if_neg k24, if_pos (by rw [k25, k26]; rfl)]; exact .inl ⟨⟨a, rfl, h.eq, .inr (.inl rfl)⟩, h.neB⟩⟩
         ·
          have k26 : (ta == tb) = false := hc
          refine gS (gR ?_)
          refine gMv ?_
          refine GoH.v (Vop.bin rfl rfl rfl rfl (bEqV (v := false) rfl) rfl) ?_
          refine gMv ?_
          iterate 9 refine gNo ?_
          refine gPf ?_
          refine gAs ?_
          refine gE (GoH.condF rfl (gS (gR ?_)))
          refine gMv ?_
          refine GoH.v (Vop.bin rfl rfl rfl rfl (bEqV (v := false) rfl) rfl) ?_
          refine gMv ?_
          iterate 2 refine gNo ?_
          refine gPf ?_
          refine gAs ?_
          refine gE (GoH.condF rfl (gS (gR ?_)))
          refine gMv ?_
          refine GoH.v (Vop.bin rfl rfl rfl rfl (bEqV (v := false) rfl) rfl) ?_
          refine gMv ?_
          iterate 2 refine gNo ?_
          refine gPf ?_
          refine gAs ?_
          refine gE (GoH.condF rfl (gK (gIb (gS (gS (gR ?_))))))
          refine gMv ?_
          refine GoH.v (Vop.bin rfl rfl rfl rfl (bNeV (v := true) rfl) rfl) ?_
          refine gE (GoH.condT rfl (gS (gR ?_)))
          refine gAs ?_
          refine gE ?_
          refine GoH.ret Try.f45 Try.func45 rfl (fun w' hS => ?_)
          exact ⟨hS.ext, .inr ⟨rfl, by rw [jointT, if_neg k23, if_neg k24, if_neg (by rw [k25, k26]; simp)]⟩⟩
     ·
      have k21 : isT ta 2 = true := by simpa using hc
      have k27 : ¬ (isT ta 1 || isT tb 1 || (oppT ta tb && !isT ta 2 && !isT tb 2)) = true := by simp [k18, k19, k21]
      iterate 2 refine gNo ?_
      iterate 2 refine gPf ?_
      refine gPt ?_
      refine gAs ?_
      refine gE (GoH.condF rfl (gS (gR ?_)))
      refine gMv ?_
      refine GoH.v (Vop.bin rfl rfl rfl rfl (bEqV (v := true) rfl) rfl) ?_
      iterate 2 refine gMv ?_
      refine GoH.v (Vop.bin rfl rfl rfl rfl (bEqT h.ok 2 (.inr rfl)) rfl) ?_
      refine gPt ?_
      refine gAs ?_
      refine gE ?_
      refine GoH.cond rfl (fun hc => ?_) (fun hc => ?_)
      ·
       have k28 : isT ta 2 = true := hc
       refine gS (gR ?_)
       refine gMv ?_
       refine gAs ?_
       refine gE ?_
       refine GoH.ret Try.f45 Try.func45 rfl (fun w' hS => ?_)
       exact ⟨hS.ext, by rw [jointT, if_neg k27, if_pos k28]; exact .inl ⟨⟨b, rfl, h'.eq, .inr (.inr rfl)⟩, h'.neB⟩⟩
      ·
       have k28 : ¬ isT ta 2 = true := by rw [show isT ta 2 = false from hc]; simp
       refine gS (gR ?_)
       refine gMv ?_
       refine GoH.v (Vop.bin rfl rfl rfl rfl (bEqV (v := true) rfl) rfl) ?_
       iterate 2 refine gMv ?_
       refine GoH.v (Vop.bin rfl rfl rfl rfl (bEqT h'.ok 2 (.inr rfl)) rfl) ?_
       refine gMv ?_
       refine GoH.cases (d := 100) rfl (fun hc => ?_) (fun hc => ?_)
       ·
        have k29 : isT tb 2 = true := hc
        refine gNo ?_
        iterate 2 refine gPt ?_
        refine gAs ?_
        refine gE (GoH.condT rfl (gS (gR ?_)))
        refine gMv ?_
        refine gAs ?_
        refine gE ?_
        refine GoH.ret Try.f45 Try.func45 rfl (fun w' hS => ?_)
        exact ⟨hS.ext, by rw [jointT, if_neg k27, if_neg k28, if_pos (by rw [k29]; rfl)]; exact .inl ⟨⟨a, rfl, h.eq, .inr (.inl rfl)⟩, h.neB⟩⟩
       ·
        have k29 : isT tb 2 = false := hc
        refine gMv ?_
        refine gPf ?_
        refine gPt ?_
        refine gAs ?_
        refine gE ?_
        refine GoH.cond rfl (fun hc => ?_) (fun hc => ?_)
        ·
         have k30 : (ta == tb) = true := hc
         refine gS (gR ?_)
         refine gMv ?_
         refine gAs ?_
         refine gE ?_
         refine GoH.ret Try.f45 Try.func45 rfl (fun w' hS => ?_)
         exact ⟨hS.ext, by rw [jointT, if_neg k27, if_neg k28, if_pos (by rw [k29, k30]; rfl)]; exact .inl ⟨⟨a, rfl, h.eq, .inr (.inl rfl)⟩, h.neB⟩⟩
        ·
         have k30 : (ta == tb) = false := hc
         refine gS (gR ?_)
         refine gMv ?_
         refine GoH.v (Vop.bin rfl rfl rfl rfl (bEqV (v := false) rfl) rfl) ?_
         refine gMv ?_
         iterate 9 refine gNo ?_
         refine gPf ?_
         refine gAs ?_
         refine gE (GoH.condF rfl (gS (gR ?_)))
         refine gMv ?_
         refine GoH.v (Vop.bin rfl rfl rfl rfl (bEqV (v := false) rfl) rfl) ?_
         refine gMv ?_
         iterate 2 refine gNo ?_
         refine gPf ?_
         refine gAs ?_
         refine gE (GoH.condF rfl (gS (gR ?_)))
         refine gMv ?_
         refine GoH.v (Vop.bin rfl rfl rfl rfl (bEqV (v := false) rfl) rfl) ?_
         refine gMv ?_
         iterate 2 refine gNo ?_
         refine gPf ?_
         refine gAs ?_
         refine gE (GoH.condF rfl (gK (gIb (gS (gS (gR ?_))))))
         refine gMv ?_
         refine GoH.v (Vop.bin rfl rfl rfl rfl (bNeV (v := true) rfl) rfl) ?_
         refine gE (GoH.condT rfl (gS (gR ?_)))
         refine gAs ?_
         refine gE ?_
         refine GoH.ret Try.f45 Try.func45 rfl (fun w' hS => ?_)
         exact ⟨hS.ext, .inr ⟨rfl, by rw [jointT, if_neg k27, if_neg k28, if_neg (by rw [k29, k30]; simp)]⟩⟩
    ·
     have k20 : oppT ta tb = false := hc
     have k31 : ¬ (isT ta 1 || isT tb 1 || (oppT ta tb && !isT ta 2 && !isT tb 2)) = true := by simp [k18, k19, k20]
     iterate 2 refine gNo ?_
     refine gPf ?_
     refine gMv ?_
     iterate 2 refine gNo ?_
     iterate 2 refine gPf ?_
     refine gPt ?_
     refine gAs ?_
     refine gE (GoH.condF rfl (gS (gR ?_)))
     refine gMv ?_
     refine GoH.v (Vop.bin rfl rfl rfl rfl (bEqV (v := true) rfl) rfl) ?_
     iterate 2 refine gMv ?_
     refine GoH.v (Vop.bin rfl rfl rfl rfl (bEqT h.ok 2 (.inr rfl)) rfl) ?_
     refine gPt ?_
     refine gAs ?_
     refine gE ?_
     refine GoH.cond rfl (fun hc => ?_) (fun hc => ?_)
     ·
      have k32 : isT ta 2 = true := hc
      refine gS (gR ?_)
      refine gMv ?_
      refine gAs ?_
      refine gE ?_
      refine GoH.ret Try.f45 Try.func45 rfl (fun w' hS => ?_)
      exact ⟨hS.ext, by rw [jointT, if_neg k31, if_pos k32]; exact .inl ⟨⟨b, rfl, h'.eq, .inr (.inr rfl)⟩, h'.neB⟩⟩
     ·
      have k32 : ¬ isT ta 2 = true := by rw [show isT ta 2 = false from hc]; simp
      refine gS (gR ?_)
      refine gMv ?_
      refine GoH.v (Vop.bin rfl rfl rfl rfl (bEqV (v := true) rfl) rfl) ?_
      iterate 2 refine gMv ?_
      refine GoH.v (Vop.bin rfl rfl rfl rfl (bEqT h'.ok 2 (.inr rfl)) rfl) ?_
      refine gMv ?_
      refine GoH.cases (d := 100) rfl (fun hc => ?_) (fun hc => ?_)
      ·
       have k33 : isT tb 2 = true := hc
       refine gNo ?_
       iterate 2 refine gPt ?_
       refine gAs ?_
       refine gE (GoH.condT rfl (gS (gR ?_)))
       refine gMv ?_
       refine gAs ?_
       refine gE ?_
       refine GoH.ret Try.f45 Try.func45 rfl (fun w' hS => ?_)
       exact ⟨hS.ext, by rw [jointT, if_neg k31, if_neg k32, if_pos (by rw [k33]; rfl)]; exact .inl ⟨⟨a, rfl, h.eq, .inr (.inl rfl)⟩, h.neB⟩⟩
      ·
       have k33 : isT tb 2 = false := hc
       refine gMv ?_
       refine gPf ?_
       refine gPt ?_
       refine gAs ?_
       refine gE ?_
       refine GoH.cond rfl (fun hc => ?_) (fun hc => ?_)
       ·
        have k34 : (ta == tb) = true := hc
        refine gS (gR ?_)
        refine gMv ?_
        refine gAs ?_
        refine gE ?_
        refine GoH.ret Try.f45 Try.func45 rfl (fun w' hS => ?_)
        exact ⟨hS.ext, by rw [jointT, if_neg k31, if_neg k32, if_pos (by rw [k33, k34]; rfl)]; exact .inl ⟨⟨a, rfl, h.eq, .inr (.inl rfl)⟩, h.neB⟩⟩
       ·
        have k34 : (ta == tb) = false := hc
        refine gS (gR ?_)
        refine gMv ?_
        refine GoH.v (Vop.bin rfl rfl rfl rfl (bEqV (v := false) rfl) rfl) ?_
        refine gMv ?_
        iterate 9 refine gNo ?_
        refine gPf ?_
        refine gAs ?_
        refine gE (GoH.condF rfl (gS (gR ?_)))
        refine gMv ?_
        refine GoH.v (Vop.bin rfl rfl rfl rfl (bEqV (v := false) rfl) rfl) ?_
        refine gMv ?_
        iterate 2 refine gNo ?_
        refine gPf ?_
        refine gAs ?_
        refine gE (GoH.condF rfl (gS (gR ?_)))
        refine gMv ?_
        refine GoH.v (Vop.bin rfl rfl rfl rfl (bEqV (v := false) rfl) rfl) ?_
        refine gMv ?_
        iterate 2 refine gNo ?_
        refine gPf ?_
        refine gAs ?_
        refine gE (GoH.condF rfl (gK (gIb (gS (gS (gR ?_))))))
        refine gMv ?_
        refine GoH.v (Vop.bin rfl rfl rfl rfl (bNeV (v := true) rfl) rfl) ?_
        refine gE (GoH.condT rfl (gS (gR ?_)))
        refine gAs ?_
        refine gE ?_
        refine GoH.ret Try.f45 Try.func45 rfl (fun w' hS => ?_)
        exact ⟨hS.ext, .inr ⟨rfl, by rw [jointT, if_neg k31, if_neg k32, if_neg (by rw [k33, k34]; simp)]⟩⟩
set_option maxRecDepth 8000 in
theorem simpleBool7_c (a b : FV) (ta tb : Tr) (w : World) (ha : FA w a.a a.f) (hb : FA w b.a b.f) (h : Cf a.f ta) (h' : Cf b.f tb) (hla : (canT ta).length ≤ 150) (_hlb : (canT tb).length ≤ 150) : Cn Try.prog 45 [.int .i64 7, a.v, b.v] w (fun v w' => RvO 49 w w' v a b (condT ta tb) (mkQ 7 0 0 0 ta tb)) := by
  have hA : ∀ {w' : World}, Ex [] w w' → FA w' a.a a.f := fun e => ha.ex0 e
  have hB : ∀ {w' : World}, Ex [] w w' → FA w' b.a b.f := fun e => hb.ex0 e
  refine Cn.of Try.func45 rfl rfl ?_
  refine gS (gR ?_)
  refine gAs ?_
  refine gE (gS (gR ?_))
  refine gMv ?_
  refine GoH.callP rfl rfl rfl rfl rfl (fun _ _ => Try.call62 _ _) (fun w _ hS => (by exact top_c a.a a.c a.f ta w (hA hS.ext) h)) ?_
  refine gMv ?_
  refine GoH.callP rfl rfl rfl rfl rfl (fun _ _ => Try.call62 _ _) (fun w _ hS => (by exact top_c b.a b.c b.f tb w (hB hS.ext) h')) ?_
  iterate 2 refine gAs ?_
  refine gE (gS (gR ?_))
  iterate 2 refine gMv ?_
  refine GoH.callP rfl rfl rfl rfl rfl (fun _ _ => Try.call22 _ _) (fun w _ hS => (by exact rsame_t a b ta tb w (hA hS.ext) (hB hS.ext) h h')) ?_
  iterate 2 refine gMv ?_
  refine GoH.callP rfl rfl rfl rfl rfl (fun _ _ => Try.call87 _ _) (fun w _ hS => (by exact opposed_c a b ta tb w (hA hS.ext) (hB hS.ext) h h')) ?_
  iterate 2 refine gAs ?_
  refine gE (gS (gB (gS (gR ?_))))
  refine gMv ?_
  refine GoH.v (Vop.bin rfl rfl rfl rfl (bEqV (v := false) rfl) rfl) ?_
  refine gMv ?_
  iterate 17 refine gNo ?_
  refine gPf ?_
  refine gAs ?_
  refine gE (GoH.condF rfl (gS (gR ?_)))
  refine gMv ?_
  refine GoH.v (Vop.bin rfl rfl rfl rfl (bEqV (v := false) rfl) rfl) ?_
  refine gMv ?_
  iterate 2 refine gNo ?_
  refine gPf ?_
  refine gAs ?_
  refine gE (GoH.condF rfl (gS (gR ?_)))
  refine gMv ?_
  refine GoH.v (Vop.bin rfl rfl rfl rfl (bEqV (v := false) rfl) rfl) ?_
  refine gMv ?_
  iterate 5 refine gNo ?_
  refine gPf ?_
  refine gAs ?_
  refine gE (GoH.condF rfl (gS (gR ?_)))
  refine gMv ?_
  refine GoH.v (Vop.bin rfl rfl rfl rfl (bEqV (v := false) rfl) rfl) ?_
  refine gMv ?_
  iterate 17 refine gNo ?_
  refine gPf ?_
  refine gAs ?_
  refine gE (GoH.condF rfl (gS (gR ?_)))
  refine gMv ?_
  refine GoH.v (Vop.bin rfl rfl rfl rfl (bEqV (v := false) rfl) rfl) ?_
  refine gMv ?_
  iterate 2 refine gNo ?_
  refine gPf ?_
  refine gAs ?_
  refine gE (GoH.condF rfl (gS (gR ?_)))
  refine gMv ?_
  refine GoH.v (Vop.bin rfl rfl rfl rfl (bEqV (v := false) rfl) rfl) ?_
  refine gMv ?_
  iterate 5 refine gNo ?_
  refine gPf ?_
  refine gAs ?_
  refine gE (GoH.condF rfl (gS (gR ?_)))
  refine gMv ?_
  refine GoH.v (Vop.bin rfl rfl rfl rfl (bEqV (v := true) rfl) rfl) ?_
  iterate 2 refine gMv ?_
  refine GoH.v (Vop.bin rfl rfl rfl rfl (bEqT h.ok 2 (.inr rfl)) rfl) ?_
  refine gMv ?_
  refine GoH.cases (d := 111) rfl (fun hc => ?_) (fun hc => ?_)
  ·
   have k1 : isT ta 2 = true := hc
   iterate 2 refine gNo ?_
   refine gPt ?_
   refine gMv ?_
   refine gNo ?_
   iterate 2 refine gPt ?_
   refine gAs ?_
   refine gE (GoH.condT rfl (gS (gR ?_)))
   refine GoH.callM _ rfl rfl rfl rfl rfl (fun _ _ => Try.call39 _ _) (fun w _ hS => (by exact rtrue_c w)) ?_
   rintro v w1 w2 Y' hS he ho
   obtain ⟨q, cap, sp, rfl, hq, hcap, hS'⟩ := gainN hS he ho
   refine ⟨_, hS', ?_⟩
   refine gAs ?_
   refine gE ?_
   refine GoH.ret Try.f45 Try.func45 rfl (fun w' hS => ?_)
   exact ⟨hS.ext, by rw [condT, if_pos (by simp [k1])]; exact .inl ⟨RvP.own (OwnN.mk hS 0 rfl rfl hq hcap), cT_ne (.inl rfl)⟩⟩
  ·
   have k1 : isT ta 2 = false := hc
   refine gMv ?_
   refine GoH.v (Vop.bin rfl rfl rfl rfl (bEqT h'.ok 1 (.inl rfl)) rfl) ?_
   refine gPf ?_
   refine gMv ?_
   refine GoH.cases (d := 115) rfl (fun hc => ?_) (fun hc => ?_)
   ·
    have k2 : isT tb 1 = true := hc
    refine gNo ?_
    iterate 2 refine gPt ?_
    refine gAs ?_
    refine gE (GoH.condT rfl (gS (gR ?_)))
    refine GoH.callM _ rfl rfl rfl rfl rfl (fun _ _ => Try.call39 _ _) (fun w _ hS => (by exact rtrue_c w)) ?_
    rintro v w1 w2 Y' hS he ho
    obtain ⟨q, cap, sp, rfl, hq, hcap, hS'⟩ := gainN hS he ho
    refine ⟨_, hS', ?_⟩
    refine gAs ?_
    refine gE ?_
    refine GoH.ret Try.f45 Try.func45 rfl (fun w' hS => ?_)
    exact ⟨hS.ext, by rw [condT, if_pos (by simp [k2])]; exact .inl ⟨RvP.own (OwnN.mk hS 0 rfl rfl hq hcap), cT_ne (.inl rfl)⟩⟩
   ·
    have k2 : isT tb 1 = false := hc
    refine gMv ?_
    refine gPf ?_
    refine gPt ?_
    refine gAs ?_
    refine gE ?_
    refine GoH.cond rfl (fun hc => ?_) (fun hc => ?_)
    ·
     have k3 : (ta == tb) = true := hc
     refine gS (gR ?_)
     refine GoH.callM _ rfl rfl rfl rfl rfl (fun _ _ => Try.call39 _ _) (fun w _ hS => (by exact rtrue_c w)) ?_
     rintro v w1 w2 Y' hS he ho
     obtain ⟨q, cap, sp, rfl, hq, hcap, hS'⟩ := gainN hS he ho
     refine ⟨_, hS', ?_⟩
     refine gAs ?_
     refine gE ?_
     refine GoH.ret Try.f45 Try.func45 rfl (fun w' hS => ?_)
     exact ⟨hS.ext, by rw [condT, if_pos (by rw [k3]; simp)]; exact .inl ⟨RvP.own (OwnN.mk hS 0 rfl rfl hq hcap), cT_ne (.inl rfl)⟩⟩
    ·
     have k3 : (ta == tb) = false := hc
     have hn0 : ¬ (isT ta 2 || isT tb 1 || ta == tb) = true := by rw [k1, k2, k3]; simp
     refine gS (gR ?_)
     refine gMv ?_
     refine GoH.v (Vop.bin rfl rfl rfl rfl (bEqV (v := true) rfl) rfl) ?_
     iterate 2 refine gMv ?_
     refine GoH.v (Vop.bin rfl rfl rfl rfl (bEqT h.ok 1 (.inl rfl)) rfl) ?_
     refine gPt ?_
     refine gAs ?_
     refine gE ?_
     refine GoH.cond rfl (fun hc => ?_) (fun hc => ?_)
     ·
      have k4 : isT ta 1 = true := hc
      refine gS (gR ?_)
      refine gMv ?_
      refine gAs ?_
      refine gE ?_
      refine GoH.ret Try.f45 Try.func45 rfl (fun w' hS => ?_)
      exact ⟨hS.ext, by rw [condT, if_neg hn0, if_pos k4]; exact .inl ⟨⟨b, rfl, h'.eq, .inr (.inr rfl)⟩, h'.neB⟩⟩
     ·
      have k4 : ¬ isT ta 1 = true := by rw [show isT ta 1 = false from hc]; simp
      refine gS (gR ?_)
      refine gMv ?_
      refine GoH.v (Vop.bin rfl rfl rfl rfl (bEqV (v := true) rfl) rfl) ?_
      iterate 2 refine gMv ?_
      refine GoH.v (Vop.bin rfl rfl rfl rfl (bEqT h'.ok 2 (.inr rfl)) rfl) ?_
      refine gPt ?_
      refine gAs ?_
      refine gE ?_
      refine GoH.cond rfl (fun hc => ?_) (fun hc => ?_)
      ·
       have k5 : isT tb 2 = true := hc
       refine gS (gR ?_)
       refine gMv ?_
       refine GoH.callM _ rfl rfl rfl rfl rfl (fun _ _ => Try.call64 _ _) (fun w _ hS => (by exact ropposite_c a.a a.c a.f ta w (hA hS.ext) h)) ?_
       rintro v w1 w2 Y' hS he ho
       obtain ⟨q, cap, sp, rfl, hq, hcap, hS'⟩ := gainN hS he ho
       refine ⟨_, hS', ?_⟩
       refine gAs ?_
       refine gE ?_
       refine GoH.ret Try.f45 Try.func45 rfl (fun w' hS => ?_)
       exact ⟨hS.ext, by rw [condT, if_neg hn0, if_neg k4, if_pos k5]; exact .inl ⟨RvP.own (OwnN.mk hS 0 rfl rfl hq hcap), h.neg hla⟩⟩
      ·
       have k5 : ¬ isT tb 2 = true := by rw [show isT tb 2 = false from hc]; simp
       refine gK (gIb (gS (gS (gR ?_))))
       refine gMv ?_
       refine GoH.v (Vop.bin rfl rfl rfl rfl (bNeV (v := true) rfl) rfl) ?_
       refine gE (GoH.condT rfl (gS (gR ?_)))
       refine gAs ?_
       refine gE ?_
       refine GoH.ret Try.f45 Try.func45 rfl (fun w' hS => ?_)
       exact ⟨hS.ext, .inr ⟨rfl, by rw [condT, if_neg hn0, if_neg k4, if_neg k5]⟩⟩
set_option maxRecDepth 8000 in
theorem simpleBool8_c (a b : FV) (ta tb : Tr) (w : World) (ha : FA w a.a a.f) (hb : FA w b.a b.f) (h : Cf a.f ta) (h' : Cf b.f tb) (hla : (canT ta).length ≤ 150) (hlb : (canT tb).length ≤ 150) : Cn Try.prog 45 [.int .i64 8, a.v, b.v] w (fun v w' => RvO 49 w w' v a b (equT ta tb) (mkQ 8 0 0 0 ta tb)) := by
  have hA : ∀ {w' : World}, Ex [] w w' → FA w' a.a a.f := fun e => ha.ex0 e
  have hB : ∀ {w' : World}, Ex [] w w' → FA w' b.a b.f := fun e => hb.ex0 e
  refine Cn.of Try.func45 rfl rfl ?_
  refine gS (gR ?_)
  refine gAs ?_
  refine gE (gS (gR ?_))
  refine gMv ?_
  refine GoH.callP rfl rfl rfl rfl rfl (fun _ _ => Try.call62 _ _) (fun w _ hS => (by exact top_c a.a a.c a.f ta w (hA hS.ext) h)) ?_
  refine gMv ?_
  refine GoH.callP rfl rfl rfl rfl rfl (fun _ _ => Try.call62 _ _) (fun w _ hS => (by exact top_c b.a b.c b.f tb w (hB hS.ext) h')) ?_
  iterate 2 refine gAs ?_
  refine gE (gS (gR ?_))
  iterate 2 refine gMv ?_
  refine GoH.callP rfl rfl rfl rfl rfl (fun _ _ => Try.call22 _ _) (fun w _ hS => (by exact rsame_t a b ta tb w (hA hS.ext) (hB hS.ext) h h')) ?_
  iterate 2 refine gMv ?_
  refine GoH.callP rfl rfl rfl rfl rfl (fun _ _ => Try.call87 _ _) (fun w _ hS => (by exact opposed_c a b ta tb w (hA hS.ext) (hB hS.ext) h h')) ?_
  iterate 2 refine gAs ?_
  refine gE (gS (gB (gS (gR ?_))))
  refine gMv ?_
  refine GoH.v (Vop.bin rfl rfl rfl rfl (bEqV (v := false) rfl) rfl) ?_
  refine gMv ?_
  iterate 17 refine gNo ?_
  refine gPf ?_
  refine gAs ?_
  refine gE (GoH.condF rfl (gS (gR ?_)))
  refine gMv ?_
  refine GoH.v (Vop.bin rfl rfl rfl rfl (bEqV (v := false) rfl) rfl) ?_
  refine gMv ?_
  iterate 2 refine gNo ?_
  refine gPf ?_
  refine gAs ?_
  refine gE (GoH.condF rfl (gS (gR ?_)))
  refine gMv ?_
  refine GoH.v (Vop.bin rfl rfl rfl rfl (bEqV (v := false) rfl) rfl) ?_
  refine gMv ?_
  iterate 5 refine gNo ?_
  refine gPf ?_
  refine gAs ?_
  refine gE (GoH.condF rfl (gS (gR ?_)))
  refine gMv ?_
  refine GoH.v (Vop.bin rfl rfl rfl rfl (bEqV (v := false) rfl) rfl) ?_
  refine gMv ?_
  iterate 17 refine gNo ?_
  refine gPf ?_
  refine gAs ?_
  refine gE (GoH.condF rfl (gS (gR ?_)))
  refine gMv ?_
  refine GoH.v (Vop.bin rfl rfl rfl rfl (bEqV (v := false) rfl) rfl) ?_
  refine gMv ?_
  iterate 2 refine gNo ?_
  refine gPf ?_
  refine gAs ?_
  refine gE (GoH.condF rfl (gS (gR ?_)))
  refine gMv ?_
  refine GoH.v (Vop.bin rfl rfl rfl rfl (bEqV (v := false) rfl) rfl) ?_
  refine gMv ?_
  iterate 5 refine gNo ?_
  refine gPf ?_
  refine gAs ?_
  refine gE (GoH.condF rfl (gS (gR ?_)))
  refine gMv ?_
  refine GoH.v (Vop.bin rfl rfl rfl rfl (bEqV (v := false) rfl) rfl) ?_
  refine gMv ?_
  iterate 9 refine gNo ?_
  refine gPf ?_
  refine gAs ?_
  refine gE (GoH.condF rfl (gS (gR ?_)))
  refine gMv ?_
  refine GoH.v (Vop.bin rfl rfl rfl rfl (bEqV (v := false) rfl) rfl) ?_
  refine gMv ?_
  iterate 2 refine gNo ?_
  refine gPf ?_
  refine gAs ?_
  refine gE (GoH.condF rfl (gS (gR ?_)))
  refine gMv ?_
  refine GoH.v (Vop.bin rfl rfl rfl rfl (bEqV (v := false) rfl) rfl) ?_
  refine gMv ?_
  iterate 2 refine gNo ?_
  refine gPf ?_
  refine gAs ?_
  refine gE (GoH.condF rfl (gK (gIb (gS (gS (gR ?_))))))
  refine gMv ?_
  refine GoH.v (Vop.bin rfl rfl rfl rfl (bNeV (v := false) rfl) rfl) ?_
  refine gE (GoH.condF rfl (gK (gS (gR ?_))))
  iterate 4 refine gMv ?_
  refine GoH.callM _ rfl rfl rfl rfl rfl (fun _ _ => Try.call88 _ _) (fun w _ hS => (by exact simpleIff_c a b ta tb w (hA hS.ext) (hB hS.ext) h h' hla hlb)) ?_
  rintro v w1 w2 Y' hS he hr
  obtain ⟨p, hS', hk⟩ := hr.keep hS he
  refine ⟨_, hS', ?_⟩
  refine gAs ?_
  refine gE ?_
  refine GoH.ret Try.f45 Try.func45 rfl (fun w' hS => ?_)
  exact ⟨hS.ext, hk _ _ hS⟩
set_option maxRecDepth 8000 in
theorem simpleModal_c (op i e g : Int) (a b : FV) (ta tb : Tr) (w : World) (hop : 1 ≤ op ∧ op ≤ 21) (hf : fldE op i e g = 0) (ha : Opd w (usX op) a ta) (hb : Opd w (usY op) b tb) (hna : usX op = true → a.f ≠ [] ∧ (canT ta).length ≤ 150) (hnb : usY op = true → b.f ≠ [] ∧ (canT tb).length ≤ 150) : Cn Try.prog 44 [.int .i64 op, a.v, b.v] w (fun v w' => (5 ≤ op ∧ op ≤ 8 ∧ v = .slice none 0 0) ∨ (¬ (5 ≤ op ∧ op ≤ 8) ∧ RvO 49 w w' v a b (simT op i e g ta tb) (mkQ op i e g ta tb))) := by
  have hF := fldOk_of hf
  have hA : ∀ {w' : World}, usX op = true → Ex [] w w' → FA w' a.a a.f := fun u e => (ha u).1.ex0 e
  have hB : ∀ {w' : World}, usY op = true → Ex [] w w' → FA w' b.a b.f := fun u e => (hb u).1.ex0 e
  have h : usX op = true → Cf a.f ta := fun u => ⟨(ha u).2.1, (hna u).1, (ha u).2.2⟩
  have h' : usY op = true → Cf b.f tb := fun u => ⟨(hb u).2.1, (hnb u).1, (hb u).2.2⟩
  refine Cn.of Try.func44 rfl rfl ?_
  refine gS (gR ?_)
  refine gAs ?_
  refine gE (gS (gS (gR ?_)))
  refine gMv ?_
  refine gE (gB (gS (gR ?_)))
  refine gBi bEq ?_
  refine gAs ?_
  refine gE ?_
  refine GoH.cond rfl (fun hc => ?_) (fun hc => ?_)
  ·
   obtain rfl : op = 4 := by simpa using hc
   have hz : i = 0 ∧ e = 0 ∧ g = 0 := ⟨hF.i0 rfl, hF.e0 (by decide), hF.g0 rfl⟩
   refine gS (gS (gR ?_))
   refine gMv ?_
   refine GoH.callP rfl rfl rfl rfl rfl (fun _ _ => Try.call62 _ _) (fun w _ hS => (by exact top_c a.a a.c a.f ta w (hA rfl hS.ext) (h rfl))) ?_
   refine GoH.v (Vop.bin rfl rfl rfl rfl (bEqT (h rfl).ok 1 (.inl rfl)) rfl) ?_
   refine gE ?_
   refine GoH.cond rfl (fun hc => ?_) (fun hc => ?_)
   ·
    have m1 : isT ta 1 = true := hc
    refine gS (gR ?_)
    refine GoH.callM _ rfl rfl rfl rfl rfl (fun _ _ => Try.call86 _ _) (fun w _ hS => (by exact rfalse_c w)) ?_
    rintro v w1 w2 Y' hS he ho
    obtain ⟨q, cap, sp, rfl, hq, hcap, hS'⟩ := gainN hS he ho
    refine ⟨_, hS', ?_⟩
    refine gAs ?_
    refine gE ?_
    refine GoH.ret Try.f44 Try.func44 rfl (fun w' hS => ?_)
    exact ⟨hS.ext, by refine .inr ⟨by omega, ?_⟩; rw [sim4, if_pos m1]; exact .inl ⟨RvP.own (OwnN.mk hS 0 rfl rfl hq hcap), cT_ne (.inr rfl)⟩⟩
   ·
    have m1 : ¬ isT ta 1 = true := by rw [show isT ta 1 = false from hc]; simp
    refine gK (gS (gS (gR ?_)))
    refine gMv ?_
    refine GoH.callP rfl rfl rfl rfl rfl (fun _ _ => Try.call62 _ _) (fun w _ hS => (by exact top_c a.a a.c a.f ta w (hA rfl hS.ext) (h rfl))) ?_
    refine GoH.v (Vop.bin rfl rfl rfl rfl (bEqT (h rfl).ok 2 (.inr rfl)) rfl) ?_
    refine gE ?_
    refine GoH.cond rfl (fun hc => ?_) (fun hc => ?_)
    ·
     have m2 : isT ta 2 = true := hc
     refine gS (gR ?_)
     refine GoH.callM _ rfl rfl rfl rfl rfl (fun _ _ => Try.call39 _ _) (fun w _ hS => (by exact rtrue_c w)) ?_
     rintro v w1 w2 Y' hS he ho
     obtain ⟨q, cap, sp, rfl, hq, hcap, hS'⟩ := gainN hS he ho
     refine ⟨_, hS', ?_⟩
     refine gAs ?_
     refine gE ?_
     refine GoH.ret Try.f44 Try.func44 rfl (fun w' hS => ?_)
     exact ⟨hS.ext, by refine .inr ⟨by omega, ?_⟩; rw [sim4, if_neg m1, if_pos m2]; exact .inl ⟨RvP.own (OwnN.mk hS 0 rfl rfl hq hcap), cT_ne (.inl rfl)⟩⟩
    ·
     have m2 : ¬ isT ta 2 = true := by rw [show isT ta 2 = false from hc]; simp
     refine gK (gS (gR ?_))
     refine gMv ?_
     refine GoH.callP rfl rfl rfl rfl rfl (fun _ _ => Try.call62 _ _) (fun w _ hS => (by exact top_c a.a a.c a.f ta w (hA rfl hS.ext) (h rfl))) ?_
     refine gBi bEq ?_
     refine gE ?_
     refine GoH.cond rfl (fun hc => ?_) (fun hc => ?_)
     ·
      refine gS (gR ?_)
      refine gMv ?_
      refine GoH.callM _ rfl rfl rfl rfl rfl (fun _ _ => Try.call64 _ _) (fun w _ hS => (by exact ropposite_c a.a a.c a.f ta w (hA rfl hS.ext) (h rfl))) ?_
      rintro v w1 w2 Y' hS he ho
      obtain ⟨q, cap, sp, rfl, hq, hcap, hS'⟩ := gainN hS he ho
      refine ⟨_, hS', ?_⟩
      refine gAs ?_
      refine gE ?_
      refine GoH.ret Try.f44 Try.func44 rfl (fun w' hS => ?_)
      exact ⟨hS.ext, by refine .inr ⟨by omega, ?_⟩; rw [sim4, if_neg m1, if_neg m2]; exact .inl ⟨RvP.own (OwnN.mk hS 0 rfl rfl hq hcap), (h rfl).neg (hna rfl).2⟩⟩
     ·
      have m4 : topO ta ≠ 4 := by simpa using hc
      have ms := strT_none (h rfl).ok m4
      refine gK (gIb (gS (gR ?_)))
      refine gAs ?_
      refine gE ?_
      refine GoH.ret Try.f44 Try.func44 rfl (fun w' hS => ?_)
      exact ⟨hS.ext, by refine .inr ⟨by omega, ?_⟩; exact .inr ⟨rfl, by rw [sim4, if_neg m1, if_neg m2, hz.1, hz.2.1, hz.2.2, mkQ_un rfl rfl]; simp [negT, ms, ntT]⟩⟩
  ·
   have n4 : ¬ op = 4 := by simpa using hc
   refine gS (gS (gR ?_))
   refine gBi bEq ?_
   refine gAs ?_
   refine gE ?_
   refine GoH.cond rfl (fun hc => ?_) (fun hc => ?_)
   ·
    have e9 : op = 9 := by simpa using hc
    refine gK ?_
    refine GoH.cond rfl (fun hc => ?_) (fun hc => ?_)
    ·
     subst e9
     refine gS (gR ?_)
     refine gMv ?_
     refine GoH.callP rfl rfl rfl rfl rfl (fun _ _ => Try.call62 _ _) (fun w _ hS => (by exact top_c a.a a.c a.f ta w (hA rfl hS.ext) (h rfl))) ?_
     refine GoH.v (Vop.bin rfl rfl rfl rfl (bEqT (h rfl).ok 1 (.inl rfl)) rfl) ?_
     refine gE ?_
     refine GoH.cond rfl (fun hc => ?_) (fun hc => ?_)
     ·
      have k35 : isT ta 1 = true := hc
      have k35b := (isT_eq (h rfl).ok (.inl rfl)).1 k35
      refine gS (gR ?_)
      refine gMv ?_
      refine gAs ?_
      refine gE ?_
      refine GoH.ret Try.f44 Try.func44 rfl (fun w' hS => ?_)
      exact ⟨hS.ext, by refine .inr ⟨by omega, ?_⟩; rw [sim9, if_pos k35, ← k35b]; exact .inl ⟨⟨a, rfl, (h rfl).eq, .inr (.inl rfl)⟩, (h rfl).neB⟩⟩
     ·
      have k35 : ¬ isT ta 1 = true := by rw [show isT ta 1 = false from hc]; simp
      refine gK (gIb (gS (gR ?_)))
      refine gAs ?_
      refine gE ?_
      refine GoH.ret Try.f44 Try.func44 rfl (fun w' hS => ?_)
      exact ⟨hS.ext, by refine .inr ⟨by omega, ?_⟩; exact .inr ⟨rfl, by rw [sim9, if_neg k35]⟩⟩
    ·
     exact absurd hc (by rw [e9]; simp)
   ·
    have n9 : ¬ op = 9 := by simpa using hc
    refine gS (gR ?_)
    refine gBi bEq ?_
    refine gAs ?_
    refine gE ?_
    refine GoH.cond rfl (fun hc => ?_) (fun hc => ?_)
    ·
     have e11 : op = 11 := by simpa using hc
     refine gK ?_
     refine GoH.cond rfl (fun hc => ?_) (fun hc => ?_)
     ·
      subst e11
      refine gS (gR ?_)
      refine gMv ?_
      refine GoH.callP rfl rfl rfl rfl rfl (fun _ _ => Try.call62 _ _) (fun w _ hS => (by exact top_c a.a a.c a.f ta w (hA rfl hS.ext) (h rfl))) ?_
      refine GoH.v (Vop.bin rfl rfl rfl rfl (bEqT (h rfl).ok 1 (.inl rfl)) rfl) ?_
      refine gE ?_
      refine GoH.cond rfl (fun hc => ?_) (fun hc => ?_)
      ·
       have k36 : isT ta 1 = true := hc
       have k36b := (isT_eq (h rfl).ok (.inl rfl)).1 k36
       refine gS (gR ?_)
       refine gMv ?_
       refine gAs ?_
       refine gE ?_
       refine GoH.ret Try.f44 Try.func44 rfl (fun w' hS => ?_)
       exact ⟨hS.ext, by refine .inr ⟨by omega, ?_⟩; rw [sim11, if_pos k36, ← k36b]; exact .inl ⟨⟨a, rfl, (h rfl).eq, .inr (.inl rfl)⟩, (h rfl).neB⟩⟩
      ·
       have k36 : ¬ isT ta 1 = true := by rw [show isT ta 1 = false from hc]; simp
       refine gK (gIb (gS (gR ?_)))
       refine gAs ?_
       refine gE ?_
       refine GoH.ret Try.f44 Try.func44 rfl (fun w' hS => ?_)
       exact ⟨hS.ext, by refine .inr ⟨by omega, ?_⟩; exact .inr ⟨rfl, by rw [sim11, if_neg k36]⟩⟩
     ·
      exact absurd hc (by rw [e11]; simp)
    ·
     have n11 : ¬ op = 11 := by simpa using hc
     refine gS (gR ?_)
     refine gBi bEq ?_
     refine gAs ?_
     refine gE ?_
     refine GoH.cond rfl (fun hc => ?_) (fun hc => ?_)
     ·
      have e12 : op = 12 := by simpa using hc
      refine gK ?_
      refine GoH.cond rfl (fun hc => ?_) (fun hc => ?_)
      ·
       subst e12
       refine gS (gR ?_)
       refine gMv ?_
       refine GoH.callP rfl rfl rfl rfl rfl (fun _ _ => Try.call62 _ _) (fun w _ hS => (by exact top_c a.a a.c a.f ta w (hA rfl hS.ext) (h rfl))) ?_
       refine GoH.v (Vop.bin rfl rfl rfl rfl (bEqT (h rfl).ok 1 (.inl rfl)) rfl) ?_
       refine gE ?_
       refine GoH.cond rfl (fun hc => ?_) (fun hc => ?_)
       ·
        have k37 : isT ta 1 = true := hc
        have k37b := (isT_eq (h rfl).ok (.inl rfl)).1 k37
        refine gS (gR ?_)
        refine gMv ?_
        refine gAs ?_
        refine gE ?_
        refine GoH.ret Try.f44 Try.func44 rfl (fun w' hS => ?_)
        exact ⟨hS.ext, by refine .inr ⟨by omega, ?_⟩; rw [sim12, if_pos k37, ← k37b]; exact .inl ⟨⟨a, rfl, (h rfl).eq, .inr (.inl rfl)⟩, (h rfl).neB⟩⟩
       ·
        have k37 : ¬ isT ta 1 = true := by rw [show isT ta 1 = false from hc]; simp
        refine gK (gIb (gS (gR ?_)))
        refine gAs ?_
        refine gE ?_
        refine GoH.ret Try.f44 Try.func44 rfl (fun w' hS => ?_)
        exact ⟨hS.ext, by refine .inr ⟨by omega, ?_⟩; exact .inr ⟨rfl, by rw [sim12, if_neg k37]⟩⟩
      ·
       exact absurd hc (by rw [e12]; simp)
     ·
      have n12 : ¬ op = 12 := by simpa using hc
      refine gS (gR ?_)
      refine gBi bEq ?_
      refine gAs ?_
      refine gE ?_
      refine GoH.cond rfl (fun hc => ?_) (fun hc => ?_)
      ·
       have e15 : op = 15 := by simpa using hc
       refine gK ?_
       refine GoH.cond rfl (fun hc => ?_) (fun hc => ?_)
       ·
        subst e15
        refine gS (gR ?_)
        refine gMv ?_
        refine GoH.callP rfl rfl rfl rfl rfl (fun _ _ => Try.call62 _ _) (fun w _ hS => (by exact top_c a.a a.c a.f ta w (hA rfl hS.ext) (h rfl))) ?_
        refine GoH.v (Vop.bin rfl rfl rfl rfl (bEqT (h rfl).ok 1 (.inl rfl)) rfl) ?_
        refine gE ?_
        refine GoH.cond rfl (fun hc => ?_) (fun hc => ?_)
        ·
         have k38 : isT ta 1 = true := hc
         have k38b := (isT_eq (h rfl).ok (.inl rfl)).1 k38
         refine gS (gR ?_)
         refine gMv ?_
         refine gAs ?_
         refine gE ?_
         refine GoH.ret Try.f44 Try.func44 rfl (fun w' hS => ?_)
         exact ⟨hS.ext, by refine .inr ⟨by omega, ?_⟩; rw [sim15, if_pos k38, ← k38b]; exact .inl ⟨⟨a, rfl, (h rfl).eq, .inr (.inl rfl)⟩, (h rfl).neB⟩⟩
        ·
         have k38 : ¬ isT ta 1 = true := by rw [show isT ta 1 = false from hc]; simp
         refine gK (gIb (gS (gR ?_)))
         refine gAs ?_
         refine gE ?_
         refine GoH.ret Try.f44 Try.func44 rfl (fun w' hS => ?_)
         exact ⟨hS.ext, by refine .inr ⟨by omega, ?_⟩; exact .inr ⟨rfl, by rw [sim15, if_neg k38]⟩⟩
       ·
        exact absurd hc (by rw [e15]; simp)
      ·
       have n15 : ¬ op = 15 := by simpa using hc
       refine gR ?_
       refine gBi bEq ?_
       refine gAs ?_
       refine gE ?_
       refine GoH.cond rfl (fun hc => ?_) (fun hc => ?_)
       ·
        have e17 : op = 17 := by simpa using hc
        subst e17
        refine gS (gR ?_)
        refine gMv ?_
        refine GoH.callP rfl rfl rfl rfl rfl (fun _ _ => Try.call62 _ _) (fun w _ hS => (by exact top_c a.a a.c a.f ta w (hA rfl hS.ext) (h rfl))) ?_
        refine GoH.v (Vop.bin rfl rfl rfl rfl (bEqT (h rfl).ok 1 (.inl rfl)) rfl) ?_
        refine gE ?_
        refine GoH.cond rfl (fun hc => ?_) (fun hc => ?_)
        ·
         have k39 : isT ta 1 = true := hc
         have k39b := (isT_eq (h rfl).ok (.inl rfl)).1 k39
         refine gS (gR ?_)
         refine gMv ?_
         refine gAs ?_
         refine gE ?_
         refine GoH.ret Try.f44 Try.func44 rfl (fun w' hS => ?_)
         exact ⟨hS.ext, by refine .inr ⟨by omega, ?_⟩; rw [sim17, if_pos k39, ← k39b]; exact .inl ⟨⟨a, rfl, (h rfl).eq, .inr (.inl rfl)⟩, (h rfl).neB⟩⟩
        ·
         have k39 : ¬ isT ta 1 = true := by rw [show isT ta 1 = false from hc]; simp
         refine gK (gIb (gS (gR ?_)))
         refine gAs ?_
         refine gE ?_
         refine GoH.ret Try.f44 Try.func44 rfl (fun w' hS => ?_)
         exact ⟨hS.ext, by refine .inr ⟨by omega, ?_⟩; exact .inr ⟨rfl, by rw [sim17, if_neg k39]⟩⟩
       ·
        have n17 : ¬ op = 17 := by simpa using hc
        refine gS (gR ?_)
        refine gBi bEq ?_
        refine gAs ?_
        refine gE ?_
        refine GoH.cond rfl (fun hc => ?_) (fun hc => ?_)
        ·
         obtain rfl : op = 10 := by simpa using hc
         refine gS (gR ?_)
         refine gMv ?_
         refine GoH.callP rfl rfl rfl rfl rfl (fun _ _ => Try.call62 _ _) (fun w _ hS => (by exact top_c a.a a.c a.f ta w (hA rfl hS.ext) (h rfl))) ?_
         refine GoH.v (Vop.bin rfl rfl rfl rfl (bEqT (h rfl).ok 2 (.inr rfl)) rfl) ?_
         refine gE ?_
         refine GoH.cond rfl (fun hc => ?_) (fun hc => ?_)
         ·
          have m6 : isT ta 2 = true := hc
          have m6b := (isT_eq (h rfl).ok (.inr rfl)).1 m6
          refine gS (gR ?_)
          refine gMv ?_
          refine gAs ?_
          refine gE ?_
          refine GoH.ret Try.f44 Try.func44 rfl (fun w' hS => ?_)
          exact ⟨hS.ext, by refine .inr ⟨by omega, ?_⟩; rw [sim10, if_pos m6, ← m6b]; exact .inl ⟨⟨a, rfl, (h rfl).eq, .inr (.inl rfl)⟩, (h rfl).neB⟩⟩
         ·
          have m6 : ¬ isT ta 2 = true := by rw [show isT ta 2 = false from hc]; simp
          refine gK (gIb (gS (gR ?_)))
          refine gAs ?_
          refine gE ?_
          refine GoH.ret Try.f44 Try.func44 rfl (fun w' hS => ?_)
          exact ⟨hS.ext, by refine .inr ⟨by omega, ?_⟩; exact .inr ⟨rfl, by rw [sim10, if_neg m6]⟩⟩
        ·
         have n10 : ¬ op = 10 := by simpa using hc
         refine gS (gS (gR ?_))
         refine gBi bEq ?_
         refine gAs ?_
         refine gE ?_
         refine GoH.cond rfl (fun hc => ?_) (fun hc => ?_)
         ·
          have e13 : op = 13 := by simpa using hc
          refine gK ?_
          refine GoH.cond rfl (fun hc => ?_) (fun hc => ?_)
          ·
           subst e13
           refine gS (gS (gR ?_))
           refine gMv ?_
           refine GoH.callP rfl rfl rfl rfl rfl (fun _ _ => Try.call62 _ _) (fun w _ hS => (by exact top_c a.a a.c a.f ta w (hA rfl hS.ext) (h rfl))) ?_
           refine GoH.v (Vop.bin rfl rfl rfl rfl (bEqT (h rfl).ok 2 (.inr rfl)) rfl) ?_
           refine gMv ?_
           refine GoH.cases (d := 46) rfl (fun hc => ?_) (fun hc => ?_)
           ·
            have k40 : isT ta 2 = true := hc
            iterate 3 refine gNo ?_
            refine gPt ?_
            refine gE (GoH.condT rfl (gS (gR ?_)))
            refine GoH.callM _ rfl rfl rfl rfl rfl (fun _ _ => Try.call39 _ _) (fun w _ hS => (by exact rtrue_c w)) ?_
            rintro v w1 w2 Y' hS he ho
            obtain ⟨q, cap, sp, rfl, hq, hcap, hS'⟩ := gainN hS he ho
            refine ⟨_, hS', ?_⟩
            refine gAs ?_
            refine gE ?_
            refine GoH.ret Try.f44 Try.func44 rfl (fun w' hS => ?_)
            exact ⟨hS.ext, by refine .inr ⟨by omega, ?_⟩; rw [sim13, if_pos (by simp [k40])]; exact .inl ⟨RvP.own (OwnN.mk hS 0 rfl rfl hq hcap), cT_ne (.inl rfl)⟩⟩
           ·
            have k40 : isT ta 2 = false := hc
            refine gMv ?_
            refine GoH.callP rfl rfl rfl rfl rfl (fun _ _ => Try.call62 _ _) (fun w _ hS => (by exact top_c b.a b.c b.f tb w (hB rfl hS.ext) (h' rfl))) ?_
            refine GoH.v (Vop.bin rfl rfl rfl rfl (bEqT (h' rfl).ok 1 (.inl rfl)) rfl) ?_
            refine gPf ?_
            refine gE ?_
            refine GoH.cond rfl (fun hc => ?_) (fun hc => ?_)
            ·
             have k41 : isT tb 1 = true := hc
             refine gS (gR ?_)
             refine GoH.callM _ rfl rfl rfl rfl rfl (fun _ _ => Try.call39 _ _) (fun w _ hS => (by exact rtrue_c w)) ?_
             rintro v w1 w2 Y' hS he ho
             obtain ⟨q, cap, sp, rfl, hq, hcap, hS'⟩ := gainN hS he ho
             refine ⟨_, hS', ?_⟩
             refine gAs ?_
             refine gE ?_
             refine GoH.ret Try.f44 Try.func44 rfl (fun w' hS => ?_)
             exact ⟨hS.ext, by refine .inr ⟨by omega, ?_⟩; rw [sim13, if_pos (by simp [k41])]; exact .inl ⟨RvP.own (OwnN.mk hS 0 rfl rfl hq hcap), cT_ne (.inl rfl)⟩⟩
            ·
             have k41 : isT tb 1 = false := hc
             refine gK (gS (gR ?_))
             refine gMv ?_
             refine GoH.v (Vop.bin rfl rfl rfl rfl (bEqV (v := false) rfl) rfl) ?_
             refine gMv ?_
             iterate 3 refine gNo ?_
             refine gPf ?_
             refine gE (GoH.condF rfl (gK (gIb (gS (gR ?_)))))
             refine gAs ?_
             refine gE ?_
             refine GoH.ret Try.f44 Try.func44 rfl (fun w' hS => ?_)
             exact ⟨hS.ext, by refine .inr ⟨by omega, ?_⟩; exact .inr ⟨rfl, by rw [sim13, if_neg (by simp [k40, k41])]⟩⟩
          ·
           exact absurd hc (by rw [e13]; simp)
         ·
          have n13 : ¬ op = 13 := by simpa using hc
          refine gS (gR ?_)
          refine gBi bEq ?_
          refine gAs ?_
          refine gE ?_
          refine GoH.cond rfl (fun hc => ?_) (fun hc => ?_)
          ·
           have e14 : op = 14 := by simpa using hc
           refine gK ?_
           refine GoH.cond rfl (fun hc => ?_) (fun hc => ?_)
           ·
            subst e14
            refine gS (gS (gR ?_))
            refine gMv ?_
            refine GoH.callP rfl rfl rfl rfl rfl (fun _ _ => Try.call62 _ _) (fun w _ hS => (by exact top_c a.a a.c a.f ta w (hA rfl hS.ext) (h rfl))) ?_
            refine GoH.v (Vop.bin rfl rfl rfl rfl (bEqT (h rfl).ok 2 (.inr rfl)) rfl) ?_
            refine gMv ?_
            refine GoH.cases (d := 46) rfl (fun hc => ?_) (fun hc => ?_)
            ·
             have k42 : isT ta 2 = true := hc
             iterate 3 refine gNo ?_
             refine gPt ?_
             refine gE (GoH.condT rfl (gS (gR ?_)))
             refine GoH.callM _ rfl rfl rfl rfl rfl (fun _ _ => Try.call39 _ _) (fun w _ hS => (by exact rtrue_c w)) ?_
             rintro v w1 w2 Y' hS he ho
             obtain ⟨q, cap, sp, rfl, hq, hcap, hS'⟩ := gainN hS he ho
             refine ⟨_, hS', ?_⟩
             refine gAs ?_
             refine gE ?_
             refine GoH.ret Try.f44 Try.func44 rfl (fun w' hS => ?_)
             exact ⟨hS.ext, by refine .inr ⟨by omega, ?_⟩; rw [sim14, if_pos (by simp [k42])]; exact .inl ⟨RvP.own (OwnN.mk hS 0 rfl rfl hq hcap), cT_ne (.inl rfl)⟩⟩
            ·
             have k42 : isT ta 2 = false := hc
             refine gMv ?_
             refine GoH.callP rfl rfl rfl rfl rfl (fun _ _ => Try.call62 _ _) (fun w _ hS => (by exact top_c b.a b.c b.f tb w (hB rfl hS.ext) (h' rfl))) ?_
             refine GoH.v (Vop.bin rfl rfl rfl rfl (bEqT (h' rfl).ok 1 (.inl rfl)) rfl) ?_
             refine gPf ?_
             refine gE ?_
             refine GoH.cond rfl (fun hc => ?_) (fun hc => ?_)
             ·
              have k43 : isT tb 1 = true := hc
              refine gS (gR ?_)
              refine GoH.callM _ rfl rfl rfl rfl rfl (fun _ _ => Try.call39 _ _) (fun w _ hS => (by exact rtrue_c w)) ?_
              rintro v w1 w2 Y' hS he ho
              obtain ⟨q, cap, sp, rfl, hq, hcap, hS'⟩ := gainN hS he ho
              refine ⟨_, hS', ?_⟩
              refine gAs ?_
              refine gE ?_
              refine GoH.ret Try.f44 Try.func44 rfl (fun w' hS => ?_)
              exact ⟨hS.ext, by refine .inr ⟨by omega, ?_⟩; rw [sim14, if_pos (by simp [k43])]; exact .inl ⟨RvP.own (OwnN.mk hS 0 rfl rfl hq hcap), cT_ne (.inl rfl)⟩⟩
             ·
              have k43 : isT tb 1 = false := hc
              refine gK (gS (gR ?_))
              refine gMv ?_
              refine GoH.v (Vop.bin rfl rfl rfl rfl (bEqV (v := false) rfl) rfl) ?_
              refine gMv ?_
              iterate 3 refine gNo ?_
              refine gPf ?_
              refine gE (GoH.condF rfl (gK (gIb (gS (gR ?_)))))
              refine gAs ?_
              refine gE ?_
              refine GoH.ret Try.f44 Try.func44 rfl (fun w' hS => ?_)
              exact ⟨hS.ext, by refine .inr ⟨by omega, ?_⟩; exact .inr ⟨rfl, by rw [sim14, if_neg (by simp [k42, k43])]⟩⟩
           ·
            exact absurd hc (by rw [e14]; simp)
          ·
           have n14 : ¬ op = 14 := by simpa using hc
           refine gR ?_
           refine gBi bEq ?_
           refine gAs ?_
           refine gE ?_
           refine GoH.cond rfl (fun hc => ?_) (fun hc => ?_)
           ·
            have e16 : op = 16 := by simpa using hc
            subst e16
            refine gS (gS (gR ?_))
            refine gMv ?_
            refine GoH.callP rfl rfl rfl rfl rfl (fun _ _ => Try.call62 _ _) (fun w _ hS => (by exact top_c a.a a.c a.f ta w (hA rfl hS.ext) (h rfl))) ?_
            refine GoH.v (Vop.bin rfl rfl rfl rfl (bEqT (h rfl).ok 2 (.inr rfl)) rfl) ?_
            refine gMv ?_
            refine GoH.cases (d := 46) rfl (fun hc => ?_) (fun hc => ?_)
            ·
             have k44 : isT ta 2 = true := hc
             have k44b : isT ta 1 = false := by rw [(isT_eq (h rfl).ok (.inr rfl)).1 k44]; rfl
             iterate 3 refine gNo ?_
             refine gPt ?_
             refine gE (GoH.condT rfl (gS (gR ?_)))
             refine GoH.callM _ rfl rfl rfl rfl rfl (fun _ _ => Try.call39 _ _) (fun w _ hS => (by exact rtrue_c w)) ?_
             rintro v w1 w2 Y' hS he ho
             obtain ⟨q, cap, sp, rfl, hq, hcap, hS'⟩ := gainN hS he ho
             refine ⟨_, hS', ?_⟩
             refine gAs ?_
             refine gE ?_
             refine GoH.ret Try.f44 Try.func44 rfl (fun w' hS => ?_)
             exact ⟨hS.ext, by refine .inr ⟨by omega, ?_⟩; rw [sim16, if_neg (by simp [k44b]), if_pos (by simp [k44])]; exact .inl ⟨RvP.own (OwnN.mk hS 0 rfl rfl hq hcap), cT_ne (.inl rfl)⟩⟩
            ·
             have k44 : isT ta 2 = false := hc
             refine gMv ?_
             refine GoH.callP rfl rfl rfl rfl rfl (fun _ _ => Try.call62 _ _) (fun w _ hS => (by exact top_c b.a b.c b.f tb w (hB rfl hS.ext) (h' rfl))) ?_
             refine GoH.v (Vop.bin rfl rfl rfl rfl (bEqT (h' rfl).ok 1 (.inl rfl)) rfl) ?_
             refine gPf ?_
             refine gE ?_
             refine GoH.cond rfl (fun hc => ?_) (fun hc => ?_)
             ·
              have k45 : isT tb 1 = true := hc
              refine gS (gR ?_)
              refine GoH.callM _ rfl rfl rfl rfl rfl (fun _ _ => Try.call39 _ _) (fun w _ hS => (by exact rtrue_c w)) ?_
              rintro v w1 w2 Y' hS he ho
              obtain ⟨q, cap, sp, rfl, hq, hcap, hS'⟩ := gainN hS he ho
              refine ⟨_, hS', ?_⟩
              refine gAs ?_
              refine gE ?_
              refine GoH.ret Try.f44 Try.func44 rfl (fun w' hS => ?_)
              exact ⟨hS.ext, by refine .inr ⟨by omega, ?_⟩; rw [sim16, if_neg (by simp [k45]), if_pos (by simp [k45])]; exact .inl ⟨RvP.own (OwnN.mk hS 0 rfl rfl hq hcap), cT_ne (.inl rfl)⟩⟩
             ·
              have k45 : isT tb 1 = false := hc
              refine gK (gS (gR ?_))
              refine gMv ?_
              refine GoH.v (Vop.bin rfl rfl rfl rfl (bEqV (v := true) rfl) rfl) ?_
              iterate 2 refine gMv ?_
              refine GoH.callP rfl rfl rfl rfl rfl (fun _ _ => Try.call62 _ _) (fun w _ hS => (by exact top_c a.a a.c a.f ta w (hA rfl hS.ext) (h rfl))) ?_
              refine GoH.v (Vop.bin rfl rfl rfl rfl (bEqT (h rfl).ok 1 (.inl rfl)) rfl) ?_
              refine gPt ?_
              refine gE ?_
              refine GoH.cond rfl (fun hc => ?_) (fun hc => ?_)
              ·
               have k46 : isT ta 1 = true := hc
               refine gS (gR ?_)
               refine gMv ?_
               refine gAs ?_
               refine gE ?_
               refine GoH.ret Try.f44 Try.func44 rfl (fun w' hS => ?_)
               exact ⟨hS.ext, by refine .inr ⟨by omega, ?_⟩; rw [sim16, if_pos (by simp [k46, k45])]; exact .inl ⟨⟨b, rfl, (h' rfl).eq, .inr (.inr rfl)⟩, (h' rfl).neB⟩⟩
              ·
               have k46 : isT ta 1 = false := hc
               refine gK (gIb (gS (gR ?_)))
               refine gAs ?_
               refine gE ?_
               refine GoH.ret Try.f44 Try.func44 rfl (fun w' hS => ?_)
               exact ⟨hS.ext, by refine .inr ⟨by omega, ?_⟩; exact .inr ⟨rfl, by rw [sim16, if_neg (by simp [k46]), if_neg (by simp [k44, k45])]⟩⟩
           ·
            have n16 : ¬ op = 16 := by simpa using hc
            refine gK (gIb (gS (gR ?_)))
            refine gAs ?_
            refine gE ?_
            refine GoH.ret Try.f44 Try.func44 rfl (fun w' hS => ?_)
            refine ⟨hS.ext, ?_⟩
            by_cases h58 : 5 ≤ op ∧ op ≤ 8
            · exact .inl ⟨h58.1, h58.2, rfl⟩
            · refine .inr ⟨h58, .inr ⟨rfl, ?_⟩⟩
              have n5 : ¬ op = 5 := by omega
              have n6 : ¬ op = 6 := by omega
              have n7 : ¬ op = 7 := by omega
              have n8 : ¬ op = 8 := by omega
              simp [simT, n4, n5, n6, n7, n8, n10, n16, n13, n14, n9, n11, n12, n15, n17]
/-- of all four operators -/
theorem simpleBool_c (op i e g : Int) (a b : FV) (ta tb : Tr) (w : World) (h58 : 5 ≤ op ∧ op ≤ 8) (hf : fldE op i e g = 0) (ha : FA w a.a a.f) (hb : FA w b.a b.f) (h : Cf a.f ta) (h' : Cf b.f tb) (hla : (canT ta).length ≤ 150) (hlb : (canT tb).length ≤ 150) : Cn Try.prog 45 [.int .i64 op, a.v, b.v] w (fun v w' => RvO 49 w w' v a b (simT op i e g ta tb) (mkQ op i e g ta tb)) := by
  have hF := fldOk_of hf
  have hc : op = 5 ∨ op = 6 ∨ op = 7 ∨ op = 8 := by omega
  rcases hc with rfl | rfl | rfl | rfl
  · exact simpleBool5_c i e g a b ta tb w ha hb h h' hla hlb
  · exact simpleBool6_c i e g a b ta tb w ha hb h h' hla hlb
  · have e0 : i = 0 ∧ e = 0 ∧ g = 0 := ⟨hF.i0 rfl, hF.e0 (by decide), hF.g0 rfl⟩
    obtain ⟨rfl, rfl, rfl⟩ := e0
    exact simpleBool7_c a b ta tb w ha hb h h' hla hlb
  · have e0 : i = 0 ∧ e = 0 ∧ g = 0 := ⟨hF.i0 rfl, hF.e0 (by decide), hF.g0 rfl⟩
    obtain ⟨rfl, rfl, rfl⟩ := e0
    exact simpleBool8_c a b ta tb w ha hb h h' hla hlb
end Go.Proofs.Ytkoipdlkkchmiaa
