/- What calls of the program return, under the conditions that each theorem states. -/
import Derived.Test.YtkoipdlkkchmiaaD32
import Derived.Test.YtkoipdlkkchmiaaD33
import Derived.Test.YtkoipdlkkchmiaaD03
namespace Go.Proofs.Ytkoipdlkkchmiaa
open Go.RowKit Go.Proofs.Wit
/-! the reference's rules of simplification -/
theorem top_c (a : Option Addr) (ca : Nat) (f : List NV) (t : Tr) (w : World) (ha : FA w a f) (h : Cf f t) : Cn Try.prog 62 [.slice a f.length ca] w (fun v _ => v = .int .i64 (topO t)) := by
  have hp := h.pos
  have hle := h.le
  obtain ⟨k, hk⟩ : ∃ k, k = f.length - 1 := ⟨_, rfl⟩
  have hlt : k < f.length := by omega
  have hlast := h.last (by omega)
  refine Cn.of Try.func62 rfl rfl ?_
  refine gS (gR ?_)
  refine gAs ?_
  refine gE (gS (gS (gR ?_)))
  refine gMv ?_
  refine gBl Try.underlying22 ?_
  refine gBi bEq ?_
  refine gE ?_
  refine GoH.cond rfl (fun hc => ?_) (fun hc => ?_)
  ·
   exact absurd hc (by simp; exact h.ne)
  ·
   refine gK (gS (gR ?_))
   iterate 2 refine gMv ?_
   refine gBl Try.underlying22 ?_
   refine GoH.v (Vop.bin rfl rfl rfl rfl (bSubE (c := (k : Int)) (by omega) (by omega)) rfl) ?_
   refine GoH.v (Vop.idxN rfl rfl rfl rfl rfl Try.underlying22 Try.sizeOf49 ⟨_, (ha).at_⟩ (flat_len (enc := NV.cells) (sz := 6) (fun _ => rfl)) (by decide) (k) ⟨rfl, hlt⟩) ?_
   refine GoH.v (Vop.fldA rfl rfl rfl rfl Try.underlying49 rfl Try.sizeOf3 ((k) * 6 + 0) rfl) ?_
   refine GoH.v (Vop.ld rfl rfl rfl rfl Try.isAgg3 (fun w _ hS => Sl.fld (enc := NV.cells) (sz := 6) ((ha).ex0 hS.ext).at_ (fun _ => rfl) hlt rfl)) ?_
   refine gAs ?_
   refine gE ?_
   refine GoH.ret Try.f62 Try.func62 rfl (fun w' hS => ?_)
   subst hk
   exact ⟨hS.ext, by rw [← hlast.1]; rfl⟩
theorem ropposite_c (a : Option Addr) (ca : Nat) (f : List NV) (t : Tr) (w : World) (ha : FA w a f) (h : Cf f t) : Cn Try.prog 64 [.slice a f.length ca] w (fun v w' => OwnN 49 w w' v (bT (negT t))) := by
  have hp := h.pos
  have hle := h.le
  have hcf : compF f = f := by rw [compF_eq h.chk, h.top]; exact h.can.1.symm
  obtain ⟨k, hk⟩ : ∃ k, k = f.length - 1 := ⟨_, rfl⟩
  have hlt : k < f.length := by omega
  have hlast := h.last (by omega)
  refine Cn.of Try.func64 rfl rfl ?_
  refine gS (gR ?_)
  refine gAs ?_
  refine gE (gS (gR ?_))
  refine gMv ?_
  refine GoH.callM _ rfl rfl rfl rfl rfl (fun _ _ => Try.call19 _ _) (fun w _ hS => (by exact rcompact_c a ca f w (ha.ex0 hS.ext) (by unfold maxLen; omega))) ?_
  rintro v w1 w2 Y' hS he ho
  rw [subF_top, hcf] at ho
  obtain ⟨qc, capc, spc, rfl, hqc, hcapc, hS'⟩ := gainN hS he ho
  refine ⟨_, hS', ?_⟩
  refine gAs ?_
  refine gE (gS (gS (gR ?_)))
  refine gMv ?_
  refine gBl Try.underlying22 ?_
  refine gBi bEq ?_
  refine gE ?_
  refine GoH.cond rfl (fun hc => ?_) (fun hc => ?_)
  ·
   exact absurd hc (by simp; exact h.ne)
  ·
   obtain ⟨bc, rfl⟩ : ∃ bc, qc = some bc := by
     cases qc with
     | none => have := (hqc rfl).1; omega
     | some b => exact ⟨b, rfl⟩
   refine gK (gS (gS (gR ?_)))
   iterate 2 refine gMv ?_
   refine gBl Try.underlying22 ?_
   refine GoH.v (Vop.bin rfl rfl rfl rfl (bSubE (c := (k : Int)) (by omega) (by omega)) rfl) ?_
   refine GoH.v (Vop.idxS rfl rfl rfl rfl rfl Try.underlying22 Try.sizeOf49 k ⟨rfl, hlt⟩) ?_
   refine GoH.v (Vop.ldN (cs := NV.cells f[k]) rfl rfl rfl rfl Try.isAgg49 Try.sizeOf49 (fun w _ hS => Sl.many (enc := NV.cells) (sz := 6) (a := some ⟨bc, 0, none⟩) (Sl.blk (hS.get (j := 0) rfl)) (fun _ => rfl) hlt)) ?_
   refine GoH.alc rfl rfl rfl (fun _ => Try.zeroValue49 _) (fun b4 => ?_)
   refine GoH.stB rfl rfl rfl rfl Try.sizeOf49 0 rfl rfl rfl rfl ?_
   refine gE (gS (gR ?_))
   refine gFp Try.underlying49 Try.sizeOf3 0 ?_
   refine gLo Try.isAgg3 0 ?_
   refine gBi bEq ?_
   refine gE ?_
   refine GoH.cond rfl (fun hc => ?_) (fun hc => ?_)
   ·
    subst hk
    have h4 : f[f.length - 1].op = 4 := by simpa using hc
    obtain ⟨hs, h5, h6⟩ := hlast.2 h4
    have hsub : subF f f[f.length - 1].x = bT (negT t) := by
      rw [subF, if_neg (by rw [h.chk]; simp; omega)]
      have e1 : negT t = treeAt f f[f.length - 1].x.toNat := by simp [negT, hs]
      rw [e1]
      exact (bT_ok (by have := canT_kid (kid_in hs); have := h.can.2; omega)).symm
    refine gS (gR ?_)
    refine gMv ?_
    refine gFp Try.underlying49 Try.sizeOf3 4 ?_
    refine gLo Try.isAgg3 0 ?_
    refine GoH.callM _ rfl rfl rfl rfl rfl (fun _ _ => Try.call54 _ _) (fun w _ hS => (by exact rsub_c (some ⟨bc, 0, none⟩) capc f f[f.length - 1].x w ⟨Sl.blk (hS.get (j := 1) rfl)⟩ (by unfold maxLen; omega))) ?_
    rintro v w1 w2 Y' hS he ho
    rw [hsub] at ho
    obtain ⟨q, cap, sp, rfl, hq, hcap, hS'⟩ := gainN hS he ho
    refine ⟨_, hS', ?_⟩
    refine gAs ?_
    refine gE ?_
    refine GoH.ret Try.f64 Try.func64 rfl (fun w' hS => ?_)
    exact ⟨hS.ext, OwnN.mk hS 0 rfl rfl hq hcap⟩
   ·
    subst hk
    have h4 : topO t ≠ 4 := by rw [← hlast.1]; simpa using hc
    have hs := strT_none h.ok h4
    have e1 : negT t = ntT t := by simp [negT, hs]
    refine gK (gS (gR ?_))
    refine gMv ?_
    refine GoH.callM _ rfl rfl rfl rfl rfl (fun _ _ => Try.call38 _ _) (fun w _ hS => (by exact rnot_c (some ⟨bc, 0, none⟩) capc f t w ⟨Sl.blk (hS.get (j := 1) rfl)⟩ h.eq h.ok)) ?_
    rintro v w1 w2 Y' hS he ho
    rw [← e1] at ho
    obtain ⟨q, cap, sp, rfl, hq, hcap, hS'⟩ := gainN hS he ho
    refine ⟨_, hS', ?_⟩
    refine gAs ?_
    refine gE ?_
    refine GoH.ret Try.f64 Try.func64 rfl (fun w' hS => ?_)
    exact ⟨hS.ext, OwnN.mk hS 0 rfl rfl hq hcap⟩
theorem same_tr {f g : List NV} {s t : Tr} (h : Cf f s) (h' : Cf g t) : sameB f g = (s == t) := by
  rw [same_cf h.chk h', h.top]
  by_cases e : s = t
  · simp [e]
  · rw [decide_eq_false e]; symm; rw [beq_eq_false_iff_ne]; exact e
theorem rsame_t (x y : FV) (s t : Tr) (w : World) (ha : FA w x.a x.f) (hb : FA w y.a y.f) (h : Cf x.f s) (h' : Cf y.f t) : Cn Try.prog 22 [.slice x.a x.f.length x.c, .slice y.a y.f.length y.c] w (fun v _ => v = .bool (s == t)) := by
  have := rsame_c x.a x.c x.f y.a y.c y.f w ha hb (by have := h.le; unfold maxLen; omega) (by have := h'.le; unfold maxLen; omega)
  rw [same_tr h h'] at this; exact this

end Go.Proofs.Ytkoipdlkkchmiaa
