/- What calls of the program return, under the conditions that each theorem states. -/
import Derived.Test.YtkoipdlkkchmiaaF17
import Derived.Test.YtkoipdlkkchmiaaF19
import Derived.Test.YtkoipdlkkchmiaaF20
import Derived.Test.YtkoipdlkkchmiaaF03
namespace Go.Proofs.Ytkoipdlkkchmiaa
open Go.RowKit Go.Proofs.Wit
/-! small questions on formulas -/
theorem is_c (a : Option Addr) (ca : Nat) (f : List NV) (o : Int) (w : World) (ha : FA w a f) : Cn Try.prog 81 [.slice a f.length ca, .int .i64 o] w (fun v _ => v = .bool (isF f o)) := by
  refine Cn.of Try.func81 rfl rfl ?_
  refine gS (gR ?_)
  refine gAs ?_
  refine gE (gS (gR ?_))
  refine gMv ?_
  refine gBl Try.underlying22 ?_
  refine gBi bEq ?_
  refine gMv ?_
  refine GoH.cases (d := 8) rfl (fun hc => ?_) (fun hc => ?_)
  ·
   have h1 : f.length = 1 := by simp at hc; omega
   have hlt : 0 < f.length := by omega
   have hg : f.getD 0 nv0 = f[0] := by simp [List.getD_eq_getElem?_getD, hlt]
   refine gMv ?_
   refine GoH.v (Vop.idxN rfl rfl rfl rfl rfl Try.underlying22 Try.sizeOf49 ⟨_, (ha).at_⟩ (flat_len (enc := NV.cells) (sz := 6) (fun _ => rfl)) (by decide) (0) ⟨rfl, hlt⟩) ?_
   refine GoH.v (Vop.fldA rfl rfl rfl rfl Try.underlying49 rfl Try.sizeOf3 ((0) * 6 + 0) rfl) ?_
   refine GoH.v (Vop.ld rfl rfl rfl rfl Try.isAgg3 (fun w _ hS => Sl.fld (enc := NV.cells) (sz := 6) ((ha).ex0 hS.ext).at_ (fun _ => rfl) hlt rfl)) ?_
   refine gMv ?_
   refine gBi bEq ?_
   refine gPt ?_
   refine gAs ?_
   refine gE ?_
   refine GoH.ret Try.f81 Try.func81 rfl (fun w' hS => ?_)
   exact ⟨hS.ext, by rw [isF, decide_eq_true h1, hg]; rfl⟩
  ·
   have h1 : f.length ≠ 1 := by simp at hc; omega
   iterate 6 refine gNo ?_
   refine gPf ?_
   refine gAs ?_
   refine gE ?_
   refine GoH.ret Try.f81 Try.func81 rfl (fun w' hS => ?_)
   exact ⟨hS.ext, by rw [isF, decide_eq_false h1]; rfl⟩
theorem long_c (a : Option Addr) (ca : Nat) (f : List NV) (w : World) : Cn Try.prog 61 [.slice a f.length ca] w (fun v _ => v = .tuple #[if f = [] then .slice none 0 0 else .slice a f.length ca, .int .i64 (if f = [] then 8 else 0)]) := by
  refine Cn.of Try.func61 rfl rfl ?_
  refine gS (gR ?_)
  iterate 2 refine gAs ?_
  refine gE (gS (gS (gR ?_)))
  refine gMv ?_
  refine gBl Try.underlying22 ?_
  refine gBi bEq ?_
  refine gE ?_
  refine GoH.cond rfl (fun hc => ?_) (fun hc => ?_)
  ·
   have h0 : f = [] := List.eq_nil_of_length_eq_zero (by simpa using hc)
   refine gS (gR ?_)
   iterate 2 refine gAs ?_
   refine gE ?_
   refine GoH.ret Try.f61 Try.func61 rfl (fun w' hS => ?_)
   exact ⟨hS.ext, by rw [if_pos h0, if_pos h0]; rfl⟩
  ·
   have h0 : f ≠ [] := fun e => by rw [e] at hc; simp at hc
   refine gK (gS (gR ?_))
   refine gMv ?_
   iterate 2 refine gAs ?_
   refine gE ?_
   refine GoH.ret Try.f61 Try.func61 rfl (fun w' hS => ?_)
   exact ⟨hS.ext, by rw [if_neg h0, if_neg h0]; rfl⟩
/-- what stands under a negation: a list, or none -/
def strF (t : Tr) : List NV := match strT t with
  | some c => bT c
  | none => []
theorem stripped_c (a : Option Addr) (ca : Nat) (f : List NV) (t : Tr) (w : World) (ha : FA w a f) (h : Cf f t) : Cn Try.prog 112 [.slice a f.length ca] w (fun v w' => ∃ sv, v = .tuple #[sv, .bool (strT t).isSome] ∧ OwnN 49 w w' sv (strF t)) := by
  have hp := h.pos
  have hle := h.le
  obtain ⟨k, hk⟩ : ∃ k, k = f.length - 1 := ⟨_, rfl⟩
  have hlt : k < f.length := by omega
  have hlast := h.last (by omega)
  refine Cn.of Try.func112 rfl rfl ?_
  refine gS (gR ?_)
  iterate 2 refine gAs ?_
  refine gE (gS (gR ?_))
  iterate 2 refine gMv ?_
  refine gBl Try.underlying22 ?_
  refine GoH.v (Vop.bin rfl rfl rfl rfl (bSubE (c := (k : Int)) (by omega) (by omega)) rfl) ?_
  refine GoH.v (Vop.idxN rfl rfl rfl rfl rfl Try.underlying22 Try.sizeOf49 ⟨_, (ha).at_⟩ (flat_len (enc := NV.cells) (sz := 6) (fun _ => rfl)) (by decide) (k) ⟨rfl, hlt⟩) ?_
  refine GoH.v (Vop.ldN (cs := NV.cells f[k]) rfl rfl rfl rfl Try.isAgg49 Try.sizeOf49 (fun w _ hS => Sl.many (enc := NV.cells) (sz := 6) (ha.ex0 hS.ext).at_ (fun _ => rfl) hlt)) ?_
  refine GoH.alc rfl rfl rfl (fun _ => Try.zeroValue49 _) (fun b4 => ?_)
  refine GoH.stB rfl rfl rfl rfl Try.sizeOf49 0 rfl rfl rfl rfl ?_
  refine gE (gS (gS (gR ?_)))
  refine gFp Try.underlying49 Try.sizeOf3 0 ?_
  refine gLo Try.isAgg3 0 ?_
  refine gBi bNe ?_
  refine gE ?_
  refine GoH.cond rfl (fun hc => ?_) (fun hc => ?_)
  ·
   subst hk
   have h4 : topO t ≠ 4 := by rw [← hlast.1]; simpa using hc
   have hs := strT_none h.ok h4
   refine gS (gR ?_)
   iterate 2 refine gAs ?_
   refine gE ?_
   refine GoH.ret Try.f112 Try.func112 rfl (fun w' hS => ?_)
   exact ⟨hS.ext, _, by rw [hs]; rfl, by rw [strF, hs]; exact OwnN.nil0⟩
  ·
   subst hk
   have h4 : f[f.length - 1].op = 4 := by simpa using hc
   obtain ⟨hs, h5, h6⟩ := hlast.2 h4
   have hsub : subF f f[f.length - 1].x = strF t := by
     rw [strF, hs, subF, if_neg (by rw [h.chk]; simp; omega)]
     exact (bT_ok (by have := canT_kid (kid_in hs); have := h.can.2; omega)).symm
   refine gK (gS (gR ?_))
   refine gMv ?_
   refine gFp Try.underlying49 Try.sizeOf3 4 ?_
   refine gLo Try.isAgg3 0 ?_
   refine GoH.callM _ rfl rfl rfl rfl rfl (fun _ _ => Try.call90 _ _) (fun w _ hS => (by exact fsub_c a ca f f[f.length - 1].x w (ha.ex0 hS.ext) (by unfold maxLen; omega))) ?_
   rintro v w1 w2 Y' hS he ho
   rw [hsub] at ho
   obtain ⟨q, cap, sp, rfl, hq, hcap, hS'⟩ := gainN hS he ho
   refine ⟨_, hS', ?_⟩
   iterate 2 refine gAs ?_
   refine gE ?_
   refine GoH.ret Try.f112 Try.func112 rfl (fun w' hS => ?_)
   exact ⟨hS.ext, _, by rw [hs]; rfl, OwnN.mk hS 0 rfl rfl hq hcap⟩
theorem negate_c (a : Option Addr) (ca : Nat) (f : List NV) (t : Tr) (w : World) (ha : FA w a f) (h : Cf f t) : Cn Try.prog 60 [.slice a f.length ca] w (fun v w' => OwnN 49 w w' v (bT (negT t))) := by
  have hle := h.le
  refine Cn.of Try.func60 rfl rfl ?_
  refine gS (gR ?_)
  refine gAs ?_
  refine gE (gS (gS (gR ?_)))
  refine gMv ?_
  refine GoH.callM _ rfl rfl rfl rfl rfl (fun _ _ => Try.call112 _ _) (fun w _ hS => (by exact stripped_c a ca f t w (ha.ex0 hS.ext) h)) ?_
  rintro v w1 w2 Y' hS he ⟨sv, rfl, ho⟩
  obtain ⟨q, cap, sp, rfl, hq, hcap, hS'⟩ := gainN hS he ho
  refine ⟨_, hS', ?_⟩
  refine gMv ?_
  iterate 2 refine gEx ?_
  iterate 2 refine gAs ?_
  refine gE (gS (gR ?_))
  refine gMv ?_
  refine gE ?_
  refine GoH.cond rfl (fun hc => ?_) (fun hc => ?_)
  ·
   obtain ⟨c, hs⟩ := Option.isSome_iff_exists.1 (show (strT t).isSome = true from hc)
   have h1 : strF t = bT (negT t) := by simp [strF, negT, hs]
   rw [h1] at hq hcap
   refine gS (gR ?_)
   refine gMv ?_
   refine gAs ?_
   refine gE ?_
   refine GoH.ret Try.f60 Try.func60 rfl (fun w' hS => ?_)
   exact ⟨hS.ext, by rw [h1] at hS; rw [h1]; exact OwnN.mk hS 0 rfl rfl hq hcap⟩
  ·
   have hs : strT t = none := by
     cases e : strT t with
     | none => rfl
     | some c => rw [e] at hc; cases hc
   have h1 : bldF ⟨4, 0, 0, 0, 0, 0⟩ [f] = bT (negT t) := by
     rw [h.eq, bldF_not h.ok]; simp [negT, hs, ntT]
   refine gK (gS (gR ?_))
   refine gMv ?_
   refine GoH.callM _ rfl rfl rfl rfl rfl (fun _ _ => Try.call72 _ _) (fun w _ hS => (by exact not_c a ca f w (ha.ex0 hS.ext) (by unfold maxLen; omega))) ?_
   rintro v w1 w2 Y' hS he ho
   rw [h1] at ho
   obtain ⟨q2, cap2, sp2, rfl, hq2, hcap2, hS'⟩ := gainN hS he ho
   refine ⟨_, hS', ?_⟩
   refine gAs ?_
   refine gE ?_
   refine GoH.ret Try.f60 Try.func60 rfl (fun w' hS => ?_)
   exact ⟨hS.ext, OwnN.mk hS 0 rfl rfl hq2 hcap2⟩
theorem sEqual_c (a : Option Addr) (ca : Nat) (f : List NV) (b : Option Addr) (cb : Nat) (g : List NV) (w : World) (ha : FA w a f) (hb : FA w b g) (hl : f.length ≤ maxLen) :
    Cn Try.prog 58 [.slice a f.length ca, .slice b g.length cb] w (fun v _ => v = .bool (decide (f = g))) := by
  unfold maxLen at hl
  refine Cn.of Try.func58 rfl rfl ?_
  refine gS (gR ?_)
  refine gAs ?_
  refine gE (gS (gS (gR ?_)))
  refine gMv ?_
  refine gBl Try.underlying22 ?_
  refine gMv ?_
  refine gBl Try.underlying22 ?_
  refine gBi bNe ?_
  refine gE ?_
  refine GoH.cond rfl (fun hc => ?_) (fun hc => ?_)
  ·
   have h1 : f.length ≠ g.length := by simp at hc; omega
   refine gS (gR ?_)
   refine gAs ?_
   refine gE ?_
   refine GoH.ret Try.f58 Try.func58 rfl (fun w' hS => ?_)
   exact ⟨hS.ext, by rw [decide_eq_false (fun e => h1 (by rw [e]))]; rfl⟩
  ·
   have h1 : f.length = g.length := by simp at hc; omega
   refine gK (gS (gS (gR ?_)))
   refine gMv ?_
   refine gBl Try.underlying22 ?_
   refine gMv ?_
   refine gE (gB ?_)
   refine GoH.loop (σ := Nat) (fun k => [(0, .slice a f.length ca), (1, .slice b g.length cb), (12, .int .i64 f.length), (13, .int .i64 k)]) (fun _ => []) (fun k => k ≤ f.length ∧ f.take k = g.take k) (fun k => f.length - k) 0 ⟨Nat.zero_le _, rfl⟩ ⟨rfl, rfl, rfl, rfl, trivial⟩ .slnil (fun k hI IH => ?_)
   obtain ⟨hk, hz⟩ := hI
   refine gS (gR ?_)
   refine gBi bLt ?_
   refine gE (gS ?_)
   refine GoH.cond rfl (fun hc => ?_) (fun hc => ?_)
   ·
    have hlt : k < f.length := by simpa using hc
    have hlt2 : k < g.length := by omega
    refine gK (gS (gB (gS (gR ?_))))
    refine gMv ?_
    refine gAs ?_
    refine gE (gS ?_)
    refine GoH.draw 9 mixed rfl ?_
    iterate 2 refine rMv ?_
    refine RdGo.v (Vop.idxN rfl rfl rfl rfl rfl Try.underlying22 Try.sizeOf49 ⟨_, (ha).at_⟩ (flat_len (enc := NV.cells) (sz := 6) (fun _ => rfl)) (by decide) (k) ⟨rfl, hlt⟩) ?_
    refine RdGo.v (Vop.ldN (cs := NV.cells f[k]) rfl rfl rfl rfl Try.isAgg49 Try.sizeOf49 (fun w _ hS => Sl.many (enc := NV.cells) (sz := 6) (ha.ex0 hS.ext).at_ (fun _ => rfl) hlt)) ?_
    iterate 2 refine rMv ?_
    refine RdGo.v (Vop.idxN rfl rfl rfl rfl rfl Try.underlying22 Try.sizeOf49 ⟨_, (hb).at_⟩ (flat_len (enc := NV.cells) (sz := 6) (fun _ => rfl)) (by decide) (k) ⟨rfl, hlt2⟩) ?_
    refine RdGo.v (Vop.ldN (cs := NV.cells g[k]) rfl rfl rfl rfl Try.isAgg49 Try.sizeOf49 (fun w _ hS => Sl.many (enc := NV.cells) (sz := 6) (hb.ex0 hS.ext).at_ (fun _ => rfl) hlt2)) ?_
    refine RdGo.v (Vop.bin rfl rfl rfl rfl (bNeN (a := f[k]) (b := g[k])) rfl) ?_
    refine RdGo.nil ?_
    refine gE ?_
    refine GoH.cond rfl (fun hc => ?_) (fun hc => ?_)
    ·
     have h3 : f[k] ≠ g[k] := by simpa using hc
     refine gS (gR ?_)
     refine gAs ?_
     refine gE ?_
     refine GoH.ret Try.f58 Try.func58 rfl (fun w' hS => ?_)
     exact ⟨hS.ext, by rw [decide_eq_false (fun e => h3 (by subst e; rfl))]; rfl⟩
    ·
     have h3 : f[k] = g[k] := by simpa using hc
     refine gK (gIb (gR ?_))
     refine GoH.v (Vop.bin rfl rfl rfl rfl (bAdd (by omega)) rfl) ?_
     refine gMv ?_
     refine gE ?_
     exact IH (k + 1) _ _ ⟨hlt, by rw [List.take_succ_eq_append_getElem hlt, List.take_succ_eq_append_getElem hlt2, hz, h3]⟩ (by omega) ⟨rfl, rfl, rfl, rfl, trivial⟩ .slnil
   ·
    have hge : ¬ k < f.length := by simpa using hc
    obtain rfl : k = f.length := by omega
    have he : f = g := by rw [List.take_length, h1, List.take_length] at hz; exact hz
    refine GoH.exit rfl (gS (gR ?_))
    refine gAs ?_
    refine gE ?_
    refine GoH.ret Try.f58 Try.func58 rfl (fun w' hS => ?_)
    exact ⟨hS.ext, by rw [decide_eq_true he]; rfl⟩
end Go.Proofs.Ytkoipdlkkchmiaa
namespace Go.Proofs.Ytkoipdlkkchmiaa
open Go.RowKit Go.Proofs.Wit
/-! rules of simplification: joints, conditionals, equivalences -/
theorem strF_some {t c : Tr} (h : strT t = some c) : strF t = bT c := by rw [strF, h]
theorem strF_le (t : Tr) : (strF t).length ≤ 200 := by
  unfold strF; split
  · exact bT_le _
  · simp
theorem opposite_c (a : Option Addr) (ca : Nat) (f : List NV) (s : Tr) (b : Option Addr) (cb : Nat) (g : List NV) (t : Tr) (w : World) (ha : FA w a f) (hb : FA w b g) (h : Cf f s) (h' : Cf g t) : Cn Try.prog 116 [.slice a f.length ca, .slice b g.length cb] w (fun v _ => v = .bool (oppT s t)) := by
  refine Cn.of Try.func116 rfl rfl ?_
  refine gS (gR ?_)
  refine gAs ?_
  refine gE (gS (gS (gR ?_)))
  refine gMv ?_
  refine GoH.callM _ rfl rfl rfl rfl rfl (fun _ _ => Try.call112 _ _) (fun w _ hS => (by exact stripped_c a ca f s w (ha.ex0 hS.ext) h)) ?_
  rintro v w1 w2 Y' hS he ⟨sv, rfl, ho⟩
  obtain ⟨q, cap, sp, rfl, hq, hcap, hS'⟩ := gainN hS he ho
  refine ⟨_, hS', ?_⟩
  refine gMv ?_
  iterate 2 refine gEx ?_
  iterate 2 refine gAs ?_
  refine gE (gS (gR ?_))
  iterate 2 refine gMv ?_
  refine GoH.cases (d := 15) rfl (fun hc => ?_) (fun hc => ?_)
  ·
   obtain ⟨c, hs⟩ := Option.isSome_iff_exists.1 (show (strT s).isSome = true from hc)
   have hd := h.opp h' c hs
   iterate 2 refine gMv ?_
   refine GoH.callP rfl rfl rfl rfl rfl (fun _ _ => Try.call58 _ _) (fun w _ hS => (by exact sEqual_c (q.map (fun b => ⟨b, 0, none⟩)) cap (strF s) b cb g w (faAt hS 0 rfl (fun e => (hq e).1)) (hb.ex0 hS.ext) (by have := strF_le s; unfold maxLen; omega))) ?_
   refine gPt ?_
   refine gE ?_
   refine GoH.cond rfl (fun hc => ?_) (fun hc => ?_)
   ·
    have h1 : (strT s == some t) = true := by rw [← hd, ← strF_some hs]; exact hc
    refine gS (gR ?_)
    refine gAs ?_
    refine gE ?_
    refine GoH.ret Try.f116 Try.func116 rfl (fun w' hS => ?_)
    exact ⟨hS.ext, by rw [oppT, h1]; rfl⟩
   ·
    have h1 : (strT s == some t) = false := by rw [← hd, ← strF_some hs]; exact hc
    refine gK (gS (gR ?_))
    refine gMv ?_
    refine GoH.callM _ rfl rfl rfl rfl rfl (fun _ _ => Try.call112 _ _) (fun w _ hS => (by exact stripped_c b cb g t w (hb.ex0 hS.ext) h')) ?_
    rintro v w1 w2 Y' hS he ⟨sv, rfl, ho⟩
    obtain ⟨q2, cap2, sp2, rfl, hq2, hcap2, hS'⟩ := gainN hS he ho
    refine ⟨_, hS', ?_⟩
    refine gMv ?_
    iterate 2 refine gEx ?_
    iterate 2 refine gAs ?_
    refine gE (gS (gR ?_))
    iterate 2 refine gMv ?_
    refine GoH.cases (d := 26) rfl (fun hc => ?_) (fun hc => ?_)
    ·
     obtain ⟨c2, hs2⟩ := Option.isSome_iff_exists.1 (show (strT t).isSome = true from hc)
     have hd2 := h'.opp h c2 hs2
     iterate 2 refine gMv ?_
     refine GoH.callP rfl rfl rfl rfl rfl (fun _ _ => Try.call58 _ _) (fun w _ hS => (by exact sEqual_c (q2.map (fun b => ⟨b, 0, none⟩)) cap2 (strF t) a ca f w (faAt hS 0 rfl (fun e => (hq2 e).1)) (ha.ex0 hS.ext) (by have := strF_le t; unfold maxLen; omega))) ?_
     refine gPt ?_
     refine gAs ?_
     refine gE ?_
     refine GoH.ret Try.f116 Try.func116 rfl (fun w' hS => ?_)
     exact ⟨hS.ext, by rw [oppT, h1, ← hd2, ← strF_some hs2]; rfl⟩
    ·
     have hs2 : strT t = none := by
       cases e : strT t with
       | none => rfl
       | some c => rw [e] at hc; cases hc
     iterate 3 refine gNo ?_
     refine gPf ?_
     refine gAs ?_
     refine gE ?_
     refine GoH.ret Try.f116 Try.func116 rfl (fun w' hS => ?_)
     exact ⟨hS.ext, by rw [oppT, h1, hs2]; rfl⟩
  ·
   have hs : strT s = none := by
     cases e : strT s with
     | none => rfl
     | some c => rw [e] at hc; cases hc
   have h1 : (strT s == some t) = false := by rw [hs]; rfl
   iterate 3 refine gNo ?_
   refine gPf ?_
   refine gE (GoH.condF rfl (gK (gS (gR ?_))))
   refine gMv ?_
   refine GoH.callM _ rfl rfl rfl rfl rfl (fun _ _ => Try.call112 _ _) (fun w _ hS => (by exact stripped_c b cb g t w (hb.ex0 hS.ext) h')) ?_
   rintro v w1 w2 Y' hS he ⟨sv, rfl, ho⟩
   obtain ⟨q2, cap2, sp2, rfl, hq2, hcap2, hS'⟩ := gainN hS he ho
   refine ⟨_, hS', ?_⟩
   refine gMv ?_
   iterate 2 refine gEx ?_
   iterate 2 refine gAs ?_
   refine gE (gS (gR ?_))
   iterate 2 refine gMv ?_
   refine GoH.cases (d := 26) rfl (fun hc => ?_) (fun hc => ?_)
   ·
    obtain ⟨c2, hs2⟩ := Option.isSome_iff_exists.1 (show (strT t).isSome = true from hc)
    have hd2 := h'.opp h c2 hs2
    iterate 2 refine gMv ?_
    refine GoH.callP rfl rfl rfl rfl rfl (fun _ _ => Try.call58 _ _) (fun w _ hS => (by exact sEqual_c (q2.map (fun b => ⟨b, 0, none⟩)) cap2 (strF t) a ca f w (faAt hS 0 rfl (fun e => (hq2 e).1)) (ha.ex0 hS.ext) (by have := strF_le t; unfold maxLen; omega))) ?_
    refine gPt ?_
    refine gAs ?_
    refine gE ?_
    refine GoH.ret Try.f116 Try.func116 rfl (fun w' hS => ?_)
    exact ⟨hS.ext, by rw [oppT, h1, ← hd2, ← strF_some hs2]; rfl⟩
   ·
    have hs2 : strT t = none := by
      cases e : strT t with
      | none => rfl
      | some c => rw [e] at hc; cases hc
    iterate 3 refine gNo ?_
    refine gPf ?_
    refine gAs ?_
    refine gE ?_
    refine GoH.ret Try.f116 Try.func116 rfl (fun w' hS => ?_)
    exact ⟨hS.ext, by rw [oppT, h1, hs2]; rfl⟩
end Go.Proofs.Ytkoipdlkkchmiaa
namespace Go.Proofs.Ytkoipdlkkchmiaa
open Go.RowKit Go.Proofs.Wit
/-! rules of simplification -/
theorem isT_c (x : FV) (t : Tr) (o : Int) (w : World) (ha : FA w x.a x.f) (h : Cf x.f t) : Cn Try.prog 81 [.slice x.a x.f.length x.c, .int .i64 o] w (fun v _ => v = .bool (isT t o)) := by
  have := is_c x.a x.c x.f o w ha
  rw [h.is] at this; exact this
theorem eqT_c (x y : FV) (s t : Tr) (w : World) (ha : FA w x.a x.f) (hb : FA w y.a y.f) (h : Cf x.f s) (h' : Cf y.f t) : Cn Try.prog 58 [.slice x.a x.f.length x.c, .slice y.a y.f.length y.c] w (fun v _ => v = .bool (s == t)) := by
  have := sEqual_c x.a x.c x.f y.a y.c y.f w ha hb (by have := h.le; unfold maxLen; omega)
  have e1 : decide (x.f = y.f) = (s == t) := by
    rw [decide_eq_decide.2 (h.inj h')]
    by_cases e : s = t
    · simp [e]
    · rw [decide_eq_false e]; symm; rw [beq_eq_false_iff_ne]; exact e
  rw [e1] at this; exact this
theorem cT_bT {o : Int} (h : o = 1 ∨ o = 2) : bldF ⟨o, 0, 0, 0, 0, 0⟩ [] = bT (cT o) := by rcases h with rfl | rfl <;> exact bld0 (n := ⟨_, 0, 0, 0, 0, 0⟩) (by decide) rfl rfl rfl rfl
set_option maxRecDepth 8000 in
theorem joint_c (op i e g x y : Int) (a b : FV) (ta tb : Tr) (ne dm : Int) (w : World) (hop : 1 ≤ op ∧ op ≤ 21) (hf : fldE op i e g = 0) (_hY : usY op = true) (hd : dm = 1 ∨ dm = 2) (ha : FA w a.a a.f) (hb : FA w b.a b.f) (h : Cf a.f ta) (h' : Cf b.f tb) : Cn Try.prog 83 [NV.v ⟨op, i, e, g, x, y⟩, a.v, b.v, .int .i64 ne, .int .i64 dm] w (fun v w' => RvP 49 w w' v a b (jointT op i e g ta tb ne dm)) := by
  have hA : ∀ {w' : World}, Ex [] w w' → FA w' a.a a.f := fun e => ha.ex0 e
  have hB : ∀ {w' : World}, Ex [] w w' → FA w' b.a b.f := fun e => hb.ex0 e
  have hX0 : usX dm = false := by rcases hd with rfl | rfl <;> rfl
  have hY0 : usY dm = false := by rcases hd with rfl | rfl <;> rfl
  have hf0 : fldE dm 0 0 0 = 0 := by rcases hd with rfl | rfl <;> rfl
  have hj1 : (isT ta dm || isT tb dm || (oppT ta tb && !isT ta ne && !isT tb ne)) = true → jointT op i e g ta tb ne dm = cT dm := fun e => if_pos e
  refine Cn.of Try.func83 rfl rfl ?_
  refine gS (gR ?_)
  refine GoH.bx rfl rfl rfl rfl (fun b5 => ?_)
  refine gAs ?_
  refine gE (gS (gB (gS (gR ?_))))
  iterate 2 refine gMv ?_
  refine GoH.callP rfl rfl rfl rfl rfl (fun _ _ => Try.call81 _ _) (fun w _ hS => (by exact isT_c a ta dm w (hA hS.ext) h)) ?_
  refine gMv ?_
  refine GoH.cases (d := 15) rfl (fun hc => ?_) (fun hc => ?_)
  ·
   have k1 : isT ta dm = true := hc
   have hj := hj1 (by simp [k1])
   iterate 3 refine gNo ?_
   refine gPt ?_
   refine gMv ?_
   iterate 15 refine gNo ?_
   refine gPt ?_
   refine gAs ?_
   refine gE (GoH.condT rfl (gS (gR ?_)))
   refine gMv ?_
   refine GoH.v (Vop.bld rfl rfl rfl rfl (bld (c := [_, _, _, _, _, _]) Try.underlying49 (Szs.cons Try.sizeOf3 (Szs.cons Try.sizeOf3 (Szs.cons Try.sizeOf3 (Szs.cons Try.sizeOf3 (Szs.cons Try.sizeOf3 (Szs.cons Try.sizeOf3 Szs.nil)))))) Try.zeroValue49 rfl)) ?_
   refine GoH.callM _ rfl rfl rfl rfl rfl (fun _ _ => Try.call51 _ _) (fun w _ hS => (by exact rbuild0_c dm 0 0 0 0 0 FV.z FV.z tr0 tr0 w (by omega) hf0 (fun e => by rw [hX0] at e; cases e) (fun e => by rw [hY0] at e; cases e))) ?_
   rintro v w1 w2 Y' hS he ho
   rw [mkQ_leaf hX0] at ho
   obtain ⟨q, cap, sp, rfl, hq, hcap, hS'⟩ := gainN hS he ho
   refine ⟨_, hS', ?_⟩
   refine gAs ?_
   refine gE ?_
   refine GoH.ret Try.f83 Try.func83 rfl (fun w' hS => ?_)
   exact ⟨hS.ext, by rw [hj]; exact RvP.own (OwnN.mk hS 0 rfl rfl hq hcap)⟩
  ·
   have k1 : isT ta dm = false := hc
   iterate 2 refine gMv ?_
   refine GoH.callP rfl rfl rfl rfl rfl (fun _ _ => Try.call81 _ _) (fun w _ hS => (by exact isT_c b tb dm w (hB hS.ext) h')) ?_
   refine gPf ?_
   refine gMv ?_
   refine GoH.cases (d := 20) rfl (fun hc => ?_) (fun hc => ?_)
   ·
    have k2 : isT tb dm = true := hc
    have hj := hj1 (by simp [k2])
    iterate 15 refine gNo ?_
    refine gPt ?_
    refine gAs ?_
    refine gE (GoH.condT rfl (gS (gR ?_)))
    refine gMv ?_
    refine GoH.v (Vop.bld rfl rfl rfl rfl (bld (c := [_, _, _, _, _, _]) Try.underlying49 (Szs.cons Try.sizeOf3 (Szs.cons Try.sizeOf3 (Szs.cons Try.sizeOf3 (Szs.cons Try.sizeOf3 (Szs.cons Try.sizeOf3 (Szs.cons Try.sizeOf3 Szs.nil)))))) Try.zeroValue49 rfl)) ?_
    refine GoH.callM _ rfl rfl rfl rfl rfl (fun _ _ => Try.call51 _ _) (fun w _ hS => (by exact rbuild0_c dm 0 0 0 0 0 FV.z FV.z tr0 tr0 w (by omega) hf0 (fun e => by rw [hX0] at e; cases e) (fun e => by rw [hY0] at e; cases e))) ?_
    rintro v w1 w2 Y' hS he ho
    rw [mkQ_leaf hX0] at ho
    obtain ⟨q, cap, sp, rfl, hq, hcap, hS'⟩ := gainN hS he ho
    refine ⟨_, hS', ?_⟩
    refine gAs ?_
    refine gE ?_
    refine GoH.ret Try.f83 Try.func83 rfl (fun w' hS => ?_)
    exact ⟨hS.ext, by rw [hj]; exact RvP.own (OwnN.mk hS 0 rfl rfl hq hcap)⟩
   ·
    have k2 : isT tb dm = false := hc
    iterate 2 refine gMv ?_
    refine GoH.callP rfl rfl rfl rfl rfl (fun _ _ => Try.call116 _ _) (fun w _ hS => (by exact opposite_c a.a a.c a.f ta b.a b.c b.f tb w (hA hS.ext) (hB hS.ext) h h')) ?_
    refine gMv ?_
    refine GoH.cases (d := 24) rfl (fun hc => ?_) (fun hc => ?_)
    ·
     have k3 : oppT ta tb = true := hc
     iterate 2 refine gMv ?_
     refine GoH.callP rfl rfl rfl rfl rfl (fun _ _ => Try.call81 _ _) (fun w _ hS => (by exact isT_c a ta ne w (hA hS.ext) h)) ?_
     refine gUn uNot ?_
     refine gPt ?_
     refine gMv ?_
     refine GoH.cases (d := 30) rfl (fun hc => ?_) (fun hc => ?_)
     ·
      have k4 : isT ta ne = false := by simpa using hc
      iterate 2 refine gMv ?_
      refine GoH.callP rfl rfl rfl rfl rfl (fun _ _ => Try.call81 _ _) (fun w _ hS => (by exact isT_c b tb ne w (hB hS.ext) h')) ?_
      refine gUn uNot ?_
      refine gPt ?_
      refine gPf ?_
      refine gAs ?_
      refine gE ?_
      refine GoH.cond rfl (fun hc => ?_) (fun hc => ?_)
      ·
       have k5 : isT tb ne = false := by simpa using hc
       have hj := hj1 (by simp [k3, k4, k5])
       refine gS (gR ?_)
       refine gMv ?_
       refine GoH.v (Vop.bld rfl rfl rfl rfl (bld (c := [_, _, _, _, _, _]) Try.underlying49 (Szs.cons Try.sizeOf3 (Szs.cons Try.sizeOf3 (Szs.cons Try.sizeOf3 (Szs.cons Try.sizeOf3 (Szs.cons Try.sizeOf3 (Szs.cons Try.sizeOf3 Szs.nil)))))) Try.zeroValue49 rfl)) ?_
       refine GoH.callM _ rfl rfl rfl rfl rfl (fun _ _ => Try.call51 _ _) (fun w _ hS => (by exact rbuild0_c dm 0 0 0 0 0 FV.z FV.z tr0 tr0 w (by omega) hf0 (fun e => by rw [hX0] at e; cases e) (fun e => by rw [hY0] at e; cases e))) ?_
       rintro v w1 w2 Y' hS he ho
       rw [mkQ_leaf hX0] at ho
       obtain ⟨q, cap, sp, rfl, hq, hcap, hS'⟩ := gainN hS he ho
       refine ⟨_, hS', ?_⟩
       refine gAs ?_
       refine gE ?_
       refine GoH.ret Try.f83 Try.func83 rfl (fun w' hS => ?_)
       exact ⟨hS.ext, by rw [hj]; exact RvP.own (OwnN.mk hS 0 rfl rfl hq hcap)⟩
      ·
       have k5 : isT tb ne = true := by simpa using hc
       have h0 : ¬ (isT ta dm || isT tb dm || (oppT ta tb && !isT ta ne && !isT tb ne)) = true := by simp [k1, k2, k5]
       refine gS (gR ?_)
       iterate 2 refine gMv ?_
       refine GoH.callP rfl rfl rfl rfl rfl (fun _ _ => Try.call81 _ _) (fun w _ hS => (by exact isT_c a ta ne w (hA hS.ext) h)) ?_
       refine gAs ?_
       refine gE ?_
       refine GoH.cond rfl (fun hc => ?_) (fun hc => ?_)
       ·
        have h1 : isT ta ne = true := hc
        refine gS (gR ?_)
        refine gMv ?_
        refine gAs ?_
        refine gE ?_
        refine GoH.ret Try.f83 Try.func83 rfl (fun w' hS => ?_)
        exact ⟨hS.ext, b, rfl, by rw [jointT, if_neg h0, if_pos h1]; exact h'.eq, .inr (.inr rfl)⟩
       ·
        have h1 : isT ta ne = false := hc
        refine gS (gR ?_)
        iterate 2 refine gMv ?_
        refine GoH.callP rfl rfl rfl rfl rfl (fun _ _ => Try.call81 _ _) (fun w _ hS => (by exact isT_c b tb ne w (hB hS.ext) h')) ?_
        refine gMv ?_
        refine GoH.cases (d := 49) rfl (fun hc => ?_) (fun hc => ?_)
        ·
         have h2 : isT tb ne = true := hc
         iterate 3 refine gNo ?_
         refine gPt ?_
         refine gAs ?_
         refine gE (GoH.condT rfl (gS (gR ?_)))
         refine gMv ?_
         refine gAs ?_
         refine gE ?_
         refine GoH.ret Try.f83 Try.func83 rfl (fun w' hS => ?_)
         exact ⟨hS.ext, a, rfl, by rw [jointT, if_neg h0, if_neg (by rw [h1]; simp), if_pos (by rw [h2]; rfl)]; exact h.eq, .inr (.inl rfl)⟩
        ·
         have h2 : isT tb ne = false := hc
         iterate 2 refine gMv ?_
         refine GoH.callP rfl rfl rfl rfl rfl (fun _ _ => Try.call58 _ _) (fun w _ hS => (by exact eqT_c a b ta tb w (hA hS.ext) (hB hS.ext) h h')) ?_
         refine gPf ?_
         refine gAs ?_
         refine gE ?_
         refine GoH.cond rfl (fun hc => ?_) (fun hc => ?_)
         ·
          have h3 : (ta == tb) = true := hc
          refine gS (gR ?_)
          refine gMv ?_
          refine gAs ?_
          refine gE ?_
          refine GoH.ret Try.f83 Try.func83 rfl (fun w' hS => ?_)
          exact ⟨hS.ext, a, rfl, by rw [jointT, if_neg h0, if_neg (by rw [h1]; simp), if_pos (by rw [h2, h3]; rfl)]; exact h.eq, .inr (.inl rfl)⟩
         ·
          have h3 : (ta == tb) = false := hc
          refine gK (gIb (gS (gR ?_)))
          refine GoH.v (Vop.ldB rfl rfl rfl rfl Try.isAgg49 0 rfl Try.sizeOf49 rfl) ?_
          iterate 2 refine gMv ?_
          refine GoH.callM _ rfl rfl rfl rfl rfl (fun _ _ => Try.call51 _ _) (fun w _ hS => (by exact rbuild0_c op i e g x y a b ta tb w hop hf (fun _ => ⟨hA hS.ext, h.eq, h.ok⟩) (fun _ => ⟨hB hS.ext, h'.eq, h'.ok⟩))) ?_
          rintro v w1 w2 Y' hS he ho
          obtain ⟨q, cap, sp, rfl, hq, hcap, hS'⟩ := gainN hS he ho
          refine ⟨_, hS', ?_⟩
          refine gAs ?_
          refine gE ?_
          refine GoH.ret Try.f83 Try.func83 rfl (fun w' hS => ?_)
          exact ⟨hS.ext, by rw [jointT, if_neg h0, if_neg (by rw [h1]; simp), if_neg (by rw [h2, h3]; simp)]; exact RvP.own (OwnN.mk hS 0 rfl rfl hq hcap)⟩
     ·
      have k4 : isT ta ne = true := by simpa using hc
      have h0 : ¬ (isT ta dm || isT tb dm || (oppT ta tb && !isT ta ne && !isT tb ne)) = true := by simp [k1, k2, k4]
      iterate 4 refine gNo ?_
      iterate 2 refine gPf ?_
      refine gAs ?_
      refine gE (GoH.condF rfl (gS (gR ?_)))
      iterate 2 refine gMv ?_
      refine GoH.callP rfl rfl rfl rfl rfl (fun _ _ => Try.call81 _ _) (fun w _ hS => (by exact isT_c a ta ne w (hA hS.ext) h)) ?_
      refine gAs ?_
      refine gE ?_
      refine GoH.cond rfl (fun hc => ?_) (fun hc => ?_)
      ·
       have h1 : isT ta ne = true := hc
       refine gS (gR ?_)
       refine gMv ?_
       refine gAs ?_
       refine gE ?_
       refine GoH.ret Try.f83 Try.func83 rfl (fun w' hS => ?_)
       exact ⟨hS.ext, b, rfl, by rw [jointT, if_neg h0, if_pos h1]; exact h'.eq, .inr (.inr rfl)⟩
      ·
       have h1 : isT ta ne = false := hc
       refine gS (gR ?_)
       iterate 2 refine gMv ?_
       refine GoH.callP rfl rfl rfl rfl rfl (fun _ _ => Try.call81 _ _) (fun w _ hS => (by exact isT_c b tb ne w (hB hS.ext) h')) ?_
       refine gMv ?_
       refine GoH.cases (d := 49) rfl (fun hc => ?_) (fun hc => ?_)
       ·
        have h2 : isT tb ne = true := hc
        iterate 3 refine gNo ?_
        refine gPt ?_
        refine gAs ?_
        refine gE (GoH.condT rfl (gS (gR ?_)))
        refine gMv ?_
        refine gAs ?_
        refine gE ?_
        refine GoH.ret Try.f83 Try.func83 rfl (fun w' hS => ?_)
        exact ⟨hS.ext, a, rfl, by rw [jointT, if_neg h0, if_neg (by rw [h1]; simp), if_pos (by rw [h2]; rfl)]; exact h.eq, .inr (.inl rfl)⟩
       ·
        have h2 : isT tb ne = false := hc
        iterate 2 refine gMv ?_
        refine GoH.callP rfl rfl rfl rfl rfl (fun _ _ => Try.call58 _ _) (fun w _ hS => (by exact eqT_c a b ta tb w (hA hS.ext) (hB hS.ext) h h')) ?_
        refine gPf ?_
        refine gAs ?_
        refine gE ?_
        refine GoH.cond rfl (fun hc => ?_) (fun hc => ?_)
        ·
         have h3 : (ta == tb) = true := hc
         refine gS (gR ?_)
         refine gMv ?_
         refine gAs ?_
         refine gE ?_
         refine GoH.ret Try.f83 Try.func83 rfl (fun w' hS => ?_)
         exact ⟨hS.ext, a, rfl, by rw [jointT, if_neg h0, if_neg (by rw [h1]; simp), if_pos (by rw [h2, h3]; rfl)]; exact h.eq, .inr (.inl rfl)⟩
        ·
         have h3 : (ta == tb) = false := hc
         refine gK (gIb (gS (gR ?_)))
         refine GoH.v (Vop.ldB rfl rfl rfl rfl Try.isAgg49 0 rfl Try.sizeOf49 rfl) ?_
         iterate 2 refine gMv ?_
         refine GoH.callM _ rfl rfl rfl rfl rfl (fun _ _ => Try.call51 _ _) (fun w _ hS => (by exact rbuild0_c op i e g x y a b ta tb w hop hf (fun _ => ⟨hA hS.ext, h.eq, h.ok⟩) (fun _ => ⟨hB hS.ext, h'.eq, h'.ok⟩))) ?_
         rintro v w1 w2 Y' hS he ho
         obtain ⟨q, cap, sp, rfl, hq, hcap, hS'⟩ := gainN hS he ho
         refine ⟨_, hS', ?_⟩
         refine gAs ?_
         refine gE ?_
         refine GoH.ret Try.f83 Try.func83 rfl (fun w' hS => ?_)
         exact ⟨hS.ext, by rw [jointT, if_neg h0, if_neg (by rw [h1]; simp), if_neg (by rw [h2, h3]; simp)]; exact RvP.own (OwnN.mk hS 0 rfl rfl hq hcap)⟩
    ·
     have k3 : oppT ta tb = false := hc
     have h0 : ¬ (isT ta dm || isT tb dm || (oppT ta tb && !isT ta ne && !isT tb ne)) = true := by simp [k1, k2, k3]
     iterate 4 refine gNo ?_
     refine gPf ?_
     refine gMv ?_
     iterate 4 refine gNo ?_
     iterate 2 refine gPf ?_
     refine gAs ?_
     refine gE (GoH.condF rfl (gS (gR ?_)))
     iterate 2 refine gMv ?_
     refine GoH.callP rfl rfl rfl rfl rfl (fun _ _ => Try.call81 _ _) (fun w _ hS => (by exact isT_c a ta ne w (hA hS.ext) h)) ?_
     refine gAs ?_
     refine gE ?_
     refine GoH.cond rfl (fun hc => ?_) (fun hc => ?_)
     ·
      have h1 : isT ta ne = true := hc
      refine gS (gR ?_)
      refine gMv ?_
      refine gAs ?_
      refine gE ?_
      refine GoH.ret Try.f83 Try.func83 rfl (fun w' hS => ?_)
      exact ⟨hS.ext, b, rfl, by rw [jointT, if_neg h0, if_pos h1]; exact h'.eq, .inr (.inr rfl)⟩
     ·
      have h1 : isT ta ne = false := hc
      refine gS (gR ?_)
      iterate 2 refine gMv ?_
      refine GoH.callP rfl rfl rfl rfl rfl (fun _ _ => Try.call81 _ _) (fun w _ hS => (by exact isT_c b tb ne w (hB hS.ext) h')) ?_
      refine gMv ?_
      refine GoH.cases (d := 49) rfl (fun hc => ?_) (fun hc => ?_)
      ·
       have h2 : isT tb ne = true := hc
       iterate 3 refine gNo ?_
       refine gPt ?_
       refine gAs ?_
       refine gE (GoH.condT rfl (gS (gR ?_)))
       refine gMv ?_
       refine gAs ?_
       refine gE ?_
       refine GoH.ret Try.f83 Try.func83 rfl (fun w' hS => ?_)
       exact ⟨hS.ext, a, rfl, by rw [jointT, if_neg h0, if_neg (by rw [h1]; simp), if_pos (by rw [h2]; rfl)]; exact h.eq, .inr (.inl rfl)⟩
      ·
       have h2 : isT tb ne = false := hc
       iterate 2 refine gMv ?_
       refine GoH.callP rfl rfl rfl rfl rfl (fun _ _ => Try.call58 _ _) (fun w _ hS => (by exact eqT_c a b ta tb w (hA hS.ext) (hB hS.ext) h h')) ?_
       refine gPf ?_
       refine gAs ?_
       refine gE ?_
       refine GoH.cond rfl (fun hc => ?_) (fun hc => ?_)
       ·
        have h3 : (ta == tb) = true := hc
        refine gS (gR ?_)
        refine gMv ?_
        refine gAs ?_
        refine gE ?_
        refine GoH.ret Try.f83 Try.func83 rfl (fun w' hS => ?_)
        exact ⟨hS.ext, a, rfl, by rw [jointT, if_neg h0, if_neg (by rw [h1]; simp), if_pos (by rw [h2, h3]; rfl)]; exact h.eq, .inr (.inl rfl)⟩
       ·
        have h3 : (ta == tb) = false := hc
        refine gK (gIb (gS (gR ?_)))
        refine GoH.v (Vop.ldB rfl rfl rfl rfl Try.isAgg49 0 rfl Try.sizeOf49 rfl) ?_
        iterate 2 refine gMv ?_
        refine GoH.callM _ rfl rfl rfl rfl rfl (fun _ _ => Try.call51 _ _) (fun w _ hS => (by exact rbuild0_c op i e g x y a b ta tb w hop hf (fun _ => ⟨hA hS.ext, h.eq, h.ok⟩) (fun _ => ⟨hB hS.ext, h'.eq, h'.ok⟩))) ?_
        rintro v w1 w2 Y' hS he ho
        obtain ⟨q, cap, sp, rfl, hq, hcap, hS'⟩ := gainN hS he ho
        refine ⟨_, hS', ?_⟩
        refine gAs ?_
        refine gE ?_
        refine GoH.ret Try.f83 Try.func83 rfl (fun w' hS => ?_)
        exact ⟨hS.ext, by rw [jointT, if_neg h0, if_neg (by rw [h1]; simp), if_neg (by rw [h2, h3]; simp)]; exact RvP.own (OwnN.mk hS 0 rfl rfl hq hcap)⟩
set_option maxRecDepth 8000 in
theorem conditional_c (a b : FV) (ta tb : Tr) (w : World) (ha : FA w a.a a.f) (hb : FA w b.a b.f) (h : Cf a.f ta) (h' : Cf b.f tb) : Cn Try.prog 84 [a.v, b.v] w (fun v w' => RvP 49 w w' v a b (condT ta tb)) := by
  have hA : ∀ {w' : World}, Ex [] w w' → FA w' a.a a.f := fun e => ha.ex0 e
  have hB : ∀ {w' : World}, Ex [] w w' → FA w' b.a b.f := fun e => hb.ex0 e
  have hal : a.f.length ≤ maxLen := by have := h.le; unfold maxLen; omega
  have hbl : b.f.length ≤ maxLen := by have := h'.le; unfold maxLen; omega
  refine Cn.of Try.func84 rfl rfl ?_
  refine gS (gR ?_)
  refine gAs ?_
  refine gE (gS (gB (gS (gR ?_))))
  refine gMv ?_
  refine GoH.callP rfl rfl rfl rfl rfl (fun _ _ => Try.call81 _ _) (fun w _ hS => (by exact isT_c a ta 2 w (hA hS.ext) h)) ?_
  refine gMv ?_
  refine GoH.cases (d := 8) rfl (fun hc => ?_) (fun hc => ?_)
  ·
   have k1 : isT ta 2 = true := hc
   iterate 2 refine gNo ?_
   refine gPt ?_
   refine gMv ?_
   iterate 3 refine gNo ?_
   refine gPt ?_
   refine gAs ?_
   refine gE (GoH.condT rfl (gS (gR ?_)))
   refine GoH.callM _ rfl rfl rfl rfl rfl (fun _ _ => Try.call82 _ _) (fun w _ hS => (by exact true_c w)) ?_
   rintro v w1 w2 Y' hS he ho
   rw [cT_bT (.inl rfl)] at ho
   obtain ⟨q, cap, sp, rfl, hq, hcap, hS'⟩ := gainN hS he ho
   refine ⟨_, hS', ?_⟩
   refine gAs ?_
   refine gE ?_
   refine GoH.ret Try.f84 Try.func84 rfl (fun w' hS => ?_)
   exact ⟨hS.ext, by rw [condT, if_pos (by simp [k1])]; exact RvP.own (OwnN.mk hS 0 rfl rfl hq hcap)⟩
  ·
   have k1 : isT ta 2 = false := hc
   refine gMv ?_
   refine GoH.callP rfl rfl rfl rfl rfl (fun _ _ => Try.call81 _ _) (fun w _ hS => (by exact isT_c b tb 1 w (hB hS.ext) h')) ?_
   refine gPf ?_
   refine gMv ?_
   refine GoH.cases (d := 12) rfl (fun hc => ?_) (fun hc => ?_)
   ·
    have k2 : isT tb 1 = true := hc
    iterate 3 refine gNo ?_
    refine gPt ?_
    refine gAs ?_
    refine gE (GoH.condT rfl (gS (gR ?_)))
    refine GoH.callM _ rfl rfl rfl rfl rfl (fun _ _ => Try.call82 _ _) (fun w _ hS => (by exact true_c w)) ?_
    rintro v w1 w2 Y' hS he ho
    rw [cT_bT (.inl rfl)] at ho
    obtain ⟨q, cap, sp, rfl, hq, hcap, hS'⟩ := gainN hS he ho
    refine ⟨_, hS', ?_⟩
    refine gAs ?_
    refine gE ?_
    refine GoH.ret Try.f84 Try.func84 rfl (fun w' hS => ?_)
    exact ⟨hS.ext, by rw [condT, if_pos (by simp [k2])]; exact RvP.own (OwnN.mk hS 0 rfl rfl hq hcap)⟩
   ·
    have k2 : isT tb 1 = false := hc
    iterate 2 refine gMv ?_
    refine GoH.callP rfl rfl rfl rfl rfl (fun _ _ => Try.call58 _ _) (fun w _ hS => (by exact eqT_c a b ta tb w (hA hS.ext) (hB hS.ext) h h')) ?_
    refine gPf ?_
    refine gAs ?_
    refine gE ?_
    refine GoH.cond rfl (fun hc => ?_) (fun hc => ?_)
    ·
     have k3 : (ta == tb) = true := hc
     refine gS (gR ?_)
     refine GoH.callM _ rfl rfl rfl rfl rfl (fun _ _ => Try.call82 _ _) (fun w _ hS => (by exact true_c w)) ?_
     rintro v w1 w2 Y' hS he ho
     rw [cT_bT (.inl rfl)] at ho
     obtain ⟨q, cap, sp, rfl, hq, hcap, hS'⟩ := gainN hS he ho
     refine ⟨_, hS', ?_⟩
     refine gAs ?_
     refine gE ?_
     refine GoH.ret Try.f84 Try.func84 rfl (fun w' hS => ?_)
     exact ⟨hS.ext, by rw [condT, if_pos (by rw [k3]; simp)]; exact RvP.own (OwnN.mk hS 0 rfl rfl hq hcap)⟩
    ·
     have k3 : (ta == tb) = false := hc
     have h0 : ¬ (isT ta 2 || isT tb 1 || ta == tb) = true := by rw [k1, k2, k3]; simp
     refine gS (gR ?_)
     refine gMv ?_
     refine GoH.callP rfl rfl rfl rfl rfl (fun _ _ => Try.call81 _ _) (fun w _ hS => (by exact isT_c a ta 1 w (hA hS.ext) h)) ?_
     refine gAs ?_
     refine gE ?_
     refine GoH.cond rfl (fun hc => ?_) (fun hc => ?_)
     ·
      have k4 : isT ta 1 = true := hc
      refine gS (gR ?_)
      refine gMv ?_
      refine gAs ?_
      refine gE ?_
      refine GoH.ret Try.f84 Try.func84 rfl (fun w' hS => ?_)
      exact ⟨hS.ext, b, rfl, by rw [condT, if_neg h0, if_pos k4]; exact h'.eq, .inr (.inr rfl)⟩
     ·
      have k4 : isT ta 1 = false := hc
      have n4 : ¬ isT ta 1 = true := by rw [k4]; simp
      refine gS (gR ?_)
      refine gMv ?_
      refine GoH.callP rfl rfl rfl rfl rfl (fun _ _ => Try.call81 _ _) (fun w _ hS => (by exact isT_c b tb 2 w (hB hS.ext) h')) ?_
      refine gAs ?_
      refine gE ?_
      refine GoH.cond rfl (fun hc => ?_) (fun hc => ?_)
      ·
       have k5 : isT tb 2 = true := hc
       refine gS (gR ?_)
       refine gMv ?_
       refine GoH.callM _ rfl rfl rfl rfl rfl (fun _ _ => Try.call60 _ _) (fun w _ hS => (by exact negate_c a.a a.c a.f ta w (hA hS.ext) h)) ?_
       rintro v w1 w2 Y' hS he ho
       obtain ⟨q, cap, sp, rfl, hq, hcap, hS'⟩ := gainN hS he ho
       refine ⟨_, hS', ?_⟩
       refine gAs ?_
       refine gE ?_
       refine GoH.ret Try.f84 Try.func84 rfl (fun w' hS => ?_)
       exact ⟨hS.ext, by rw [condT, if_neg h0, if_neg n4, if_pos k5]; exact RvP.own (OwnN.mk hS 0 rfl rfl hq hcap)⟩
      ·
       have k5 : isT tb 2 = false := hc
       have n5 : ¬ isT tb 2 = true := by rw [k5]; simp
       refine gK (gIb (gS (gR ?_)))
       iterate 2 refine gMv ?_
       refine GoH.callM _ rfl rfl rfl rfl rfl (fun _ _ => Try.call92 _ _) (fun w _ hS => (by exact imp_c a.a a.c a.f b.a b.c b.f w (hA hS.ext) hal (hB hS.ext) hbl)) ?_
       rintro v w1 w2 Y' hS he ho
       rw [bldQ2 (op := 7) (i := 0) (e := 0) (g := 0) (a := ta) (b := tb) (by decide) rfl rfl rfl rfl rfl ⟨h.eq, h.ok⟩ ⟨h'.eq, h'.ok⟩] at ho
       obtain ⟨q, cap, sp, rfl, hq, hcap, hS'⟩ := gainN hS he ho
       refine ⟨_, hS', ?_⟩
       refine gAs ?_
       refine gE ?_
       refine GoH.ret Try.f84 Try.func84 rfl (fun w' hS => ?_)
       exact ⟨hS.ext, by rw [condT, if_neg h0, if_neg n4, if_neg n5]; exact RvP.own (OwnN.mk hS 0 rfl rfl hq hcap)⟩
set_option maxRecDepth 8000 in
theorem equivalence_c (a b : FV) (ta tb : Tr) (w : World) (ha : FA w a.a a.f) (hb : FA w b.a b.f) (h : Cf a.f ta) (h' : Cf b.f tb) : Cn Try.prog 85 [a.v, b.v] w (fun v w' => RvP 49 w w' v a b (equT ta tb)) := by
  have hA : ∀ {w' : World}, Ex [] w w' → FA w' a.a a.f := fun e => ha.ex0 e
  have hB : ∀ {w' : World}, Ex [] w w' → FA w' b.a b.f := fun e => hb.ex0 e
  have hal : a.f.length ≤ maxLen := by have := h.le; unfold maxLen; omega
  have hbl : b.f.length ≤ maxLen := by have := h'.le; unfold maxLen; omega
  refine Cn.of Try.func85 rfl rfl ?_
  refine gS (gR ?_)
  refine gAs ?_
  refine gE (gS (gB (gS (gR ?_))))
  iterate 2 refine gMv ?_
  refine GoH.callP rfl rfl rfl rfl rfl (fun _ _ => Try.call58 _ _) (fun w _ hS => (by exact eqT_c a b ta tb w (hA hS.ext) (hB hS.ext) h h')) ?_
  refine gAs ?_
  refine gE ?_
  refine GoH.cond rfl (fun hc => ?_) (fun hc => ?_)
  ·
   have k1 : (ta == tb) = true := hc
   refine gS (gR ?_)
   refine GoH.callM _ rfl rfl rfl rfl rfl (fun _ _ => Try.call82 _ _) (fun w _ hS => (by exact true_c w)) ?_
   rintro v w1 w2 Y' hS he ho
   rw [cT_bT (.inl rfl)] at ho
   obtain ⟨q, cap, sp, rfl, hq, hcap, hS'⟩ := gainN hS he ho
   refine ⟨_, hS', ?_⟩
   refine gAs ?_
   refine gE ?_
   refine GoH.ret Try.f85 Try.func85 rfl (fun w' hS => ?_)
   exact ⟨hS.ext, by rw [equT, if_pos k1]; exact RvP.own (OwnN.mk hS 0 rfl rfl hq hcap)⟩
  ·
   have k1 : ¬ (ta == tb) = true := by rw [show (ta == tb) = false from hc]; simp
   refine gS (gR ?_)
   iterate 2 refine gMv ?_
   refine GoH.callP rfl rfl rfl rfl rfl (fun _ _ => Try.call116 _ _) (fun w _ hS => (by exact opposite_c a.a a.c a.f ta b.a b.c b.f tb w (hA hS.ext) (hB hS.ext) h h')) ?_
   refine gAs ?_
   refine gE ?_
   refine GoH.cond rfl (fun hc => ?_) (fun hc => ?_)
   ·
    have k2 : oppT ta tb = true := hc
    refine gS (gR ?_)
    refine GoH.callM _ rfl rfl rfl rfl rfl (fun _ _ => Try.call75 _ _) (fun w _ hS => (by exact false_c w)) ?_
    rintro v w1 w2 Y' hS he ho
    rw [cT_bT (.inr rfl)] at ho
    obtain ⟨q, cap, sp, rfl, hq, hcap, hS'⟩ := gainN hS he ho
    refine ⟨_, hS', ?_⟩
    refine gAs ?_
    refine gE ?_
    refine GoH.ret Try.f85 Try.func85 rfl (fun w' hS => ?_)
    exact ⟨hS.ext, by rw [equT, if_neg k1, if_pos k2]; exact RvP.own (OwnN.mk hS 0 rfl rfl hq hcap)⟩
   ·
    have k2 : ¬ oppT ta tb = true := by rw [show oppT ta tb = false from hc]; simp
    refine gS (gR ?_)
    refine gMv ?_
    refine GoH.callP rfl rfl rfl rfl rfl (fun _ _ => Try.call81 _ _) (fun w _ hS => (by exact isT_c a ta 1 w (hA hS.ext) h)) ?_
    refine gAs ?_
    refine gE ?_
    refine GoH.cond rfl (fun hc => ?_) (fun hc => ?_)
    ·
     have k3 : isT ta 1 = true := hc
     refine gS (gR ?_)
     refine gMv ?_
     refine gAs ?_
     refine gE ?_
     refine GoH.ret Try.f85 Try.func85 rfl (fun w' hS => ?_)
     exact ⟨hS.ext, b, rfl, by rw [equT, if_neg k1, if_neg k2, if_pos k3]; exact h'.eq, .inr (.inr rfl)⟩
    ·
     have k3 : ¬ isT ta 1 = true := by rw [show isT ta 1 = false from hc]; simp
     refine gS (gR ?_)
     refine gMv ?_
     refine GoH.callP rfl rfl rfl rfl rfl (fun _ _ => Try.call81 _ _) (fun w _ hS => (by exact isT_c b tb 1 w (hB hS.ext) h')) ?_
     refine gAs ?_
     refine gE ?_
     refine GoH.cond rfl (fun hc => ?_) (fun hc => ?_)
     ·
      have k4 : isT tb 1 = true := hc
      refine gS (gR ?_)
      refine gMv ?_
      refine gAs ?_
      refine gE ?_
      refine GoH.ret Try.f85 Try.func85 rfl (fun w' hS => ?_)
      exact ⟨hS.ext, a, rfl, by rw [equT, if_neg k1, if_neg k2, if_neg k3, if_pos k4]; exact h.eq, .inr (.inl rfl)⟩
     ·
      have k4 : ¬ isT tb 1 = true := by rw [show isT tb 1 = false from hc]; simp
      refine gS (gR ?_)
      refine gMv ?_
      refine GoH.callP rfl rfl rfl rfl rfl (fun _ _ => Try.call81 _ _) (fun w _ hS => (by exact isT_c a ta 2 w (hA hS.ext) h)) ?_
      refine gAs ?_
      refine gE ?_
      refine GoH.cond rfl (fun hc => ?_) (fun hc => ?_)
      ·
       have k5 : isT ta 2 = true := hc
       refine gS (gR ?_)
       refine gMv ?_
       refine GoH.callM _ rfl rfl rfl rfl rfl (fun _ _ => Try.call60 _ _) (fun w _ hS => (by exact negate_c b.a b.c b.f tb w (hB hS.ext) h')) ?_
       rintro v w1 w2 Y' hS he ho
       obtain ⟨q, cap, sp, rfl, hq, hcap, hS'⟩ := gainN hS he ho
       refine ⟨_, hS', ?_⟩
       refine gAs ?_
       refine gE ?_
       refine GoH.ret Try.f85 Try.func85 rfl (fun w' hS => ?_)
       exact ⟨hS.ext, by rw [equT, if_neg k1, if_neg k2, if_neg k3, if_neg k4, if_pos k5]; exact RvP.own (OwnN.mk hS 0 rfl rfl hq hcap)⟩
      ·
       have k5 : ¬ isT ta 2 = true := by rw [show isT ta 2 = false from hc]; simp
       refine gS (gR ?_)
       refine gMv ?_
       refine GoH.callP rfl rfl rfl rfl rfl (fun _ _ => Try.call81 _ _) (fun w _ hS => (by exact isT_c b tb 2 w (hB hS.ext) h')) ?_
       refine gAs ?_
       refine gE ?_
       refine GoH.cond rfl (fun hc => ?_) (fun hc => ?_)
       ·
        have k6 : isT tb 2 = true := hc
        refine gS (gR ?_)
        refine gMv ?_
        refine GoH.callM _ rfl rfl rfl rfl rfl (fun _ _ => Try.call60 _ _) (fun w _ hS => (by exact negate_c a.a a.c a.f ta w (hA hS.ext) h)) ?_
        rintro v w1 w2 Y' hS he ho
        obtain ⟨q, cap, sp, rfl, hq, hcap, hS'⟩ := gainN hS he ho
        refine ⟨_, hS', ?_⟩
        refine gAs ?_
        refine gE ?_
        refine GoH.ret Try.f85 Try.func85 rfl (fun w' hS => ?_)
        exact ⟨hS.ext, by rw [equT, if_neg k1, if_neg k2, if_neg k3, if_neg k4, if_neg k5, if_pos k6]; exact RvP.own (OwnN.mk hS 0 rfl rfl hq hcap)⟩
       ·
        have k6 : ¬ isT tb 2 = true := by rw [show isT tb 2 = false from hc]; simp
        refine gK (gIb (gS (gR ?_)))
        iterate 2 refine gMv ?_
        refine GoH.callM _ rfl rfl rfl rfl rfl (fun _ _ => Try.call93 _ _) (fun w _ hS => (by exact iff_c a.a a.c a.f b.a b.c b.f w (hA hS.ext) hal (hB hS.ext) hbl)) ?_
        rintro v w1 w2 Y' hS he ho
        rw [bldQ2 (op := 8) (i := 0) (e := 0) (g := 0) (a := ta) (b := tb) (by decide) rfl rfl rfl rfl rfl ⟨h.eq, h.ok⟩ ⟨h'.eq, h'.ok⟩] at ho
        obtain ⟨q, cap, sp, rfl, hq, hcap, hS'⟩ := gainN hS he ho
        refine ⟨_, hS', ?_⟩
        refine gAs ?_
        refine gE ?_
        refine GoH.ret Try.f85 Try.func85 rfl (fun w' hS => ?_)
        exact ⟨hS.ext, by rw [equT, if_neg k1, if_neg k2, if_neg k3, if_neg k4, if_neg k5, if_neg k6]; exact RvP.own (OwnN.mk hS 0 rfl rfl hq hcap)⟩
end Go.Proofs.Ytkoipdlkkchmiaa
namespace Go.Proofs.Ytkoipdlkkchmiaa
open Go.RowKit Go.Proofs.Wit
/-! the rules of simplification -/
theorem sim4 {i e g : Int} {a b : Tr} : simT 4 i e g a b = if isT a 1 = true then cT 2 else if isT a 2 = true then cT 1 else negT a := rfl
theorem sim10 {i e g : Int} {a b : Tr} : simT 10 i e g a b = if isT a 2 = true then cT 2 else mkQ 10 i e g a b := rfl
theorem sim16 {i e g : Int} {a b : Tr} : simT 16 i e g a b = if (isT a 1 && !isT b 1) = true then b else if (isT a 2 || isT b 1) = true then cT 1 else mkQ 16 i e g a b := rfl
theorem sim13 {i e g : Int} {a b : Tr} : simT 13 i e g a b = if (isT a 2 || isT b 1) = true then cT 1 else mkQ 13 i e g a b := rfl
theorem sim14 {i e g : Int} {a b : Tr} : simT 14 i e g a b = if (isT a 2 || isT b 1) = true then cT 1 else mkQ 14 i e g a b := rfl
theorem sim9 {i e g : Int} {a b : Tr} : simT 9 i e g a b = if isT a 1 = true then cT 1 else mkQ 9 i e g a b := rfl
theorem sim11 {i e g : Int} {a b : Tr} : simT 11 i e g a b = if isT a 1 = true then cT 1 else mkQ 11 i e g a b := rfl
theorem sim12 {i e g : Int} {a b : Tr} : simT 12 i e g a b = if isT a 1 = true then cT 1 else mkQ 12 i e g a b := rfl
theorem sim15 {i e g : Int} {a b : Tr} : simT 15 i e g a b = if isT a 1 = true then cT 1 else mkQ 15 i e g a b := rfl
theorem sim17 {i e g : Int} {a b : Tr} : simT 17 i e g a b = if isT a 1 = true then cT 1 else mkQ 17 i e g a b := rfl
set_option maxRecDepth 8000 in
theorem simple_c (op i e g x y : Int) (a b : FV) (ta tb : Tr) (w : World) (hop : 1 ≤ op ∧ op ≤ 21) (hf : fldE op i e g = 0) (ha : Opd w (usX op) a ta) (hb : Opd w (usY op) b tb) (hna : usX op = true → a.f ≠ []) (hnb : usY op = true → b.f ≠ []) : Cn Try.prog 41 [NV.v ⟨op, i, e, g, x, y⟩, a.v, b.v] w (fun v w' => RvP 49 w w' v a b (simT op i e g ta tb)) := by
  have hA : ∀ {w' : World}, usX op = true → Ex [] w w' → FA w' a.a a.f := fun u e => (ha u).1.ex0 e
  have hB : ∀ {w' : World}, usY op = true → Ex [] w w' → FA w' b.a b.f := fun u e => (hb u).1.ex0 e
  have h : usX op = true → Cf a.f ta := fun u => ⟨(ha u).2.1, hna u, (ha u).2.2⟩
  have h' : usY op = true → Cf b.f tb := fun u => ⟨(hb u).2.1, hnb u, (hb u).2.2⟩
  refine Cn.of Try.func41 rfl rfl ?_
  refine gS (gR ?_)
  refine GoH.bx rfl rfl rfl rfl (fun b3 => ?_)
  refine gAs ?_
  refine gE (gS (gS (gR ?_)))
  refine gFp Try.underlying49 Try.sizeOf3 0 ?_
  refine gLo Try.isAgg3 0 ?_
  refine gE (gB (gS (gB (gS (gB (gS (gB (gS (gB (gS (gB (gS (gB (gS (gB (gS (gB (gS (gB (gS (gS (gS (gR ?_)))))))))))))))))))))))
  refine gBi bEq ?_
  refine gAs ?_
  refine gE ?_
  refine GoH.cond rfl (fun hc => ?_) (fun hc => ?_)
  ·
   obtain rfl : op = 4 := by simpa using hc
   refine GoH.exit rfl (gS (gS (gB (gS (gR ?_)))))
   refine gMv ?_
   refine GoH.callP rfl rfl rfl rfl rfl (fun _ _ => Try.call81 _ _) (fun w _ hS => (by exact isT_c a ta 1 w (hA rfl hS.ext) (h rfl))) ?_
   refine gAs ?_
   refine gE ?_
   refine GoH.cond rfl (fun hc => ?_) (fun hc => ?_)
   ·
    have k1 : isT ta 1 = true := by simpa using hc
    refine gS (gR ?_)
    refine GoH.callM _ rfl rfl rfl rfl rfl (fun _ _ => Try.call75 _ _) (fun w _ hS => (by exact false_c w)) ?_
    rintro v w1 w2 Y' hS he ho
    rw [cT_bT (.inr rfl)] at ho
    obtain ⟨q, cap, sp, rfl, hq, hcap, hS'⟩ := gainN hS he ho
    refine ⟨_, hS', ?_⟩
    refine gAs ?_
    refine gE ?_
    refine GoH.ret Try.f41 Try.func41 rfl (fun w' hS => ?_)
    exact ⟨hS.ext, by rw [sim4, if_pos k1]; exact RvP.own (OwnN.mk hS 0 rfl rfl hq hcap)⟩
   ·
    have k1 : isT ta 1 = false := by simpa using hc
    refine gS (gR ?_)
    refine gMv ?_
    refine GoH.callP rfl rfl rfl rfl rfl (fun _ _ => Try.call81 _ _) (fun w _ hS => (by exact isT_c a ta 2 w (hA rfl hS.ext) (h rfl))) ?_
    refine gAs ?_
    refine gE ?_
    refine GoH.cond rfl (fun hc => ?_) (fun hc => ?_)
    ·
     have k2 : isT ta 2 = true := by simpa using hc
     refine gS (gR ?_)
     refine GoH.callM _ rfl rfl rfl rfl rfl (fun _ _ => Try.call82 _ _) (fun w _ hS => (by exact true_c w)) ?_
     rintro v w1 w2 Y' hS he ho
     rw [cT_bT (.inl rfl)] at ho
     obtain ⟨q, cap, sp, rfl, hq, hcap, hS'⟩ := gainN hS he ho
     refine ⟨_, hS', ?_⟩
     refine gAs ?_
     refine gE ?_
     refine GoH.ret Try.f41 Try.func41 rfl (fun w' hS => ?_)
     exact ⟨hS.ext, by rw [sim4, if_neg (by simp [k1]), if_pos k2]; exact RvP.own (OwnN.mk hS 0 rfl rfl hq hcap)⟩
    ·
     have k2 : isT ta 2 = false := by simpa using hc
     refine gK (gIb (gS (gR ?_)))
     refine gMv ?_
     refine GoH.callM _ rfl rfl rfl rfl rfl (fun _ _ => Try.call60 _ _) (fun w _ hS => (by exact negate_c a.a a.c a.f ta w (hA rfl hS.ext) (h rfl))) ?_
     rintro v w1 w2 Y' hS he ho
     obtain ⟨q, cap, sp, rfl, hq, hcap, hS'⟩ := gainN hS he ho
     refine ⟨_, hS', ?_⟩
     refine gAs ?_
     refine gE ?_
     refine GoH.ret Try.f41 Try.func41 rfl (fun w' hS => ?_)
     exact ⟨hS.ext, by rw [sim4, if_neg (by simp [k1]), if_neg (by simp [k2])]; exact RvP.own (OwnN.mk hS 0 rfl rfl hq hcap)⟩
  ·
   have n4 : ¬ op = 4 := by simpa using hc
   refine gK (gS (gS (gR ?_)))
   refine gBi bEq ?_
   refine gAs ?_
   refine gE ?_
   refine GoH.cond rfl (fun hc => ?_) (fun hc => ?_)
   ·
    obtain rfl : op = 5 := by simpa using hc
    refine GoH.exit rfl (gS (gS (gR ?_)))
    refine GoH.v (Vop.ldB rfl rfl rfl rfl Try.isAgg49 0 rfl Try.sizeOf49 rfl) ?_
    iterate 2 refine gMv ?_
    refine GoH.callM _ rfl rfl rfl rfl rfl (fun _ _ => Try.call83 _ _) (fun w _ hS => (by exact joint_c 5 i e g x y a b ta tb 1 2 w hop hf rfl (.inr rfl) (hA rfl hS.ext) (hB rfl hS.ext) (h rfl) (h' rfl))) ?_
    rintro v w1 w2 Y' hS he hr
    obtain ⟨p, hS', hk⟩ := hr.keep hS he
    refine ⟨_, hS', ?_⟩
    refine gAs ?_
    refine gE ?_
    refine GoH.ret Try.f41 Try.func41 rfl (fun w' hS => ?_)
    exact ⟨hS.ext, by rw [show simT 5 i e g ta tb = jointT 5 i e g ta tb 1 2 from rfl]; exact hk _ _ hS⟩
   ·
    have n5 : ¬ op = 5 := by simpa using hc
    refine gK (gS (gS (gR ?_)))
    refine gBi bEq ?_
    refine gAs ?_
    refine gE ?_
    refine GoH.cond rfl (fun hc => ?_) (fun hc => ?_)
    ·
     obtain rfl : op = 6 := by simpa using hc
     refine GoH.exit rfl (gS (gS (gR ?_)))
     refine GoH.v (Vop.ldB rfl rfl rfl rfl Try.isAgg49 0 rfl Try.sizeOf49 rfl) ?_
     iterate 2 refine gMv ?_
     refine GoH.callM _ rfl rfl rfl rfl rfl (fun _ _ => Try.call83 _ _) (fun w _ hS => (by exact joint_c 6 i e g x y a b ta tb 2 1 w hop hf rfl (.inl rfl) (hA rfl hS.ext) (hB rfl hS.ext) (h rfl) (h' rfl))) ?_
     rintro v w1 w2 Y' hS he hr
     obtain ⟨p, hS', hk⟩ := hr.keep hS he
     refine ⟨_, hS', ?_⟩
     refine gAs ?_
     refine gE ?_
     refine GoH.ret Try.f41 Try.func41 rfl (fun w' hS => ?_)
     exact ⟨hS.ext, by rw [show simT 6 i e g ta tb = jointT 6 i e g ta tb 2 1 from rfl]; exact hk _ _ hS⟩
    ·
     have n6 : ¬ op = 6 := by simpa using hc
     refine gK (gS (gS (gR ?_)))
     refine gBi bEq ?_
     refine gAs ?_
     refine gE ?_
     refine GoH.cond rfl (fun hc => ?_) (fun hc => ?_)
     ·
      obtain rfl : op = 7 := by simpa using hc
      refine GoH.exit rfl (gS (gS (gR ?_)))
      iterate 2 refine gMv ?_
      refine GoH.callM _ rfl rfl rfl rfl rfl (fun _ _ => Try.call84 _ _) (fun w _ hS => (by exact conditional_c a b ta tb w (hA rfl hS.ext) (hB rfl hS.ext) (h rfl) (h' rfl))) ?_
      rintro v w1 w2 Y' hS he hr
      obtain ⟨p, hS', hk⟩ := hr.keep hS he
      refine ⟨_, hS', ?_⟩
      refine gAs ?_
      refine gE ?_
      refine GoH.ret Try.f41 Try.func41 rfl (fun w' hS => ?_)
      exact ⟨hS.ext, by rw [show simT 7 i e g ta tb = condT ta tb from rfl]; exact hk _ _ hS⟩
     ·
      have n7 : ¬ op = 7 := by simpa using hc
      refine gK (gS (gS (gR ?_)))
      refine gBi bEq ?_
      refine gAs ?_
      refine gE ?_
      refine GoH.cond rfl (fun hc => ?_) (fun hc => ?_)
      ·
       obtain rfl : op = 8 := by simpa using hc
       refine GoH.exit rfl (gS (gS (gR ?_)))
       iterate 2 refine gMv ?_
       refine GoH.callM _ rfl rfl rfl rfl rfl (fun _ _ => Try.call85 _ _) (fun w _ hS => (by exact equivalence_c a b ta tb w (hA rfl hS.ext) (hB rfl hS.ext) (h rfl) (h' rfl))) ?_
       rintro v w1 w2 Y' hS he hr
       obtain ⟨p, hS', hk⟩ := hr.keep hS he
       refine ⟨_, hS', ?_⟩
       refine gAs ?_
       refine gE ?_
       refine GoH.ret Try.f41 Try.func41 rfl (fun w' hS => ?_)
       exact ⟨hS.ext, by rw [show simT 8 i e g ta tb = equT ta tb from rfl]; exact hk _ _ hS⟩
      ·
       have n8 : ¬ op = 8 := by simpa using hc
       refine gK (gS (gS (gR ?_)))
       refine gBi bEq ?_
       refine gAs ?_
       refine gE ?_
       refine GoH.cond rfl (fun hc => ?_) (fun hc => ?_)
       ·
        obtain rfl : op = 10 := by simpa using hc
        refine GoH.exit rfl (gS (gS (gR ?_)))
        refine gMv ?_
        refine GoH.callP rfl rfl rfl rfl rfl (fun _ _ => Try.call81 _ _) (fun w _ hS => (by exact isT_c a ta 2 w (hA rfl hS.ext) (h rfl))) ?_
        refine gE ?_
        refine GoH.cond rfl (fun hc => ?_) (fun hc => ?_)
        ·
         have k3 : isT ta 2 = true := by simpa using hc
         refine gS (gR ?_)
         refine GoH.callM _ rfl rfl rfl rfl rfl (fun _ _ => Try.call75 _ _) (fun w _ hS => (by exact false_c w)) ?_
         rintro v w1 w2 Y' hS he ho
         rw [cT_bT (.inr rfl)] at ho
         obtain ⟨q, cap, sp, rfl, hq, hcap, hS'⟩ := gainN hS he ho
         refine ⟨_, hS', ?_⟩
         refine gAs ?_
         refine gE ?_
         refine GoH.ret Try.f41 Try.func41 rfl (fun w' hS => ?_)
         exact ⟨hS.ext, by rw [sim10, if_pos k3]; exact RvP.own (OwnN.mk hS 0 rfl rfl hq hcap)⟩
        ·
         have k3 : isT ta 2 = false := by simpa using hc
         refine gK (GoH.exit rfl (gS (gR ?_)))
         refine GoH.v (Vop.ldB rfl rfl rfl rfl Try.isAgg49 0 rfl Try.sizeOf49 rfl) ?_
         iterate 2 refine gMv ?_
         refine GoH.callM _ rfl rfl rfl rfl rfl (fun _ _ => Try.call51 _ _) (fun w _ hS => (by exact rbuild0_c 10 i e g x y a b ta tb w hop hf (ha.ex0 hS.ext) (hb.ex0 hS.ext))) ?_
         rintro v w1 w2 Y' hS he ho
         obtain ⟨q, cap, sp, rfl, hq, hcap, hS'⟩ := gainN hS he ho
         refine ⟨_, hS', ?_⟩
         refine gAs ?_
         refine gE ?_
         refine GoH.ret Try.f41 Try.func41 rfl (fun w' hS => ?_)
         exact ⟨hS.ext, by rw [sim10, if_neg (by simp [k3])]; exact RvP.own (OwnN.mk hS 0 rfl rfl hq hcap)⟩
       ·
        have n10 : ¬ op = 10 := by simpa using hc
        refine gK (gS (gS (gR ?_)))
        refine gBi bEq ?_
        refine gAs ?_
        refine gE ?_
        refine GoH.cond rfl (fun hc => ?_) (fun hc => ?_)
        ·
         obtain rfl : op = 16 := by simpa using hc
         refine GoH.exit rfl (gS (gR ?_))
         refine gMv ?_
         refine GoH.callP rfl rfl rfl rfl rfl (fun _ _ => Try.call81 _ _) (fun w _ hS => (by exact isT_c a ta 1 w (hA rfl hS.ext) (h rfl))) ?_
         refine gMv ?_
         refine GoH.cases (d := 61) rfl (fun hc => ?_) (fun hc => ?_)
         ·
          have k4 : isT ta 1 = true := by simpa using hc
          refine gMv ?_
          refine GoH.callP rfl rfl rfl rfl rfl (fun _ _ => Try.call81 _ _) (fun w _ hS => (by exact isT_c b tb 1 w (hB rfl hS.ext) (h' rfl))) ?_
          refine gUn uNot ?_
          refine gPt ?_
          refine gE ?_
          refine GoH.cond rfl (fun hc => ?_) (fun hc => ?_)
          ·
           have k5 : isT tb 1 = false := by simpa using hc
           refine gS (gR ?_)
           refine gMv ?_
           refine gAs ?_
           refine gE ?_
           refine GoH.ret Try.f41 Try.func41 rfl (fun w' hS => ?_)
           exact ⟨hS.ext, b, rfl, by rw [sim16, if_pos (by simp [k4, k5])]; exact (h' rfl).eq, .inr (.inr rfl)⟩
          ·
           have k5 : isT tb 1 = true := by simpa using hc
           refine gK (gIb (gS (gS (gR ?_))))
           refine gMv ?_
           refine GoH.callP rfl rfl rfl rfl rfl (fun _ _ => Try.call81 _ _) (fun w _ hS => (by exact isT_c a ta 2 w (hA rfl hS.ext) (h rfl))) ?_
           refine gMv ?_
           refine GoH.cases (d := 69) rfl (fun hc => ?_) (fun hc => ?_)
           ·
            have k6 : isT ta 2 = true := by simpa using hc
            iterate 2 refine gNo ?_
            refine gPt ?_
            refine gE (GoH.condT rfl (gS (gR ?_)))
            refine GoH.callM _ rfl rfl rfl rfl rfl (fun _ _ => Try.call82 _ _) (fun w _ hS => (by exact true_c w)) ?_
            rintro v w1 w2 Y' hS he ho
            rw [cT_bT (.inl rfl)] at ho
            obtain ⟨q, cap, sp, rfl, hq, hcap, hS'⟩ := gainN hS he ho
            refine ⟨_, hS', ?_⟩
            refine gAs ?_
            refine gE ?_
            refine GoH.ret Try.f41 Try.func41 rfl (fun w' hS => ?_)
            exact ⟨hS.ext, by rw [sim16, if_neg (by simp [k5]), if_pos (by simp [k6])]; exact RvP.own (OwnN.mk hS 0 rfl rfl hq hcap)⟩
           ·
            have k6 : isT ta 2 = false := by simpa using hc
            refine gMv ?_
            refine GoH.callP rfl rfl rfl rfl rfl (fun _ _ => Try.call81 _ _) (fun w _ hS => (by exact isT_c b tb 1 w (hB rfl hS.ext) (h' rfl))) ?_
            refine gPf ?_
            refine gE ?_
            refine GoH.cond rfl (fun hc => ?_) (fun hc => ?_)
            ·
             have k7 : isT tb 1 = true := by simpa using hc
             refine gS (gR ?_)
             refine GoH.callM _ rfl rfl rfl rfl rfl (fun _ _ => Try.call82 _ _) (fun w _ hS => (by exact true_c w)) ?_
             rintro v w1 w2 Y' hS he ho
             rw [cT_bT (.inl rfl)] at ho
             obtain ⟨q, cap, sp, rfl, hq, hcap, hS'⟩ := gainN hS he ho
             refine ⟨_, hS', ?_⟩
             refine gAs ?_
             refine gE ?_
             refine GoH.ret Try.f41 Try.func41 rfl (fun w' hS => ?_)
             exact ⟨hS.ext, by rw [sim16, if_neg (by simp [k5]), if_pos (by simp [k7])]; exact RvP.own (OwnN.mk hS 0 rfl rfl hq hcap)⟩
            ·
             have k7 : isT tb 1 = false := by simpa using hc
             refine gK (GoH.exit rfl (gS (gR ?_)))
             refine GoH.v (Vop.ldB rfl rfl rfl rfl Try.isAgg49 0 rfl Try.sizeOf49 rfl) ?_
             iterate 2 refine gMv ?_
             refine GoH.callM _ rfl rfl rfl rfl rfl (fun _ _ => Try.call51 _ _) (fun w _ hS => (by exact rbuild0_c 16 i e g x y a b ta tb w hop hf (ha.ex0 hS.ext) (hb.ex0 hS.ext))) ?_
             rintro v w1 w2 Y' hS he ho
             obtain ⟨q, cap, sp, rfl, hq, hcap, hS'⟩ := gainN hS he ho
             refine ⟨_, hS', ?_⟩
             refine gAs ?_
             refine gE ?_
             refine GoH.ret Try.f41 Try.func41 rfl (fun w' hS => ?_)
             exact ⟨hS.ext, by rw [sim16, if_neg (by simp [k5]), if_neg (by simp [k6, k7])]; exact RvP.own (OwnN.mk hS 0 rfl rfl hq hcap)⟩
         ·
          have k4 : isT ta 1 = false := by simpa using hc
          iterate 3 refine gNo ?_
          refine gPf ?_
          refine gE (GoH.condF rfl (gK (gIb (gS (gS (gR ?_))))))
          refine gMv ?_
          refine GoH.callP rfl rfl rfl rfl rfl (fun _ _ => Try.call81 _ _) (fun w _ hS => (by exact isT_c a ta 2 w (hA rfl hS.ext) (h rfl))) ?_
          refine gMv ?_
          refine GoH.cases (d := 69) rfl (fun hc => ?_) (fun hc => ?_)
          ·
           have k8 : isT ta 2 = true := by simpa using hc
           iterate 2 refine gNo ?_
           refine gPt ?_
           refine gE (GoH.condT rfl (gS (gR ?_)))
           refine GoH.callM _ rfl rfl rfl rfl rfl (fun _ _ => Try.call82 _ _) (fun w _ hS => (by exact true_c w)) ?_
           rintro v w1 w2 Y' hS he ho
           rw [cT_bT (.inl rfl)] at ho
           obtain ⟨q, cap, sp, rfl, hq, hcap, hS'⟩ := gainN hS he ho
           refine ⟨_, hS', ?_⟩
           refine gAs ?_
           refine gE ?_
           refine GoH.ret Try.f41 Try.func41 rfl (fun w' hS => ?_)
           exact ⟨hS.ext, by rw [sim16, if_neg (by simp [k4]), if_pos (by simp [k8])]; exact RvP.own (OwnN.mk hS 0 rfl rfl hq hcap)⟩
          ·
           have k8 : isT ta 2 = false := by simpa using hc
           refine gMv ?_
           refine GoH.callP rfl rfl rfl rfl rfl (fun _ _ => Try.call81 _ _) (fun w _ hS => (by exact isT_c b tb 1 w (hB rfl hS.ext) (h' rfl))) ?_
           refine gPf ?_
           refine gE ?_
           refine GoH.cond rfl (fun hc => ?_) (fun hc => ?_)
           ·
            have k9 : isT tb 1 = true := by simpa using hc
            refine gS (gR ?_)
            refine GoH.callM _ rfl rfl rfl rfl rfl (fun _ _ => Try.call82 _ _) (fun w _ hS => (by exact true_c w)) ?_
            rintro v w1 w2 Y' hS he ho
            rw [cT_bT (.inl rfl)] at ho
            obtain ⟨q, cap, sp, rfl, hq, hcap, hS'⟩ := gainN hS he ho
            refine ⟨_, hS', ?_⟩
            refine gAs ?_
            refine gE ?_
            refine GoH.ret Try.f41 Try.func41 rfl (fun w' hS => ?_)
            exact ⟨hS.ext, by rw [sim16, if_neg (by simp [k4]), if_pos (by simp [k9])]; exact RvP.own (OwnN.mk hS 0 rfl rfl hq hcap)⟩
           ·
            have k9 : isT tb 1 = false := by simpa using hc
            refine gK (GoH.exit rfl (gS (gR ?_)))
            refine GoH.v (Vop.ldB rfl rfl rfl rfl Try.isAgg49 0 rfl Try.sizeOf49 rfl) ?_
            iterate 2 refine gMv ?_
            refine GoH.callM _ rfl rfl rfl rfl rfl (fun _ _ => Try.call51 _ _) (fun w _ hS => (by exact rbuild0_c 16 i e g x y a b ta tb w hop hf (ha.ex0 hS.ext) (hb.ex0 hS.ext))) ?_
            rintro v w1 w2 Y' hS he ho
            obtain ⟨q, cap, sp, rfl, hq, hcap, hS'⟩ := gainN hS he ho
            refine ⟨_, hS', ?_⟩
            refine gAs ?_
            refine gE ?_
            refine GoH.ret Try.f41 Try.func41 rfl (fun w' hS => ?_)
            exact ⟨hS.ext, by rw [sim16, if_neg (by simp [k4]), if_neg (by simp [k8, k9])]; exact RvP.own (OwnN.mk hS 0 rfl rfl hq hcap)⟩
        ·
         have n16 : ¬ op = 16 := by simpa using hc
         refine gK (gS (gS (gS (gR ?_))))
         refine gBi bEq ?_
         refine gAs ?_
         refine gE ?_
         refine GoH.cond rfl (fun hc => ?_) (fun hc => ?_)
         ·
          have e13 : op = 13 := by simpa using hc
          refine gK ?_
          refine GoH.cond rfl (fun hc => ?_) (fun hc => ?_)
          ·
           subst e13
           refine GoH.exit rfl (gS (gS (gR ?_)))
           refine gMv ?_
           refine GoH.callP rfl rfl rfl rfl rfl (fun _ _ => Try.call81 _ _) (fun w _ hS => (by exact isT_c a ta 2 w (hA rfl hS.ext) (h rfl))) ?_
           refine gMv ?_
           refine GoH.cases (d := 69) rfl (fun hc => ?_) (fun hc => ?_)
           ·
            have k10 : isT ta 2 = true := by simpa using hc
            iterate 2 refine gNo ?_
            refine gPt ?_
            refine gE (GoH.condT rfl (gS (gR ?_)))
            refine GoH.callM _ rfl rfl rfl rfl rfl (fun _ _ => Try.call82 _ _) (fun w _ hS => (by exact true_c w)) ?_
            rintro v w1 w2 Y' hS he ho
            rw [cT_bT (.inl rfl)] at ho
            obtain ⟨q, cap, sp, rfl, hq, hcap, hS'⟩ := gainN hS he ho
            refine ⟨_, hS', ?_⟩
            refine gAs ?_
            refine gE ?_
            refine GoH.ret Try.f41 Try.func41 rfl (fun w' hS => ?_)
            exact ⟨hS.ext, by rw [sim13, if_pos (by simp [k10])]; exact RvP.own (OwnN.mk hS 0 rfl rfl hq hcap)⟩
           ·
            have k10 : isT ta 2 = false := by simpa using hc
            refine gMv ?_
            refine GoH.callP rfl rfl rfl rfl rfl (fun _ _ => Try.call81 _ _) (fun w _ hS => (by exact isT_c b tb 1 w (hB rfl hS.ext) (h' rfl))) ?_
            refine gPf ?_
            refine gE ?_
            refine GoH.cond rfl (fun hc => ?_) (fun hc => ?_)
            ·
             have k11 : isT tb 1 = true := by simpa using hc
             refine gS (gR ?_)
             refine GoH.callM _ rfl rfl rfl rfl rfl (fun _ _ => Try.call82 _ _) (fun w _ hS => (by exact true_c w)) ?_
             rintro v w1 w2 Y' hS he ho
             rw [cT_bT (.inl rfl)] at ho
             obtain ⟨q, cap, sp, rfl, hq, hcap, hS'⟩ := gainN hS he ho
             refine ⟨_, hS', ?_⟩
             refine gAs ?_
             refine gE ?_
             refine GoH.ret Try.f41 Try.func41 rfl (fun w' hS => ?_)
             exact ⟨hS.ext, by rw [sim13, if_pos (by simp [k11])]; exact RvP.own (OwnN.mk hS 0 rfl rfl hq hcap)⟩
            ·
             have k11 : isT tb 1 = false := by simpa using hc
             refine gK (GoH.exit rfl (gS (gR ?_)))
             refine GoH.v (Vop.ldB rfl rfl rfl rfl Try.isAgg49 0 rfl Try.sizeOf49 rfl) ?_
             iterate 2 refine gMv ?_
             refine GoH.callM _ rfl rfl rfl rfl rfl (fun _ _ => Try.call51 _ _) (fun w _ hS => (by exact rbuild0_c 13 i e g x y a b ta tb w hop hf (ha.ex0 hS.ext) (hb.ex0 hS.ext))) ?_
             rintro v w1 w2 Y' hS he ho
             obtain ⟨q, cap, sp, rfl, hq, hcap, hS'⟩ := gainN hS he ho
             refine ⟨_, hS', ?_⟩
             refine gAs ?_
             refine gE ?_
             refine GoH.ret Try.f41 Try.func41 rfl (fun w' hS => ?_)
             exact ⟨hS.ext, by rw [sim13, if_neg (by simp [k10, k11])]; exact RvP.own (OwnN.mk hS 0 rfl rfl hq hcap)⟩
          ·
           exact absurd hc (by rw [e13]; simp)
         ·
          have n13 : ¬ op = 13 := by simpa using hc
          refine gR ?_
          refine gBi bEq ?_
          refine gAs ?_
          refine gE ?_
          refine GoH.cond rfl (fun hc => ?_) (fun hc => ?_)
          ·
           have e14 : op = 14 := by simpa using hc
           subst e14
           refine GoH.exit rfl (gS (gS (gR ?_)))
           refine gMv ?_
           refine GoH.callP rfl rfl rfl rfl rfl (fun _ _ => Try.call81 _ _) (fun w _ hS => (by exact isT_c a ta 2 w (hA rfl hS.ext) (h rfl))) ?_
           refine gMv ?_
           refine GoH.cases (d := 69) rfl (fun hc => ?_) (fun hc => ?_)
           ·
            have k12 : isT ta 2 = true := by simpa using hc
            iterate 2 refine gNo ?_
            refine gPt ?_
            refine gE (GoH.condT rfl (gS (gR ?_)))
            refine GoH.callM _ rfl rfl rfl rfl rfl (fun _ _ => Try.call82 _ _) (fun w _ hS => (by exact true_c w)) ?_
            rintro v w1 w2 Y' hS he ho
            rw [cT_bT (.inl rfl)] at ho
            obtain ⟨q, cap, sp, rfl, hq, hcap, hS'⟩ := gainN hS he ho
            refine ⟨_, hS', ?_⟩
            refine gAs ?_
            refine gE ?_
            refine GoH.ret Try.f41 Try.func41 rfl (fun w' hS => ?_)
            exact ⟨hS.ext, by rw [sim14, if_pos (by simp [k12])]; exact RvP.own (OwnN.mk hS 0 rfl rfl hq hcap)⟩
           ·
            have k12 : isT ta 2 = false := by simpa using hc
            refine gMv ?_
            refine GoH.callP rfl rfl rfl rfl rfl (fun _ _ => Try.call81 _ _) (fun w _ hS => (by exact isT_c b tb 1 w (hB rfl hS.ext) (h' rfl))) ?_
            refine gPf ?_
            refine gE ?_
            refine GoH.cond rfl (fun hc => ?_) (fun hc => ?_)
            ·
             have k13 : isT tb 1 = true := by simpa using hc
             refine gS (gR ?_)
             refine GoH.callM _ rfl rfl rfl rfl rfl (fun _ _ => Try.call82 _ _) (fun w _ hS => (by exact true_c w)) ?_
             rintro v w1 w2 Y' hS he ho
             rw [cT_bT (.inl rfl)] at ho
             obtain ⟨q, cap, sp, rfl, hq, hcap, hS'⟩ := gainN hS he ho
             refine ⟨_, hS', ?_⟩
             refine gAs ?_
             refine gE ?_
             refine GoH.ret Try.f41 Try.func41 rfl (fun w' hS => ?_)
             exact ⟨hS.ext, by rw [sim14, if_pos (by simp [k13])]; exact RvP.own (OwnN.mk hS 0 rfl rfl hq hcap)⟩
            ·
             have k13 : isT tb 1 = false := by simpa using hc
             refine gK (GoH.exit rfl (gS (gR ?_)))
             refine GoH.v (Vop.ldB rfl rfl rfl rfl Try.isAgg49 0 rfl Try.sizeOf49 rfl) ?_
             iterate 2 refine gMv ?_
             refine GoH.callM _ rfl rfl rfl rfl rfl (fun _ _ => Try.call51 _ _) (fun w _ hS => (by exact rbuild0_c 14 i e g x y a b ta tb w hop hf (ha.ex0 hS.ext) (hb.ex0 hS.ext))) ?_
             rintro v w1 w2 Y' hS he ho
             obtain ⟨q, cap, sp, rfl, hq, hcap, hS'⟩ := gainN hS he ho
             refine ⟨_, hS', ?_⟩
             refine gAs ?_
             refine gE ?_
             refine GoH.ret Try.f41 Try.func41 rfl (fun w' hS => ?_)
             exact ⟨hS.ext, by rw [sim14, if_neg (by simp [k12, k13])]; exact RvP.own (OwnN.mk hS 0 rfl rfl hq hcap)⟩
          ·
           have n14 : ¬ op = 14 := by simpa using hc
           refine gK (gS (gS (gR ?_)))
           refine gBi bEq ?_
           refine gAs ?_
           refine gE ?_
           refine GoH.cond rfl (fun hc => ?_) (fun hc => ?_)
           ·
            have e9 : op = 9 := by simpa using hc
            refine gK ?_
            refine GoH.cond rfl (fun hc => ?_) (fun hc => ?_)
            ·
             subst e9
             refine GoH.exit rfl (gS (gS (gR ?_)))
             refine gMv ?_
             refine GoH.callP rfl rfl rfl rfl rfl (fun _ _ => Try.call81 _ _) (fun w _ hS => (by exact isT_c a ta 1 w (hA rfl hS.ext) (h rfl))) ?_
             refine gE ?_
             refine GoH.cond rfl (fun hc => ?_) (fun hc => ?_)
             ·
              have k14 : isT ta 1 = true := by simpa using hc
              refine gS (gR ?_)
              refine GoH.callM _ rfl rfl rfl rfl rfl (fun _ _ => Try.call82 _ _) (fun w _ hS => (by exact true_c w)) ?_
              rintro v w1 w2 Y' hS he ho
              rw [cT_bT (.inl rfl)] at ho
              obtain ⟨q, cap, sp, rfl, hq, hcap, hS'⟩ := gainN hS he ho
              refine ⟨_, hS', ?_⟩
              refine gAs ?_
              refine gE ?_
              refine GoH.ret Try.f41 Try.func41 rfl (fun w' hS => ?_)
              exact ⟨hS.ext, by rw [sim9, if_pos k14]; exact RvP.own (OwnN.mk hS 0 rfl rfl hq hcap)⟩
             ·
              have k14 : isT ta 1 = false := by simpa using hc
              refine gK (GoH.exit rfl (gS (gR ?_)))
              refine GoH.v (Vop.ldB rfl rfl rfl rfl Try.isAgg49 0 rfl Try.sizeOf49 rfl) ?_
              iterate 2 refine gMv ?_
              refine GoH.callM _ rfl rfl rfl rfl rfl (fun _ _ => Try.call51 _ _) (fun w _ hS => (by exact rbuild0_c 9 i e g x y a b ta tb w hop hf (ha.ex0 hS.ext) (hb.ex0 hS.ext))) ?_
              rintro v w1 w2 Y' hS he ho
              obtain ⟨q, cap, sp, rfl, hq, hcap, hS'⟩ := gainN hS he ho
              refine ⟨_, hS', ?_⟩
              refine gAs ?_
              refine gE ?_
              refine GoH.ret Try.f41 Try.func41 rfl (fun w' hS => ?_)
              exact ⟨hS.ext, by rw [sim9, if_neg (by simp [k14])]; exact RvP.own (OwnN.mk hS 0 rfl rfl hq hcap)⟩
            ·
             exact absurd hc (by rw [e9]; simp)
           ·
            have n9 : ¬ op = 9 := by simpa using hc
            refine gS (gR ?_)
            refine gBi bEq ?_
            refine gAs ?_
            refine gE ?_
            refine GoH.cond rfl (fun hc => ?_) (fun hc => ?_)
            ·
             have e11 : op = 11 := by simpa using hc
             refine gK ?_
             refine GoH.cond rfl (fun hc => ?_) (fun hc => ?_)
             ·
              subst e11
              refine GoH.exit rfl (gS (gS (gR ?_)))
              refine gMv ?_
              refine GoH.callP rfl rfl rfl rfl rfl (fun _ _ => Try.call81 _ _) (fun w _ hS => (by exact isT_c a ta 1 w (hA rfl hS.ext) (h rfl))) ?_
              refine gE ?_
              refine GoH.cond rfl (fun hc => ?_) (fun hc => ?_)
              ·
               have k15 : isT ta 1 = true := by simpa using hc
               refine gS (gR ?_)
               refine GoH.callM _ rfl rfl rfl rfl rfl (fun _ _ => Try.call82 _ _) (fun w _ hS => (by exact true_c w)) ?_
               rintro v w1 w2 Y' hS he ho
               rw [cT_bT (.inl rfl)] at ho
               obtain ⟨q, cap, sp, rfl, hq, hcap, hS'⟩ := gainN hS he ho
               refine ⟨_, hS', ?_⟩
               refine gAs ?_
               refine gE ?_
               refine GoH.ret Try.f41 Try.func41 rfl (fun w' hS => ?_)
               exact ⟨hS.ext, by rw [sim11, if_pos k15]; exact RvP.own (OwnN.mk hS 0 rfl rfl hq hcap)⟩
              ·
               have k15 : isT ta 1 = false := by simpa using hc
               refine gK (GoH.exit rfl (gS (gR ?_)))
               refine GoH.v (Vop.ldB rfl rfl rfl rfl Try.isAgg49 0 rfl Try.sizeOf49 rfl) ?_
               iterate 2 refine gMv ?_
               refine GoH.callM _ rfl rfl rfl rfl rfl (fun _ _ => Try.call51 _ _) (fun w _ hS => (by exact rbuild0_c 11 i e g x y a b ta tb w hop hf (ha.ex0 hS.ext) (hb.ex0 hS.ext))) ?_
               rintro v w1 w2 Y' hS he ho
               obtain ⟨q, cap, sp, rfl, hq, hcap, hS'⟩ := gainN hS he ho
               refine ⟨_, hS', ?_⟩
               refine gAs ?_
               refine gE ?_
               refine GoH.ret Try.f41 Try.func41 rfl (fun w' hS => ?_)
               exact ⟨hS.ext, by rw [sim11, if_neg (by simp [k15])]; exact RvP.own (OwnN.mk hS 0 rfl rfl hq hcap)⟩
             ·
              exact absurd hc (by rw [e11]; simp)
            ·
             have n11 : ¬ op = 11 := by simpa using hc
             refine gS (gR ?_)
             refine gBi bEq ?_
             refine gAs ?_
             refine gE ?_
             refine GoH.cond rfl (fun hc => ?_) (fun hc => ?_)
             ·
              have e12 : op = 12 := by simpa using hc
              refine gK ?_
              refine GoH.cond rfl (fun hc => ?_) (fun hc => ?_)
              ·
               subst e12
               refine GoH.exit rfl (gS (gS (gR ?_)))
               refine gMv ?_
               refine GoH.callP rfl rfl rfl rfl rfl (fun _ _ => Try.call81 _ _) (fun w _ hS => (by exact isT_c a ta 1 w (hA rfl hS.ext) (h rfl))) ?_
               refine gE ?_
               refine GoH.cond rfl (fun hc => ?_) (fun hc => ?_)
               ·
                have k16 : isT ta 1 = true := by simpa using hc
                refine gS (gR ?_)
                refine GoH.callM _ rfl rfl rfl rfl rfl (fun _ _ => Try.call82 _ _) (fun w _ hS => (by exact true_c w)) ?_
                rintro v w1 w2 Y' hS he ho
                rw [cT_bT (.inl rfl)] at ho
                obtain ⟨q, cap, sp, rfl, hq, hcap, hS'⟩ := gainN hS he ho
                refine ⟨_, hS', ?_⟩
                refine gAs ?_
                refine gE ?_
                refine GoH.ret Try.f41 Try.func41 rfl (fun w' hS => ?_)
                exact ⟨hS.ext, by rw [sim12, if_pos k16]; exact RvP.own (OwnN.mk hS 0 rfl rfl hq hcap)⟩
               ·
                have k16 : isT ta 1 = false := by simpa using hc
                refine gK (GoH.exit rfl (gS (gR ?_)))
                refine GoH.v (Vop.ldB rfl rfl rfl rfl Try.isAgg49 0 rfl Try.sizeOf49 rfl) ?_
                iterate 2 refine gMv ?_
                refine GoH.callM _ rfl rfl rfl rfl rfl (fun _ _ => Try.call51 _ _) (fun w _ hS => (by exact rbuild0_c 12 i e g x y a b ta tb w hop hf (ha.ex0 hS.ext) (hb.ex0 hS.ext))) ?_
                rintro v w1 w2 Y' hS he ho
                obtain ⟨q, cap, sp, rfl, hq, hcap, hS'⟩ := gainN hS he ho
                refine ⟨_, hS', ?_⟩
                refine gAs ?_
                refine gE ?_
                refine GoH.ret Try.f41 Try.func41 rfl (fun w' hS => ?_)
                exact ⟨hS.ext, by rw [sim12, if_neg (by simp [k16])]; exact RvP.own (OwnN.mk hS 0 rfl rfl hq hcap)⟩
              ·
               exact absurd hc (by rw [e12]; simp)
             ·
              have n12 : ¬ op = 12 := by simpa using hc
              refine gS (gR ?_)
              refine gBi bEq ?_
              refine gAs ?_
              refine gE ?_
              refine GoH.cond rfl (fun hc => ?_) (fun hc => ?_)
              ·
               have e15 : op = 15 := by simpa using hc
               refine gK ?_
               refine GoH.cond rfl (fun hc => ?_) (fun hc => ?_)
               ·
                subst e15
                refine GoH.exit rfl (gS (gS (gR ?_)))
                refine gMv ?_
                refine GoH.callP rfl rfl rfl rfl rfl (fun _ _ => Try.call81 _ _) (fun w _ hS => (by exact isT_c a ta 1 w (hA rfl hS.ext) (h rfl))) ?_
                refine gE ?_
                refine GoH.cond rfl (fun hc => ?_) (fun hc => ?_)
                ·
                 have k17 : isT ta 1 = true := by simpa using hc
                 refine gS (gR ?_)
                 refine GoH.callM _ rfl rfl rfl rfl rfl (fun _ _ => Try.call82 _ _) (fun w _ hS => (by exact true_c w)) ?_
                 rintro v w1 w2 Y' hS he ho
                 rw [cT_bT (.inl rfl)] at ho
                 obtain ⟨q, cap, sp, rfl, hq, hcap, hS'⟩ := gainN hS he ho
                 refine ⟨_, hS', ?_⟩
                 refine gAs ?_
                 refine gE ?_
                 refine GoH.ret Try.f41 Try.func41 rfl (fun w' hS => ?_)
                 exact ⟨hS.ext, by rw [sim15, if_pos k17]; exact RvP.own (OwnN.mk hS 0 rfl rfl hq hcap)⟩
                ·
                 have k17 : isT ta 1 = false := by simpa using hc
                 refine gK (GoH.exit rfl (gS (gR ?_)))
                 refine GoH.v (Vop.ldB rfl rfl rfl rfl Try.isAgg49 0 rfl Try.sizeOf49 rfl) ?_
                 iterate 2 refine gMv ?_
                 refine GoH.callM _ rfl rfl rfl rfl rfl (fun _ _ => Try.call51 _ _) (fun w _ hS => (by exact rbuild0_c 15 i e g x y a b ta tb w hop hf (ha.ex0 hS.ext) (hb.ex0 hS.ext))) ?_
                 rintro v w1 w2 Y' hS he ho
                 obtain ⟨q, cap, sp, rfl, hq, hcap, hS'⟩ := gainN hS he ho
                 refine ⟨_, hS', ?_⟩
                 refine gAs ?_
                 refine gE ?_
                 refine GoH.ret Try.f41 Try.func41 rfl (fun w' hS => ?_)
                 exact ⟨hS.ext, by rw [sim15, if_neg (by simp [k17])]; exact RvP.own (OwnN.mk hS 0 rfl rfl hq hcap)⟩
               ·
                exact absurd hc (by rw [e15]; simp)
              ·
               have n15 : ¬ op = 15 := by simpa using hc
               refine gR ?_
               refine gBi bEq ?_
               refine gAs ?_
               refine gE ?_
               refine GoH.cond rfl (fun hc => ?_) (fun hc => ?_)
               ·
                have e17 : op = 17 := by simpa using hc
                subst e17
                refine GoH.exit rfl (gS (gS (gR ?_)))
                refine gMv ?_
                refine GoH.callP rfl rfl rfl rfl rfl (fun _ _ => Try.call81 _ _) (fun w _ hS => (by exact isT_c a ta 1 w (hA rfl hS.ext) (h rfl))) ?_
                refine gE ?_
                refine GoH.cond rfl (fun hc => ?_) (fun hc => ?_)
                ·
                 have k18 : isT ta 1 = true := by simpa using hc
                 refine gS (gR ?_)
                 refine GoH.callM _ rfl rfl rfl rfl rfl (fun _ _ => Try.call82 _ _) (fun w _ hS => (by exact true_c w)) ?_
                 rintro v w1 w2 Y' hS he ho
                 rw [cT_bT (.inl rfl)] at ho
                 obtain ⟨q, cap, sp, rfl, hq, hcap, hS'⟩ := gainN hS he ho
                 refine ⟨_, hS', ?_⟩
                 refine gAs ?_
                 refine gE ?_
                 refine GoH.ret Try.f41 Try.func41 rfl (fun w' hS => ?_)
                 exact ⟨hS.ext, by rw [sim17, if_pos k18]; exact RvP.own (OwnN.mk hS 0 rfl rfl hq hcap)⟩
                ·
                 have k18 : isT ta 1 = false := by simpa using hc
                 refine gK (GoH.exit rfl (gS (gR ?_)))
                 refine GoH.v (Vop.ldB rfl rfl rfl rfl Try.isAgg49 0 rfl Try.sizeOf49 rfl) ?_
                 iterate 2 refine gMv ?_
                 refine GoH.callM _ rfl rfl rfl rfl rfl (fun _ _ => Try.call51 _ _) (fun w _ hS => (by exact rbuild0_c 17 i e g x y a b ta tb w hop hf (ha.ex0 hS.ext) (hb.ex0 hS.ext))) ?_
                 rintro v w1 w2 Y' hS he ho
                 obtain ⟨q, cap, sp, rfl, hq, hcap, hS'⟩ := gainN hS he ho
                 refine ⟨_, hS', ?_⟩
                 refine gAs ?_
                 refine gE ?_
                 refine GoH.ret Try.f41 Try.func41 rfl (fun w' hS => ?_)
                 exact ⟨hS.ext, by rw [sim17, if_neg (by simp [k18])]; exact RvP.own (OwnN.mk hS 0 rfl rfl hq hcap)⟩
               ·
                have n17 : ¬ op = 17 := by simpa using hc
                have hsq : simT op i e g ta tb = mkQ op i e g ta tb := by simp [simT, n4, n5, n6, n7, n8, n10, n16, n13, n14, n9, n11, n12, n15, n17]
                refine gK (GoH.exit rfl (gS (gR ?_)))
                refine GoH.v (Vop.ldB rfl rfl rfl rfl Try.isAgg49 0 rfl Try.sizeOf49 rfl) ?_
                iterate 2 refine gMv ?_
                refine GoH.callM _ rfl rfl rfl rfl rfl (fun _ _ => Try.call51 _ _) (fun w _ hS => (by exact rbuild0_c op i e g x y a b ta tb w hop hf (ha.ex0 hS.ext) (hb.ex0 hS.ext))) ?_
                rintro v w1 w2 Y' hS he ho
                obtain ⟨q, cap, sp, rfl, hq, hcap, hS'⟩ := gainN hS he ho
                refine ⟨_, hS', ?_⟩
                refine gAs ?_
                refine gE ?_
                refine GoH.ret Try.f41 Try.func41 rfl (fun w' hS => ?_)
                exact ⟨hS.ext, by rw [hsq]; exact RvP.own (OwnN.mk hS 0 rfl rfl hq hcap)⟩
theorem simple_r (w : World) : RulC Try.prog 49 simT 41 [] w :=
  ⟨(fun _ _ => Try.call41 _ _), fun w _ n a b ta tb h1 h2 ha hb hna hnb => simple_c n.op n.i n.e n.g n.x n.y a b ta tb w h1 h2 ha hb hna hnb⟩
end Go.Proofs.Ytkoipdlkkchmiaa
