/- What calls of the program return, under the conditions that each theorem states. -/
import Derived.Test.YtkoipdlkkchmiaaD24
import Derived.Test.YtkoipdlkkchmiaaD32
import Derived.Test.YtkoipdlkkchmiaaD34
import Derived.Test.YtkoipdlkkchmiaaD35
import Derived.Test.YtkoipdlkkchmiaaD03
import Derived.Test.YtkoipdlkkchmiaaD28
import Derived.Test.YtkoipdlkkchmiaaD30
namespace Go.Proofs.Ytkoipdlkkchmiaa
open Go.RowKit Go.Proofs.Wit
/-! the subformulas that are not propositional -/
set_option maxRecDepth 8000 in
theorem modal_c (a : Option Addr) (ca : Nat) (f : List NV) (w : World) (ha : FA w a f) (hl : f.length ≤ maxLen) : Cn Try.prog 25 [.slice a f.length ca] w (fun v w' => ∃ sv gs e, v = .tuple #[sv, .int .i64 e] ∧ OwnL 49 22 w w' sv gs ∧ MoP f (gs.map FV.f) e) := by
  obtain ⟨i1, hi1, hz1, hsz1, hby1⟩ := info_parts infoNs
  refine Cn.of Try.func25 rfl rfl ?_
  refine gS (gR ?_)
  iterate 2 refine gAs ?_
  refine gE (gS (gS (gR ?_)))
  refine gMv ?_
  refine GoH.callP rfl rfl rfl rfl rfl (fun _ _ => Try.call48 _ _) (fun w _ hS => (by exact fcheck_c a ca f w (ha.ex0 hS.ext) hl)) ?_
  refine gAs ?_
  refine gE (gS (gR ?_))
  refine gMv ?_
  refine gBi bNe ?_
  refine gE ?_
  refine GoH.cond rfl (fun hc => ?_) (fun hc => ?_)
  ·
   have h1 : chkF f ≠ 0 := by simpa using hc
   refine gS (gR ?_)
   refine gMv ?_
   iterate 2 refine gAs ?_
   refine gE ?_
   refine GoH.ret Try.f25 Try.func25 rfl (fun w' hS => ?_)
   exact ⟨hS.ext, _, [], _, rfl, OwnL.nil0, .inl ⟨h1, rfl, rfl⟩⟩
  ·
   have h0 : chkF f = 0 := by simpa using hc
   have hT := (chkF_zero.1 h0).top
   have hcl := (compF_ok h0).len
   rw [compF_eq h0] at hcl
   refine gK (gS (gR ?_))
   refine gAs ?_
   refine gE (gS (gS (gR ?_)))
   refine gMv ?_
   refine GoH.callM _ rfl rfl rfl rfl rfl (fun _ _ => Try.call59 _ _) (fun w _ hS => (by exact subs_c a ca f w (ha.ex0 hS.ext) hl)) ?_
   rintro v w1 w2 Y' hS he ⟨us, ⟨qs, caps, sps, Hs, rfl, hqs, hcaps, hnew, hus⟩, hue⟩
   refine ⟨_, hS.gainPre (pre := [_]) he hnew, ?_⟩
   refine gBl Try.underlying29 ?_
   refine gMv ?_
   refine gE (gB ?_)
   have hU : ClIs 49 Hs us (subT (topT f)) := ⟨hue h0, subs_cf hT hcl, hus⟩
   have hul : us.length ≤ 200 := by rw [hU.len, ← canT_len]; exact hcl
   refine GoH.addNone (ob FV.v 22 [] []) ?_
   refine GoH.pickT (pre := [_, _]) (pre' := [(qs, ob FV.v 22 us sps), (none, ob FV.v 22 [] [])]) Hs [1, 0] (by decide) rfl ?_
   refine GoH.loop (σ := Nat × Option Nat × Nat × List FV × List Value) (fun z => [(5, osv z.2.1 z.2.2.2.1.length z.2.2.1), (14, osv qs us.length caps), (15, .int .i64 us.length), (16, .int .i64 z.1)])
     (fun z => [(qs, ob FV.v 22 us sps), (z.2.1, ob FV.v 22 z.2.2.2.1 z.2.2.2.2)] ++ Hs)
     (fun z => z.1 ≤ us.length ∧ z.2.2.2.1.length ≤ z.1 ∧ (z.2.1 = none → z.2.2.2.1.length = 0 ∧ z.2.2.1 = 0) ∧ (z.2.2.2.1.map FV.v ++ z.2.2.2.2).length = z.2.2.1 ∧ ClIs 49 Hs z.2.2.2.1 (moF ((subT (topT f)).take z.1)))
     (fun z => us.length - z.1) (0, none, 0, [], []) ⟨Nat.zero_le _, Nat.le_refl _, fun _ => ⟨rfl, rfl⟩, rfl, ClIs.nil⟩ ⟨rfl, rfl, rfl, rfl, trivial⟩ (List.Sublist.refl _) (fun z hI IH => ?_)
   obtain ⟨i, q, cap, gs, sp⟩ := z
   obtain ⟨hi, hgl, hq, hcap, hG⟩ := hI
   dsimp only at hi hgl hq hcap hG IH ⊢
   refine gS (gR ?_)
   refine gBi bLt ?_
   refine gE (gS ?_)
   refine GoH.cond rfl (fun hc => ?_) (fun hc => ?_)
   ·
    have hm : i < us.length := by simp at hc; omega
    have hms : i < (subT (topT f)).length := by have := hU.len; omega
    obtain ⟨bs, rfl⟩ : ∃ b, qs = some b := by
      cases qs with
      | none => have := (hqs rfl).1; omega
      | some b => exact ⟨b, rfl⟩
    obtain ⟨x, hx⟩ : ∃ x, x = us.getD i FV.z := ⟨_, rfl⟩
    obtain ⟨u, hu⟩ : ∃ u, u = (subT (topT f))[i] := ⟨_, rfl⟩
    have hxi : x = us[i] := by rw [hx, getD_lt hm]
    have hxc : Cf x.f u := by rw [hxi, hu]; exact hU.at hm
    have hxin : x.In 49 Hs := by rw [hxi]; exact hU.in_ _ (List.getElem_mem hm)
    have htk : (subT (topT f)).take (i + 1) = (subT (topT f)).take i ++ [u] := by rw [List.take_succ_eq_append_getElem hms, hu]
    obtain ⟨bx, hbx⟩ := hxin.blk hxc.pos
    obtain ⟨xa, xc, xf⟩ := x
    obtain rfl : xa = some ⟨bx, 0, none⟩ := hbx
    have hpx : 0 < xf.length := hxc.pos
    have hlx : xf.length ≤ 200 := hxc.le
    have hlast := Cf.last (f := xf) hxc (by omega)
    have hlt : xf.length - 1 < xf.length := by omega
    refine gK (gS (gB (gS (gR ?_))))
    refine GoH.v (Vop.idxS rfl rfl rfl rfl rfl Try.underlying29 Try.sizeOf22 (i) ⟨rfl, hm⟩) ?_
    skip
    refine GoH.v (Vop.ldE FV.v FV.z rfl rfl rfl rfl Try.isAgg22 0 rfl hm) ?_
    rw [← hx]
    refine gAs ?_
    refine gE (gS (gR ?_))
    iterate 2 refine gMv ?_
    refine gBl Try.underlying22 ?_
    refine GoH.v (Vop.bin rfl rfl rfl rfl (bSubE (c := ((xf.length - 1 : Nat) : Int)) (by dsimp only; omega) (by omega)) rfl) ?_
    refine GoH.v (Vop.idxS rfl rfl rfl rfl rfl Try.underlying22 Try.sizeOf49 (xf.length - 1) ⟨rfl, hlt⟩) ?_
    refine GoH.v (Vop.fldA (a := some ⟨bx, 0, none⟩) (o := (xf.length - 1) * 6) rfl rfl rfl rfl Try.underlying49 rfl Try.sizeOf3 ((xf.length - 1) * 6 + 0) rfl) ?_
    refine GoH.v (Vop.ld rfl rfl rfl rfl Try.isAgg3 (fun w _ hS => Sl.fld (enc := NV.cells) (sz := 6) ((hxin.mono (List.subset_append_right [_, _] Hs)).at hS).at_ (fun _ => rfl) hlt rfl)) ?_
    refine gBi bGt ?_
    refine gE ?_
    refine GoH.cond rfl (fun hc => ?_) (fun hc => ?_)
    ·
     have h8 : 8 < topO u := by rw [← hlast.1]; simp at hc; omega
     have hmo : moF ((subT (topT f)).take (i + 1)) = moF ((subT (topT f)).take i) ++ [u] := by rw [htk]; exact moF_in h8
     refine gR ?_
     iterate 2 refine gMv ?_
     refine GoH.bsN (c := [_]) rfl rfl rfl rfl Try.underlying29 Try.sizeOf22 Try.zeroValue22 rfl rfl (fun b30 => ?_)
     refine GoH.appE FV.v (news := [⟨some ⟨bx, 0, none⟩, xc, xf⟩]) (spn := []) (xs := gs) (sp := sp) (q := q) rfl rfl rfl rfl rfl Try.underlying29 hi1 hz1 hsz1 rfl hq 2 rfl 0 rfl hcap rfl (by decide) (fun _ => rfl) (by simp [maxLen]; omega) (by simp [hby1]; omega) (fun b' sp' cap' hlen => ?_)
     refine gAs ?_
     refine gE (gIb (gR ?_))
     refine GoH.v (Vop.bin rfl rfl rfl rfl (bAdd (by omega)) rfl) ?_
     refine gMv ?_
     refine gE ?_
     refine IH (i + 1, some b', cap', gs ++ [⟨some ⟨bx, 0, none⟩, xc, xf⟩], sp') _ _ ⟨hm, by simp; omega, (fun e => by cases e), hlen, by dsimp only; rw [hmo]; exact hG.snoc hxc hxin⟩ (by dsimp only; omega) ⟨rfl, rfl, rfl, rfl, trivial⟩ (.cons _ (List.Sublist.refl _))
    ·
     have h8 : ¬ 8 < topO u := by rw [← hlast.1]; simp at hc; omega
     have hmo : moF ((subT (topT f)).take (i + 1)) = moF ((subT (topT f)).take i) := by rw [htk]; exact moF_out h8
     refine gK (gIb (gR ?_))
     refine GoH.v (Vop.bin rfl rfl rfl rfl (bAdd (by omega)) rfl) ?_
     refine gMv ?_
     refine gE ?_
     refine IH (i + 1, q, cap, gs, sp) _ _ ⟨hm, by dsimp only; omega, hq, hcap, by dsimp only; rw [hmo]; exact hG⟩ (by dsimp only; omega) ⟨rfl, rfl, rfl, rfl, trivial⟩ (List.Sublist.refl _)
   ·
    have hge : ¬ i < us.length := by simp at hc; omega
    obtain rfl : i = us.length := by omega
    have htk : (subT (topT f)).take us.length = subT (topT f) := by rw [hU.len, List.take_length]
    rw [htk] at hG
    refine GoH.exit rfl (gS (gR ?_))
    refine gMv ?_
    iterate 2 refine gAs ?_
    refine gE ?_
    refine GoH.ret Try.f25 Try.func25 rfl (fun w' hS => ?_)
    exact ⟨hS.ext, _, gs, 0, rfl, OwnL.mk hS (.cons _ (List.Sublist.refl _)) hq hcap hG.in_, .inr ⟨h0, hG.eq, rfl⟩⟩
set_option maxRecDepth 8000 in
theorem rmodal_c (a : Option Addr) (ca : Nat) (f : List NV) (w : World) (ha : FA w a f) (hl : f.length ≤ maxLen) : Cn Try.prog 26 [.slice a f.length ca] w (fun v w' => ∃ sv gs e, v = .tuple #[sv, .int .i64 e] ∧ OwnL 49 22 w w' sv gs ∧ MoP f (gs.map FV.f) e) := by
  obtain ⟨i1, hi1, hz1, hsz1, hby1⟩ := info_parts infoNs
  refine Cn.of Try.func26 rfl rfl ?_
  refine gS (gR ?_)
  iterate 2 refine gAs ?_
  refine gE (gS (gS (gR ?_)))
  refine gMv ?_
  refine GoH.callP rfl rfl rfl rfl rfl (fun _ _ => Try.call17 _ _) (fun w _ hS => (by exact rchk_c a ca f w (ha.ex0 hS.ext) hl)) ?_
  refine gAs ?_
  refine gE (gS (gR ?_))
  refine gMv ?_
  refine gBi bNe ?_
  refine gE ?_
  refine GoH.cond rfl (fun hc => ?_) (fun hc => ?_)
  ·
   have h1 : chkF f ≠ 0 := by simpa using hc
   refine gS (gR ?_)
   refine gMv ?_
   iterate 2 refine gAs ?_
   refine gE ?_
   refine GoH.ret Try.f26 Try.func26 rfl (fun w' hS => ?_)
   exact ⟨hS.ext, _, [], _, rfl, OwnL.nil0, .inl ⟨h1, rfl, rfl⟩⟩
  ·
   have h0 : chkF f = 0 := by simpa using hc
   have hT := (chkF_zero.1 h0).top
   have hcl := (compF_ok h0).len
   rw [compF_eq h0] at hcl
   refine gK (gS (gR ?_))
   refine gAs ?_
   refine gE (gS (gS (gR ?_)))
   refine gMv ?_
   refine GoH.callM _ rfl rfl rfl rfl rfl (fun _ _ => Try.call24 _ _) (fun w _ hS => (by exact rsubs_c a ca f w (ha.ex0 hS.ext) hl)) ?_
   rintro v w1 w2 Y' hS he ⟨us, ⟨qs, caps, sps, Hs, rfl, hqs, hcaps, hnew, hus⟩, hue⟩
   refine ⟨_, hS.gainPre (pre := [_]) he hnew, ?_⟩
   refine gBl Try.underlying29 ?_
   refine gMv ?_
   refine gE (gB ?_)
   have hU : ClIs 49 Hs us (subT (topT f)) := ⟨hue h0, subs_cf hT hcl, hus⟩
   have hul : us.length ≤ 200 := by rw [hU.len, ← canT_len]; exact hcl
   refine GoH.addNone (ob FV.v 22 [] []) ?_
   refine GoH.pickT (pre := [_, _]) (pre' := [(qs, ob FV.v 22 us sps), (none, ob FV.v 22 [] [])]) Hs [1, 0] (by decide) rfl ?_
   refine GoH.loop (σ := Nat × Option Nat × Nat × List FV × List Value) (fun z => [(5, osv z.2.1 z.2.2.2.1.length z.2.2.1), (14, osv qs us.length caps), (15, .int .i64 us.length), (16, .int .i64 z.1)])
     (fun z => [(qs, ob FV.v 22 us sps), (z.2.1, ob FV.v 22 z.2.2.2.1 z.2.2.2.2)] ++ Hs)
     (fun z => z.1 ≤ us.length ∧ z.2.2.2.1.length ≤ z.1 ∧ (z.2.1 = none → z.2.2.2.1.length = 0 ∧ z.2.2.1 = 0) ∧ (z.2.2.2.1.map FV.v ++ z.2.2.2.2).length = z.2.2.1 ∧ ClIs 49 Hs z.2.2.2.1 (moF ((subT (topT f)).take z.1)))
     (fun z => us.length - z.1) (0, none, 0, [], []) ⟨Nat.zero_le _, Nat.le_refl _, fun _ => ⟨rfl, rfl⟩, rfl, ClIs.nil⟩ ⟨rfl, rfl, rfl, rfl, trivial⟩ (List.Sublist.refl _) (fun z hI IH => ?_)
   obtain ⟨i, q, cap, gs, sp⟩ := z
   obtain ⟨hi, hgl, hq, hcap, hG⟩ := hI
   dsimp only at hi hgl hq hcap hG IH ⊢
   refine gS (gR ?_)
   refine gBi bLt ?_
   refine gE (gS ?_)
   refine GoH.cond rfl (fun hc => ?_) (fun hc => ?_)
   ·
    have hm : i < us.length := by simp at hc; omega
    have hms : i < (subT (topT f)).length := by have := hU.len; omega
    obtain ⟨bs, rfl⟩ : ∃ b, qs = some b := by
      cases qs with
      | none => have := (hqs rfl).1; omega
      | some b => exact ⟨b, rfl⟩
    obtain ⟨x, hx⟩ : ∃ x, x = us.getD i FV.z := ⟨_, rfl⟩
    obtain ⟨u, hu⟩ : ∃ u, u = (subT (topT f))[i] := ⟨_, rfl⟩
    have hxi : x = us[i] := by rw [hx, getD_lt hm]
    have hxc : Cf x.f u := by rw [hxi, hu]; exact hU.at hm
    have hxin : x.In 49 Hs := by rw [hxi]; exact hU.in_ _ (List.getElem_mem hm)
    have htk : (subT (topT f)).take (i + 1) = (subT (topT f)).take i ++ [u] := by rw [List.take_succ_eq_append_getElem hms, hu]
    obtain ⟨bx, hbx⟩ := hxin.blk hxc.pos
    obtain ⟨xa, xc, xf⟩ := x
    obtain rfl : xa = some ⟨bx, 0, none⟩ := hbx
    have hpx : 0 < xf.length := hxc.pos
    have hlx : xf.length ≤ 200 := hxc.le
    have hlast := Cf.last (f := xf) hxc (by omega)
    have hlt : xf.length - 1 < xf.length := by omega
    refine gK (gS (gB (gS (gR ?_))))
    refine GoH.v (Vop.idxS rfl rfl rfl rfl rfl Try.underlying29 Try.sizeOf22 (i) ⟨rfl, hm⟩) ?_
    skip
    refine GoH.v (Vop.ldE FV.v FV.z rfl rfl rfl rfl Try.isAgg22 0 rfl hm) ?_
    rw [← hx]
    refine gAs ?_
    refine gE (gS (gR ?_))
    refine gMv ?_
    refine GoH.callP rfl rfl rfl rfl rfl (fun _ _ => Try.call62 _ _) (fun w _ hS => (by exact top_c (some ⟨bx, 0, none⟩) xc xf u w ((hxin.mono (List.subset_append_right [_, _] Hs)).at hS) hxc)) ?_
    refine gBi bGe ?_
    refine gE ?_
    refine GoH.cond rfl (fun hc => ?_) (fun hc => ?_)
    ·
     have h8 : 8 < topO u := by simp at hc; omega
     have hmo : moF ((subT (topT f)).take (i + 1)) = moF ((subT (topT f)).take i) ++ [u] := by rw [htk]; exact moF_in h8
     refine gR ?_
     iterate 2 refine gMv ?_
     refine GoH.bsN (c := [_]) rfl rfl rfl rfl Try.underlying29 Try.sizeOf22 Try.zeroValue22 rfl rfl (fun b25 => ?_)
     refine GoH.appE FV.v (news := [⟨some ⟨bx, 0, none⟩, xc, xf⟩]) (spn := []) (xs := gs) (sp := sp) (q := q) rfl rfl rfl rfl rfl Try.underlying29 hi1 hz1 hsz1 rfl hq 2 rfl 0 rfl hcap rfl (by decide) (fun _ => rfl) (by simp [maxLen]; omega) (by simp [hby1]; omega) (fun b' sp' cap' hlen => ?_)
     refine gAs ?_
     refine gE (gIb (gR ?_))
     refine GoH.v (Vop.bin rfl rfl rfl rfl (bAdd (by omega)) rfl) ?_
     refine gMv ?_
     refine gE ?_
     refine IH (i + 1, some b', cap', gs ++ [⟨some ⟨bx, 0, none⟩, xc, xf⟩], sp') _ _ ⟨hm, by simp; omega, (fun e => by cases e), hlen, by dsimp only; rw [hmo]; exact hG.snoc hxc hxin⟩ (by dsimp only; omega) ⟨rfl, rfl, rfl, rfl, trivial⟩ (.cons _ (List.Sublist.refl _))
    ·
     have h8 : ¬ 8 < topO u := by simp at hc; omega
     have hmo : moF ((subT (topT f)).take (i + 1)) = moF ((subT (topT f)).take i) := by rw [htk]; exact moF_out h8
     refine gK (gIb (gR ?_))
     refine GoH.v (Vop.bin rfl rfl rfl rfl (bAdd (by omega)) rfl) ?_
     refine gMv ?_
     refine gE ?_
     refine IH (i + 1, q, cap, gs, sp) _ _ ⟨hm, by dsimp only; omega, hq, hcap, by dsimp only; rw [hmo]; exact hG⟩ (by dsimp only; omega) ⟨rfl, rfl, rfl, rfl, trivial⟩ (List.Sublist.refl _)
   ·
    have hge : ¬ i < us.length := by simp at hc; omega
    obtain rfl : i = us.length := by omega
    have htk : (subT (topT f)).take us.length = subT (topT f) := by rw [hU.len, List.take_length]
    rw [htk] at hG
    refine GoH.exit rfl (gS (gR ?_))
    refine gMv ?_
    iterate 2 refine gAs ?_
    refine gE ?_
    refine GoH.ret Try.f26 Try.func26 rfl (fun w' hS => ?_)
    exact ⟨hS.ext, _, gs, 0, rfl, OwnL.mk hS (.cons _ (List.Sublist.refl _)) hq hcap hG.in_, .inr ⟨h0, hG.eq, rfl⟩⟩
end Go.Proofs.Ytkoipdlkkchmiaa
namespace Go.Proofs.Ytkoipdlkkchmiaa
open Go.RowKit Go.Proofs.Wit
/-! the reference's closures; equality of lists of formulas -/
theorem rcontains_c (A : Option Addr) (cA : Nat) (gs : List FV) (x : FV) (u : Tr) (w : World) (hA : SlG w A gs) (hfa : ∀ g ∈ gs, FA w g.a g.f ∧ ∃ t, Cf g.f t) (hx : FA w x.a x.f) (hxc : Cf x.f u) (hGl : gs.length ≤ maxLen) :
    Cn Try.prog 63 [.slice A gs.length cA, x.v] w (fun v _ => v = .bool (gs.any (fun y => decide (x.f = y.f)))) := by
  unfold maxLen at hGl
  refine Cn.of Try.func63 rfl rfl ?_
  refine gS (gR ?_)
  refine gAs ?_
  refine gE (gS (gS (gR ?_)))
  refine gMv ?_
  refine gBl Try.underlying29 ?_
  refine gMv ?_
  refine gE (gB ?_)
  refine GoH.loop (σ := Nat) (fun k => [(1, x.v), (7, .slice A gs.length cA), (8, .int .i64 gs.length), (9, .int .i64 k)]) (fun _ => []) (fun k => k ≤ gs.length ∧ ∀ g ∈ gs.take k, ¬ x.f = g.f) (fun k => gs.length - k) 0 ⟨Nat.zero_le _, fun g hg => by simp at hg⟩ ⟨rfl, rfl, rfl, rfl, trivial⟩ .slnil (fun k hI IH => ?_)
  obtain ⟨hk, hno⟩ := hI
  refine gS (gR ?_)
  refine gBi bLt ?_
  refine gE (gS ?_)
  refine GoH.cond rfl (fun hc => ?_) (fun hc => ?_)
  ·
   have hlt : k < gs.length := by simpa using hc
   have hmem : gs[k] ∈ gs := List.getElem_mem hlt
   obtain ⟨hgf, t, hgt⟩ := hfa _ hmem
   refine gK (gS (gB (gS (gR ?_))))
   refine GoH.v (Vop.idx rfl rfl rfl rfl rfl Try.underlying29 Try.sizeOf22 ⟨_, hA⟩ (by simp) (k) ⟨rfl, by simpa using hlt⟩) ?_
   refine GoH.v (Vop.ld rfl rfl rfl rfl Try.isAgg22 (fun w _ hS => (SlG.ex0 hA hS.ext).at (k) hlt)) ?_
   refine gAs ?_
   refine gE (gS (gR ?_))
   iterate 2 refine gMv ?_
   refine GoH.callP rfl rfl rfl rfl rfl (fun _ _ => Try.call22 _ _) (fun w _ hS => (by exact rsame_t gs[k] x t u w (hgf.ex0 hS.ext) (hx.ex0 hS.ext) hgt hxc)) ?_
   refine gE ?_
   refine GoH.cond rfl (fun hc => ?_) (fun hc => ?_)
   ·
    have h1 : t = u := by simpa using hc
    refine gS (gR ?_)
    refine gAs ?_
    refine gE ?_
    refine GoH.ret Try.f63 Try.func63 rfl (fun w' hS => ?_)
    refine ⟨hS.ext, ?_⟩
    have : gs.any (fun y => decide (x.f = y.f)) = true := List.any_eq_true.2 ⟨_, hmem, by simpa using (hxc.inj hgt).2 h1.symm⟩
    rw [this]; rfl
   ·
    have h1 : ¬ t = u := by simpa using hc
    refine gK (gIb (gR ?_))
    refine GoH.v (Vop.bin rfl rfl rfl rfl (bAdd (by omega)) rfl) ?_
    refine gMv ?_
    refine gE ?_
    refine IH (k + 1) _ _ ⟨hlt, fun g hg => ?_⟩ (by omega) ⟨rfl, rfl, rfl, rfl, trivial⟩ .slnil
    rw [List.take_succ_eq_append_getElem hlt] at hg
    rcases List.mem_append.1 hg with hg | hg
    · exact hno g hg
    · rw [List.mem_singleton.1 hg]; exact fun e => h1 ((hxc.inj hgt).1 e).symm
  ·
   have hge : ¬ k < gs.length := by simpa using hc
   obtain rfl : k = gs.length := by omega
   rw [List.take_length] at hno
   refine GoH.exit rfl (gS (gR ?_))
   refine gAs ?_
   refine gE ?_
   refine GoH.ret Try.f63 Try.func63 rfl (fun w' hS => ?_)
   refine ⟨hS.ext, ?_⟩
   have : gs.any (fun y => decide (x.f = y.f)) = false := List.any_eq_false.2 (fun y hy => by simpa using hno y hy)
   rw [this]; rfl
theorem sameLists_c (A : Option Addr) (cA : Nat) (gs : List FV) (B : Option Addr) (cB : Nat) (hs : List FV) (w : World) (hA : SlG w A gs) (hB : SlG w B hs) (hfa : ∀ g ∈ gs, FA w g.a g.f ∧ g.f.length ≤ 200) (hfb : ∀ g ∈ hs, FA w g.a g.f) (h : gs.map FV.f = hs.map FV.f) (hGl : gs.length ≤ maxLen) :
    Cn Try.prog 28 [.slice A gs.length cA, .slice B hs.length cB] w (fun v _ => v = .bool true) := by
  unfold maxLen at hGl
  have hlen : hs.length = gs.length := by have := congrArg List.length h; simpa using this.symm
  refine Cn.of Try.func28 rfl rfl ?_
  refine gS (gR ?_)
  refine gAs ?_
  refine gE (gS (gS (gR ?_)))
  refine gMv ?_
  refine gBl Try.underlying29 ?_
  refine gMv ?_
  refine gBl Try.underlying29 ?_
  refine gBi bNe ?_
  refine gE ?_
  refine GoH.cond rfl (fun hc => ?_) (fun hc => ?_)
  ·
   exact absurd hc (by simp [hlen])
  ·
   refine gK (gS (gS (gR ?_)))
   refine gAs ?_
   refine gE (gB ?_)
   refine GoH.loop (σ := Nat) (fun k => [(0, .slice A gs.length cA), (1, .slice B hs.length cB), (5, .int .i64 k)]) (fun _ => []) (fun k => k ≤ gs.length) (fun k => gs.length - k) 0 (Nat.zero_le _) ⟨rfl, rfl, rfl, trivial⟩ .slnil (fun k hk IH => ?_)
   refine gS (gS (gR ?_))
   iterate 2 refine gMv ?_
   refine gBl Try.underlying29 ?_
   refine gBi bLt ?_
   refine gE ?_
   refine GoH.cond rfl (fun hc => ?_) (fun hc => ?_)
   ·
    have hlt : k < gs.length := by simpa using hc
    have hlt2 : k < hs.length := by omega
    have hmem : gs[k] ∈ gs := List.getElem_mem hlt
    have hmem2 : hs[k] ∈ hs := List.getElem_mem hlt2
    have hkk : gs[k].f = hs[k].f := by
      have := congrArg (fun l => l[k]?) h
      simp only [List.getElem?_map, List.getElem?_eq_getElem hlt, List.getElem?_eq_getElem hlt2, Option.map_some, Option.some.injEq] at this
      exact this
    refine gK (gS (gB (gS ?_)))
    refine GoH.drawCh 11 mixed ?_
    refine RdC.v (i := 0) (Vop.mv rfl rfl rfl rfl) rfl rfl (by repeat (first | exact List.Sublist.refl _ | exact List.nil_sublist _ | refine List.Sublist.cons_cons _ ?_ | refine List.Sublist.cons _ ?_)) ?_
    refine RdC.v (i := 1) (Vop.mv rfl rfl rfl rfl) rfl rfl (by repeat (first | exact List.Sublist.refl _ | exact List.nil_sublist _ | refine List.Sublist.cons_cons _ ?_ | refine List.Sublist.cons _ ?_)) ?_
    refine RdC.v (i := 2) (Vop.idx rfl rfl rfl rfl rfl Try.underlying29 Try.sizeOf22 ⟨_, hA⟩ (by simp) (k) ⟨rfl, by simpa using hlt⟩) rfl rfl (by repeat (first | exact List.Sublist.refl _ | exact List.nil_sublist _ | refine List.Sublist.cons_cons _ ?_ | refine List.Sublist.cons _ ?_)) ?_
    refine RdC.v (i := 3) (Vop.ld rfl rfl rfl rfl Try.isAgg22 (fun w _ hS => (SlG.ex0 hA hS.ext).at (k) hlt)) rfl rfl (by repeat (first | exact List.Sublist.refl _ | exact List.nil_sublist _ | refine List.Sublist.cons_cons _ ?_ | refine List.Sublist.cons _ ?_)) ?_
    refine RdC.v (i := 4) (Vop.mv rfl rfl rfl rfl) rfl rfl (by repeat (first | exact List.Sublist.refl _ | exact List.nil_sublist _ | refine List.Sublist.cons_cons _ ?_ | refine List.Sublist.cons _ ?_)) ?_
    refine RdC.v (i := 5) (Vop.mv rfl rfl rfl rfl) rfl rfl (by repeat (first | exact List.Sublist.refl _ | exact List.nil_sublist _ | refine List.Sublist.cons_cons _ ?_ | refine List.Sublist.cons _ ?_)) ?_
    refine RdC.v (i := 6) (Vop.idx rfl rfl rfl rfl rfl Try.underlying29 Try.sizeOf22 ⟨_, hB⟩ (by simp) (k) ⟨rfl, by simpa using hlt2⟩) rfl rfl (by repeat (first | exact List.Sublist.refl _ | exact List.nil_sublist _ | refine List.Sublist.cons_cons _ ?_ | refine List.Sublist.cons _ ?_)) ?_
    refine RdC.v (i := 7) (Vop.ld rfl rfl rfl rfl Try.isAgg22 (fun w _ hS => (SlG.ex0 hB hS.ext).at (k) hlt2)) rfl rfl (by repeat (first | exact List.Sublist.refl _ | exact List.nil_sublist _ | refine List.Sublist.cons_cons _ ?_ | refine List.Sublist.cons _ ?_)) ?_
    refine RdC.callP (i := 8) rfl rfl rfl rfl rfl rfl (fun _ _ => Try.call14 _ _) (fun w _ hS => (by exact eq_c gs[k].a gs[k].c gs[k].f hs[k].a hs[k].c hs[k].f w ((hfa _ hmem).1.ex0 hS.ext) ((hfb _ hmem2).ex0 hS.ext) (hfa _ hmem).2 hkk)) (by repeat (first | exact List.Sublist.refl _ | exact List.nil_sublist _ | refine List.Sublist.cons_cons _ ?_ | refine List.Sublist.cons _ ?_)) ?_
    refine RdC.v (i := 9) (Vop.un rfl rfl rfl uNot rfl) rfl rfl (by repeat (first | exact List.Sublist.refl _ | exact List.nil_sublist _ | refine List.Sublist.cons_cons _ ?_ | refine List.Sublist.cons _ ?_)) ?_
    refine RdC.done rfl ?_
    refine gE ?_
    refine GoH.cond rfl (fun hc => ?_) (fun hc => ?_)
    ·
     exact absurd hc (by simp)
    ·
     refine gK (gIb (gR ?_))
     refine gMv ?_
     refine GoH.v (Vop.bin rfl rfl rfl rfl (bAdd (by omega)) rfl) ?_
     refine gAs ?_
     refine gE ?_
     exact IH (k + 1) _ _ hlt (by omega) ⟨rfl, rfl, rfl, trivial⟩ .slnil
   ·
    refine GoH.exit rfl (gS (gR ?_))
    refine gAs ?_
    refine gE ?_
    refine GoH.ret Try.f28 Try.func28 rfl (fun w' hS => ?_)
    exact ⟨hS.ext, rfl⟩
set_option maxRecDepth 8000 in
theorem rclosure_c (a : Option Addr) (ca : Nat) (f : List NV) (w : World) (ha : FA w a f) (hl : f.length ≤ maxLen) : Cn Try.prog 27 [.slice a f.length ca] w (fun v w' => ∃ sv gs e, v = .tuple #[sv, .int .i64 e] ∧ OwnL 49 22 w w' sv gs ∧ ClP f (gs.map FV.f) e) := by
  obtain ⟨i1, hi1, hz1, hsz1, hby1⟩ := info_parts infoNs
  refine Cn.of Try.func27 rfl rfl ?_
  refine gS (gR ?_)
  iterate 2 refine gAs ?_
  refine gE (gS (gS (gR ?_)))
  refine gMv ?_
  refine GoH.callP rfl rfl rfl rfl rfl (fun _ _ => Try.call17 _ _) (fun w _ hS => (by exact rchk_c a ca f w (ha.ex0 hS.ext) hl)) ?_
  refine gAs ?_
  refine gE (gS (gR ?_))
  refine gMv ?_
  refine gBi bNe ?_
  refine gE ?_
  refine GoH.cond rfl (fun hc => ?_) (fun hc => ?_)
  ·
   have h1 : chkF f ≠ 0 := by simpa using hc
   refine gS (gR ?_)
   refine gMv ?_
   iterate 2 refine gAs ?_
   refine gE ?_
   refine GoH.ret Try.f27 Try.func27 rfl (fun w' hS => ?_)
   exact ⟨hS.ext, _, [], _, rfl, OwnL.nil0, .inl ⟨h1, rfl, rfl⟩⟩
  ·
   have h0 : chkF f = 0 := by simpa using hc
   have hT := (chkF_zero.1 h0).top
   have hcl := (compF_ok h0).len
   rw [compF_eq h0] at hcl
   refine gK (gS (gR ?_))
   refine gAs ?_
   refine gE (gS (gS (gR ?_)))
   refine gMv ?_
   refine GoH.callM _ rfl rfl rfl rfl rfl (fun _ _ => Try.call24 _ _) (fun w _ hS => (by exact rsubs_c a ca f w (ha.ex0 hS.ext) hl)) ?_
   rintro v w1 w2 Y' hS he ⟨us, ⟨qs, caps, sps, Hs, rfl, hqs, hcaps, hnew, hus⟩, hue⟩
   refine ⟨_, hS.gainPre (pre := [_]) he hnew, ?_⟩
   refine gBl Try.underlying29 ?_
   refine gMv ?_
   refine gE (gB ?_)
   have hU : ClIs 49 Hs us (subT (topT f)) := ⟨hue h0, subs_cf hT hcl, hus⟩
   have hul : us.length ≤ 200 := by rw [hU.len, ← canT_len]; exact hcl
   refine GoH.addNone (ob FV.v 22 [] []) ?_
   refine GoH.pickT (pre := [_, _]) (pre' := [(qs, ob FV.v 22 us sps), (none, ob FV.v 22 [] [])]) Hs [1, 0] (by decide) rfl ?_
   refine GoH.loop (σ := Nat × Option Nat × Nat × List FV × List Value × Hl) (fun z => [(5, osv z.2.1 z.2.2.2.1.length z.2.2.1), (15, osv qs us.length caps), (16, .int .i64 us.length), (17, .int .i64 z.1)])
     (fun z => [(qs, ob FV.v 22 us sps), (z.2.1, ob FV.v 22 z.2.2.2.1 z.2.2.2.2.1)] ++ z.2.2.2.2.2)
     (fun z => z.1 ≤ us.length ∧ z.2.2.2.1.length ≤ 2 * z.1 ∧ (z.2.1 = none → z.2.2.2.1.length = 0 ∧ z.2.2.1 = 0) ∧ (z.2.2.2.1.map FV.v ++ z.2.2.2.2.1).length = z.2.2.1 ∧ ClIs 49 z.2.2.2.2.2 us (subT (topT f)) ∧ ClIs 49 z.2.2.2.2.2 z.2.2.2.1 (clF ((subT (topT f)).take z.1) []) ∧ ∀ u ∈ (subT (topT f)).take z.1, bT (negT u) ≠ [])
     (fun z => us.length - z.1) (0, none, 0, [], [], Hs) ⟨Nat.zero_le _, Nat.le_refl _, fun _ => ⟨rfl, rfl⟩, rfl, hU, ClIs.nil, (fun _ h => by cases h)⟩ ⟨rfl, rfl, rfl, rfl, trivial⟩ (List.Sublist.refl _) (fun z hI IH => ?_)
   obtain ⟨i, q, cap, gs, sp, H⟩ := z
   obtain ⟨hi, hgl, hq, hcap, hU, hG, hno⟩ := hI
   dsimp only at hi hgl hq hcap hU hG hno IH ⊢
   refine gS (gR ?_)
   refine gBi bLt ?_
   refine gE (gS ?_)
   refine GoH.cond rfl (fun hc => ?_) (fun hc => ?_)
   ·
    have hm : i < us.length := by simp at hc; omega
    have hms : i < (subT (topT f)).length := by have := hU.len; omega
    obtain ⟨bs, rfl⟩ : ∃ b, qs = some b := by
      cases qs with
      | none => have := (hqs rfl).1; omega
      | some b => exact ⟨b, rfl⟩
    obtain ⟨x, hx⟩ : ∃ x, x = us.getD i FV.z := ⟨_, rfl⟩
    obtain ⟨u, hu⟩ : ∃ u, u = (subT (topT f))[i] := ⟨_, rfl⟩
    have hxi : x = us[i] := by rw [hx, getD_lt hm]
    have hxc : Cf x.f u := by rw [hxi, hu]; exact hU.at hm
    have hxin : x.In 49 H := by rw [hxi]; exact hU.in_ _ (List.getElem_mem hm)
    have hmem : u ∈ subT (topT f) := by rw [hu]; exact List.getElem_mem hms
    have htk : (subT (topT f)).take (i + 1) = (subT (topT f)).take i ++ [u] := by rw [List.take_succ_eq_append_getElem hms, hu]
    refine gK (gS (gB (gS (gR ?_))))
    refine GoH.v (Vop.idxS rfl rfl rfl rfl rfl Try.underlying29 Try.sizeOf22 (i) ⟨rfl, hm⟩) ?_
    skip
    refine GoH.v (Vop.ldE FV.v FV.z rfl rfl rfl rfl Try.isAgg22 0 rfl hm) ?_
    rw [← hx]
    refine gAs ?_
    refine gE (gS (gS (gR ?_)))
    iterate 2 refine gMv ?_
    refine GoH.callP rfl rfl rfl rfl rfl (fun _ _ => Try.call63 _ _) (fun w _ hS => (by exact rcontains_c (q.map (fun b => ⟨b, 0, none⟩)) cap gs x u w ((InS.at (fun e => (hq e).1) (List.mem_cons_of_mem _ (List.mem_cons_self ..))).sl hS) (fun g hg => ⟨((hG.in_ g hg).mono (List.subset_append_right [_, _] H)).at hS, (hG.mem hg).imp (fun _ h => h.2)⟩) ((hxin.mono (List.subset_append_right [_, _] H)).at hS) hxc (by unfold maxLen; omega))) ?_
    refine gUn uNot ?_
    refine gE ?_
    refine GoH.cond rfl (fun hc => ?_) (fun hc => ?_)
    ·
     have hn : gs.any (fun y => decide (x.f = y.f)) = false := by rw [Bool.not_eq_true'] at hc; exact hc
     have hadd : addG gs x = gs ++ [x] := if_neg (by rw [hn]; simp)
     refine gR ?_
     iterate 2 refine gMv ?_
     refine GoH.bsN (c := [_]) rfl rfl rfl rfl Try.underlying29 Try.sizeOf22 Try.zeroValue22 rfl rfl (fun b27 => ?_)
     refine GoH.appE FV.v (news := [x]) (spn := []) (xs := gs) (sp := sp) (q := q) rfl rfl rfl rfl rfl Try.underlying29 hi1 hz1 hsz1 rfl hq 2 rfl 0 rfl hcap rfl (by decide) (fun _ => rfl) (by simp [maxLen]; omega) (by simp [hby1]; omega) (fun b1 sp1 cap1 hcap1 => ?_)
     refine gAs ?_
     refine gE (gS (gR ?_))
     refine gMv ?_
     refine GoH.callM _ rfl rfl rfl rfl rfl (fun _ _ => Try.call64 _ _) (fun w _ hS => (by exact ropposite_c x.a x.c x.f u w ((hxin.mono (List.subset_append_right [_, _, _] H)).at hS) hxc)) ?_
     rintro v w1 w2 Y' hS he ho
     obtain ⟨qn, capn, spn, rfl, hqn, hcapn, hS'⟩ := gainN hS he ho
     refine ⟨_, hS', ?_⟩
     refine gAs ?_
     refine gE (gS (gS (gR ?_)))
     refine gMv ?_
     refine gBl Try.underlying22 ?_
     refine gBi bEq ?_
     refine gE ?_
     refine GoH.cond rfl (fun hc => ?_) (fun hc => ?_)
     ·
      have hnil : bT (negT u) = [] := List.eq_nil_of_length_eq_zero (by simpa using hc)
      refine gS (gR ?_)
      iterate 2 refine gAs ?_
      refine gE ?_
      refine GoH.ret Try.f27 Try.func27 rfl (fun w' hS => ?_)
      exact ⟨hS.ext, _, [], _, rfl, OwnL.nil0, .inr (.inl ⟨h0, ⟨u, hmem, hnil⟩, rfl, rfl⟩)⟩
     ·
      have hnil : bT (negT u) ≠ [] := fun e => by rw [e] at hc; simp at hc
      obtain ⟨y, hy⟩ : ∃ y : FV, y = ⟨qn.map (fun b => ⟨b, 0, none⟩), capn, bT (negT u)⟩ := ⟨_, rfl⟩
      have hyc : Cf y.f (negT u) := by rw [hy]; exact ⟨rfl, hnil, negT_ok hxc.ok⟩
      have hyin : y.In 49 ((qn, obN 49 (bT (negT u)) spn) :: H) := by rw [hy]; exact ⟨qn, spn, List.mem_cons_self .., rfl, hqn, hcapn⟩
      have hG1 : ClIs 49 ((qn, obN 49 (bT (negT u)) spn) :: H) (gs ++ [x]) (addU (clF ((subT (topT f)).take i) []) u) := by
        have := hG.add hxc hxin
        rw [hadd] at this
        exact this.mono (List.subset_cons_self _ _)
      have hl1 : (gs ++ [x]).length ≤ gs.length + 1 := by simp
      rw [show osv qn (bT (negT u)).length capn = y.v from by rw [hy]; cases qn <;> rfl]
      refine gK (gS (gR ?_))
      iterate 2 refine gMv ?_
      refine GoH.callP rfl rfl rfl rfl rfl (fun _ _ => Try.call63 _ _) (fun w _ hS => (by exact rcontains_c (some ⟨b1, 0, none⟩) cap1 (gs ++ [x]) y (negT u) w ((InS.at (fun e => by cases e) (List.mem_cons_of_mem _ (List.mem_cons_of_mem _ (List.mem_cons_of_mem _ (List.mem_cons_self ..))))).sl hS) (fun g hg => ⟨((hG1.in_ g hg).mono (List.cons_subset_cons _ (List.subset_append_right [_, _, _] H))).at hS, (hG1.mem hg).imp (fun _ h => h.2)⟩) ((hyin.mono (List.cons_subset_cons _ (List.subset_append_right [_, _, _] H))).at hS) hyc (by unfold maxLen; omega))) ?_
      refine gUn uNot ?_
      refine gE ?_
      refine GoH.cond rfl (fun hc => ?_) (fun hc => ?_)
      ·
       have hn2 : (gs ++ [x]).any (fun z => decide (y.f = z.f)) = false := by rw [Bool.not_eq_true'] at hc; exact hc
       have hadd2 : addG (gs ++ [x]) y = (gs ++ [x]) ++ [y] := if_neg (by rw [hn2]; simp)
       refine gR ?_
       iterate 2 refine gMv ?_
       refine GoH.bsN (c := [_]) rfl rfl rfl rfl Try.underlying29 Try.sizeOf22 Try.zeroValue22 rfl rfl (fun b40 => ?_)
       refine GoH.appE FV.v (news := [y]) (spn := []) (xs := (gs ++ [x])) (sp := sp1) (q := (some b1)) rfl rfl rfl rfl rfl Try.underlying29 hi1 hz1 hsz1 rfl (fun e => by cases e) 4 rfl 0 rfl hcap1 rfl (by decide) (fun _ => rfl) (by simp [maxLen]; omega) (by simp [hby1]; omega) (fun b2 sp2 cap2 hcap2 => ?_)
       have hG2 : ClIs 49 ((qn, obN 49 (bT (negT u)) spn) :: H) ((gs ++ [x]) ++ [y]) (clF ((subT (topT f)).take (i + 1)) []) := by
         have := hG1.add hyc hyin
         rw [hadd2] at this
         rw [htk, clF_snoc]; exact this
       refine gAs ?_
       refine gE (gIb (gR ?_))
       refine GoH.v (Vop.bin rfl rfl rfl rfl (bAdd (by omega)) rfl) ?_
       refine gMv ?_
       refine gE ?_
       refine GoH.pickT (pre := [_, _, _, _, _]) (pre' := [_, _, _]) H [3, 4, 1] (by decide) rfl ?_
       refine IH (i + 1, (some b2), cap2, ((gs ++ [x]) ++ [y]), sp2, (qn, obN 49 (bT (negT u)) spn) :: H) _ _ ⟨hm, by simp; omega, (fun e => by cases e), hcap2, hU.mono (List.subset_cons_self _ _), hG2, fun v hv => ?_⟩ (by dsimp only; omega) ⟨rfl, rfl, rfl, rfl, trivial⟩ (List.Sublist.refl _)
       rw [htk] at hv
       rcases List.mem_append.1 hv with hv | hv
       · exact hno v hv
       · rw [List.mem_singleton.1 hv]; exact hnil
      ·
       have hn2 : (gs ++ [x]).any (fun z => decide (y.f = z.f)) = true := by rw [Bool.not_eq_false'] at hc; exact hc
       have hadd2 : addG (gs ++ [x]) y = (gs ++ [x]) := if_pos hn2
       have hG2 : ClIs 49 ((qn, obN 49 (bT (negT u)) spn) :: H) (gs ++ [x]) (clF ((subT (topT f)).take (i + 1)) []) := by
         have := hG1.add hyc hyin
         rw [hadd2] at this
         rw [htk, clF_snoc]; exact this
       refine gK (gIb (gR ?_))
       refine GoH.v (Vop.bin rfl rfl rfl rfl (bAdd (by omega)) rfl) ?_
       refine gMv ?_
       refine gE ?_
       refine GoH.pickT (pre := [_, _, _, _]) (pre' := [_, _, _]) H [2, 3, 0] (by decide) rfl ?_
       refine IH (i + 1, (some b1), cap1, (gs ++ [x]), sp1, (qn, obN 49 (bT (negT u)) spn) :: H) _ _ ⟨hm, by simp; omega, (fun e => by cases e), hcap1, hU.mono (List.subset_cons_self _ _), hG2, fun v hv => ?_⟩ (by dsimp only; omega) ⟨rfl, rfl, rfl, rfl, trivial⟩ (List.Sublist.refl _)
       rw [htk] at hv
       rcases List.mem_append.1 hv with hv | hv
       · exact hno v hv
       · rw [List.mem_singleton.1 hv]; exact hnil
    ·
     have hn : gs.any (fun y => decide (x.f = y.f)) = true := by rw [Bool.not_eq_false'] at hc; exact hc
     have hadd : addG gs x = gs := if_pos hn
     refine gK (gS (gR ?_))
     refine gMv ?_
     refine GoH.callM _ rfl rfl rfl rfl rfl (fun _ _ => Try.call64 _ _) (fun w _ hS => (by exact ropposite_c x.a x.c x.f u w ((hxin.mono (List.subset_append_right [_, _] H)).at hS) hxc)) ?_
     rintro v w1 w2 Y' hS he ho
     obtain ⟨qn, capn, spn, rfl, hqn, hcapn, hS'⟩ := gainN hS he ho
     refine ⟨_, hS', ?_⟩
     refine gAs ?_
     refine gE (gS (gS (gR ?_)))
     refine gMv ?_
     refine gBl Try.underlying22 ?_
     refine gBi bEq ?_
     refine gE ?_
     refine GoH.cond rfl (fun hc => ?_) (fun hc => ?_)
     ·
      have hnil : bT (negT u) = [] := List.eq_nil_of_length_eq_zero (by simpa using hc)
      refine gS (gR ?_)
      iterate 2 refine gAs ?_
      refine gE ?_
      refine GoH.ret Try.f27 Try.func27 rfl (fun w' hS => ?_)
      exact ⟨hS.ext, _, [], _, rfl, OwnL.nil0, .inr (.inl ⟨h0, ⟨u, hmem, hnil⟩, rfl, rfl⟩)⟩
     ·
      have hnil : bT (negT u) ≠ [] := fun e => by rw [e] at hc; simp at hc
      obtain ⟨y, hy⟩ : ∃ y : FV, y = ⟨qn.map (fun b => ⟨b, 0, none⟩), capn, bT (negT u)⟩ := ⟨_, rfl⟩
      have hyc : Cf y.f (negT u) := by rw [hy]; exact ⟨rfl, hnil, negT_ok hxc.ok⟩
      have hyin : y.In 49 ((qn, obN 49 (bT (negT u)) spn) :: H) := by rw [hy]; exact ⟨qn, spn, List.mem_cons_self .., rfl, hqn, hcapn⟩
      have hG1 : ClIs 49 ((qn, obN 49 (bT (negT u)) spn) :: H) gs (addU (clF ((subT (topT f)).take i) []) u) := by
        have := hG.add hxc hxin
        rw [hadd] at this
        exact this.mono (List.subset_cons_self _ _)
      have hl1 : gs.length ≤ gs.length + 1 := by simp
      rw [show osv qn (bT (negT u)).length capn = y.v from by rw [hy]; cases qn <;> rfl]
      refine gK (gS (gR ?_))
      iterate 2 refine gMv ?_
      refine GoH.callP rfl rfl rfl rfl rfl (fun _ _ => Try.call63 _ _) (fun w _ hS => (by exact rcontains_c (q.map (fun b => ⟨b, 0, none⟩)) cap gs y (negT u) w ((InS.at (fun e => (hq e).1) (List.mem_cons_of_mem _ (List.mem_cons_of_mem _ (List.mem_cons_self ..)))).sl hS) (fun g hg => ⟨((hG1.in_ g hg).mono (List.cons_subset_cons _ (List.subset_append_right [_, _] H))).at hS, (hG1.mem hg).imp (fun _ h => h.2)⟩) ((hyin.mono (List.cons_subset_cons _ (List.subset_append_right [_, _] H))).at hS) hyc (by unfold maxLen; omega))) ?_
      refine gUn uNot ?_
      refine gE ?_
      refine GoH.cond rfl (fun hc => ?_) (fun hc => ?_)
      ·
       have hn2 : gs.any (fun z => decide (y.f = z.f)) = false := by rw [Bool.not_eq_true'] at hc; exact hc
       have hadd2 : addG gs y = gs ++ [y] := if_neg (by rw [hn2]; simp)
       refine gR ?_
       iterate 2 refine gMv ?_
       refine GoH.bsN (c := [_]) rfl rfl rfl rfl Try.underlying29 Try.sizeOf22 Try.zeroValue22 rfl rfl (fun b40 => ?_)
       refine GoH.appE FV.v (news := [y]) (spn := []) (xs := gs) (sp := sp) (q := q) rfl rfl rfl rfl rfl Try.underlying29 hi1 hz1 hsz1 rfl hq 3 rfl 0 rfl hcap rfl (by decide) (fun _ => rfl) (by simp [maxLen]; omega) (by simp [hby1]; omega) (fun b2 sp2 cap2 hcap2 => ?_)
       have hG2 : ClIs 49 ((qn, obN 49 (bT (negT u)) spn) :: H) (gs ++ [y]) (clF ((subT (topT f)).take (i + 1)) []) := by
         have := hG1.add hyc hyin
         rw [hadd2] at this
         rw [htk, clF_snoc]; exact this
       refine gAs ?_
       refine gE (gIb (gR ?_))
       refine GoH.v (Vop.bin rfl rfl rfl rfl (bAdd (by omega)) rfl) ?_
       refine gMv ?_
       refine gE ?_
       refine GoH.pickT (pre := [_, _, _, _]) (pre' := [_, _, _]) H [2, 3, 1] (by decide) rfl ?_
       refine IH (i + 1, (some b2), cap2, (gs ++ [y]), sp2, (qn, obN 49 (bT (negT u)) spn) :: H) _ _ ⟨hm, by simp; omega, (fun e => by cases e), hcap2, hU.mono (List.subset_cons_self _ _), hG2, fun v hv => ?_⟩ (by dsimp only; omega) ⟨rfl, rfl, rfl, rfl, trivial⟩ (List.Sublist.refl _)
       rw [htk] at hv
       rcases List.mem_append.1 hv with hv | hv
       · exact hno v hv
       · rw [List.mem_singleton.1 hv]; exact hnil
      ·
       have hn2 : gs.any (fun z => decide (y.f = z.f)) = true := by rw [Bool.not_eq_false'] at hc; exact hc
       have hadd2 : addG gs y = gs := if_pos hn2
       have hG2 : ClIs 49 ((qn, obN 49 (bT (negT u)) spn) :: H) gs (clF ((subT (topT f)).take (i + 1)) []) := by
         have := hG1.add hyc hyin
         rw [hadd2] at this
         rw [htk, clF_snoc]; exact this
       refine gK (gIb (gR ?_))
       refine GoH.v (Vop.bin rfl rfl rfl rfl (bAdd (by omega)) rfl) ?_
       refine gMv ?_
       refine gE ?_
       refine GoH.pickT (pre := [_, _, _]) (pre' := [_, _, _]) H [1, 2, 0] (by decide) rfl ?_
       refine IH (i + 1, q, cap, gs, sp, (qn, obN 49 (bT (negT u)) spn) :: H) _ _ ⟨hm, by simp; omega, hq, hcap, hU.mono (List.subset_cons_self _ _), hG2, fun v hv => ?_⟩ (by dsimp only; omega) ⟨rfl, rfl, rfl, rfl, trivial⟩ (List.Sublist.refl _)
       rw [htk] at hv
       rcases List.mem_append.1 hv with hv | hv
       · exact hno v hv
       · rw [List.mem_singleton.1 hv]; exact hnil
   ·
    have hge : ¬ i < us.length := by simp at hc; omega
    obtain rfl : i = us.length := by omega
    have htk : (subT (topT f)).take us.length = subT (topT f) := by rw [hU.len, List.take_length]
    rw [htk] at hG hno
    refine GoH.exit rfl (gS (gR ?_))
    refine gMv ?_
    iterate 2 refine gAs ?_
    refine gE ?_
    refine GoH.ret Try.f27 Try.func27 rfl (fun w' hS => ?_)
    exact ⟨hS.ext, _, gs, 0, rfl, OwnL.mk hS (.cons _ (List.Sublist.refl _)) hq hcap hG.in_, .inr (.inr ⟨h0, hno, hG.eq, rfl⟩)⟩
end Go.Proofs.Ytkoipdlkkchmiaa
namespace Go.Proofs.Ytkoipdlkkchmiaa
open Go.RowKit Go.Proofs.Wit
/-! the law RewriteLists -/
set_option maxRecDepth 8000 in
theorem lists08_c (a : Option Addr) (ca : Nat) (f : List NV) (w : World) (ha : FA w a f) (hl : f.length ≤ maxLen) : Cn Try.prog 7 [.slice a f.length ca] w (fun v _ => v = .bool true) := by
  refine Cn.of Try.func7 rfl rfl ?_
  refine gS (gR ?_)
  refine gAs ?_
  refine gE (gS (gS (gR ?_)))
  refine gMv ?_
  refine GoH.callP rfl rfl rfl rfl rfl (fun _ _ => Try.call10 _ _) (fun w _ hS => (by exact rfew_c a ca f 40 w)) ?_
  refine gUn uNot ?_
  refine gMv ?_
  refine GoH.cases (d := 14) rfl (fun hc => ?_) (fun hc => ?_)
  ·
   refine gMv ?_
   refine gBl Try.underlying22 ?_
   refine gBi bLe ?_
   refine gPt ?_
   refine gE ?_
   refine GoH.cond rfl (fun hc => ?_) (fun hc => ?_)
   ·
    refine gS (gR ?_)
    refine GoH.callP rfl rfl rfl rfl rfl (fun _ _ => Try.call11 _ _) (fun w _ hS => (by exact awake08_c w)) ?_
    refine gAs ?_
    refine gE ?_
    refine GoH.ret Try.f7 Try.func7 rfl (fun w' hS => ?_)
    exact ⟨hS.ext, rfl⟩
   ·
    refine gK (gS (gR ?_))
    refine gMv ?_
    refine GoH.callM _ rfl rfl rfl rfl rfl (fun _ _ => Try.call25 _ _) (fun w _ hS => (by exact modal_c a ca f w (ha.ex0 hS.ext) hl)) ?_
    rintro v w1 w2 Y' hS he ⟨sv, g1, e1, rfl, ⟨q1, cap1, sp1, H1, rfl, hq1, hcap1, hnew, hin1⟩, hP⟩
    refine ⟨_, hS.gainPre (pre := [_]) he hnew, ?_⟩
    refine gMv ?_
    iterate 2 refine gEx ?_
    iterate 2 refine gAs ?_
    refine gE (gS (gR ?_))
    refine gMv ?_
    refine GoH.callM _ rfl rfl rfl rfl rfl (fun _ _ => Try.call26 _ _) (fun w _ hS => (by exact rmodal_c a ca f w (ha.ex0 hS.ext) hl)) ?_
    rintro v w1 w2 Y' hS he ⟨sv, g2, e2, rfl, ⟨q2, cap2, sp2, H2, rfl, hq2, hcap2, hnew, hin2⟩, hQ⟩
    refine ⟨_, hS.gainPre (pre := [_]) he hnew, ?_⟩
    refine gMv ?_
    iterate 2 refine gEx ?_
    iterate 2 refine gAs ?_
    refine gE (gS (gR ?_))
    refine gMv ?_
    refine GoH.callM _ rfl rfl rfl rfl rfl (fun _ _ => Try.call20 _ _) (fun w _ hS => (by exact closure_c a ca f w (ha.ex0 hS.ext) hl)) ?_
    rintro v w1 w2 Y' hS he ⟨sv, g3, e3, rfl, ⟨q3, cap3, sp3, H3, rfl, hq3, hcap3, hnew, hin3⟩, hP2⟩
    refine ⟨_, hS.gainPre (pre := [_]) he hnew, ?_⟩
    refine gMv ?_
    iterate 2 refine gEx ?_
    iterate 2 refine gAs ?_
    refine gE (gS (gR ?_))
    refine gMv ?_
    refine GoH.callM _ rfl rfl rfl rfl rfl (fun _ _ => Try.call27 _ _) (fun w _ hS => (by exact rclosure_c a ca f w (ha.ex0 hS.ext) hl)) ?_
    rintro v w1 w2 Y' hS he ⟨sv, g4, e4, rfl, ⟨q4, cap4, sp4, H4, rfl, hq4, hcap4, hnew, hin4⟩, hQ2⟩
    refine ⟨_, hS.gainPre (pre := [_]) he hnew, ?_⟩
    have hEP := hP.eq hQ
    have hEP2 := hP2.eq hQ2
    refine gMv ?_
    iterate 2 refine gEx ?_
    iterate 2 refine gAs ?_
    refine gE (gS (gR ?_))
    iterate 2 refine gMv ?_
    refine GoH.callP rfl rfl rfl rfl rfl (fun _ _ => Try.call28 _ _) (fun w _ hS => (by exact sameLists_c (q1.map (fun b => ⟨b, 0, none⟩)) cap1 g1 (q2.map (fun b => ⟨b, 0, none⟩)) cap2 g2 w ((InS.at (fun e => (hq1 e).1) (List.mem_cons_of_mem _ (List.mem_cons_of_mem _ (List.mem_cons_of_mem _ (List.mem_cons_self ..))))).sl hS) ((InS.at (fun e => (hq2 e).1) (List.mem_cons_of_mem _ (List.mem_cons_of_mem _ (List.mem_cons_self ..)))).sl hS) (fun g hg => ⟨((hin1 g hg).mono (fun p hp => by simp [hp])).at hS, hP.len.2 _ (List.mem_map_of_mem hg)⟩) (fun g hg => ((hin2 g hg).mono (fun p hp => by simp [hp])).at hS) hEP.1 (by have := hP.len.1; rw [List.length_map] at this; unfold maxLen; omega))) ?_
    iterate 3 refine gMv ?_
    refine GoH.v (Vop.bin rfl rfl rfl rfl (bEqV (v := true) (by simpa using hEP.2)) rfl) ?_
    refine gPt ?_
    iterate 3 refine gMv ?_
    refine GoH.callP rfl rfl rfl rfl rfl (fun _ _ => Try.call28 _ _) (fun w _ hS => (by exact sameLists_c (q3.map (fun b => ⟨b, 0, none⟩)) cap3 g3 (q4.map (fun b => ⟨b, 0, none⟩)) cap4 g4 w ((InS.at (fun e => (hq3 e).1) (List.mem_cons_of_mem _ (List.mem_cons_self ..))).sl hS) ((InS.at (fun e => (hq4 e).1) (List.mem_cons_self ..)).sl hS) (fun g hg => ⟨((hin3 g hg).mono (fun p hp => by simp [hp])).at hS, hP2.len.2 _ (List.mem_map_of_mem hg)⟩) (fun g hg => ((hin4 g hg).mono (fun p hp => by simp [hp])).at hS) hEP2.1 (by have := hP2.len.1; rw [List.length_map] at this; unfold maxLen; omega))) ?_
    refine gPt ?_
    iterate 3 refine gMv ?_
    refine GoH.v (Vop.bin rfl rfl rfl rfl (bEqV (v := true) (by simpa using hEP2.2)) rfl) ?_
    refine gPt ?_
    refine gMv ?_
    refine GoH.callP rfl rfl rfl rfl rfl (fun _ _ => Try.call11 _ _) (fun w _ hS => (by exact awake08_c w)) ?_
    refine gPt ?_
    refine gAs ?_
    refine gE ?_
    refine GoH.ret Try.f7 Try.func7 rfl (fun w' hS => ?_)
    exact ⟨hS.ext, rfl⟩
  ·
   iterate 3 refine gNo ?_
   refine gPf ?_
   refine gE (GoH.condF rfl (gK (gS (gR ?_))))
   refine gMv ?_
   refine GoH.callM _ rfl rfl rfl rfl rfl (fun _ _ => Try.call25 _ _) (fun w _ hS => (by exact modal_c a ca f w (ha.ex0 hS.ext) hl)) ?_
   rintro v w1 w2 Y' hS he ⟨sv, g1, e1, rfl, ⟨q1, cap1, sp1, H1, rfl, hq1, hcap1, hnew, hin1⟩, hP⟩
   refine ⟨_, hS.gainPre (pre := [_]) he hnew, ?_⟩
   refine gMv ?_
   iterate 2 refine gEx ?_
   iterate 2 refine gAs ?_
   refine gE (gS (gR ?_))
   refine gMv ?_
   refine GoH.callM _ rfl rfl rfl rfl rfl (fun _ _ => Try.call26 _ _) (fun w _ hS => (by exact rmodal_c a ca f w (ha.ex0 hS.ext) hl)) ?_
   rintro v w1 w2 Y' hS he ⟨sv, g2, e2, rfl, ⟨q2, cap2, sp2, H2, rfl, hq2, hcap2, hnew, hin2⟩, hQ⟩
   refine ⟨_, hS.gainPre (pre := [_]) he hnew, ?_⟩
   refine gMv ?_
   iterate 2 refine gEx ?_
   iterate 2 refine gAs ?_
   refine gE (gS (gR ?_))
   refine gMv ?_
   refine GoH.callM _ rfl rfl rfl rfl rfl (fun _ _ => Try.call20 _ _) (fun w _ hS => (by exact closure_c a ca f w (ha.ex0 hS.ext) hl)) ?_
   rintro v w1 w2 Y' hS he ⟨sv, g3, e3, rfl, ⟨q3, cap3, sp3, H3, rfl, hq3, hcap3, hnew, hin3⟩, hP2⟩
   refine ⟨_, hS.gainPre (pre := [_]) he hnew, ?_⟩
   refine gMv ?_
   iterate 2 refine gEx ?_
   iterate 2 refine gAs ?_
   refine gE (gS (gR ?_))
   refine gMv ?_
   refine GoH.callM _ rfl rfl rfl rfl rfl (fun _ _ => Try.call27 _ _) (fun w _ hS => (by exact rclosure_c a ca f w (ha.ex0 hS.ext) hl)) ?_
   rintro v w1 w2 Y' hS he ⟨sv, g4, e4, rfl, ⟨q4, cap4, sp4, H4, rfl, hq4, hcap4, hnew, hin4⟩, hQ2⟩
   refine ⟨_, hS.gainPre (pre := [_]) he hnew, ?_⟩
   have hEP := hP.eq hQ
   have hEP2 := hP2.eq hQ2
   refine gMv ?_
   iterate 2 refine gEx ?_
   iterate 2 refine gAs ?_
   refine gE (gS (gR ?_))
   iterate 2 refine gMv ?_
   refine GoH.callP rfl rfl rfl rfl rfl (fun _ _ => Try.call28 _ _) (fun w _ hS => (by exact sameLists_c (q1.map (fun b => ⟨b, 0, none⟩)) cap1 g1 (q2.map (fun b => ⟨b, 0, none⟩)) cap2 g2 w ((InS.at (fun e => (hq1 e).1) (List.mem_cons_of_mem _ (List.mem_cons_of_mem _ (List.mem_cons_of_mem _ (List.mem_cons_self ..))))).sl hS) ((InS.at (fun e => (hq2 e).1) (List.mem_cons_of_mem _ (List.mem_cons_of_mem _ (List.mem_cons_self ..)))).sl hS) (fun g hg => ⟨((hin1 g hg).mono (fun p hp => by simp [hp])).at hS, hP.len.2 _ (List.mem_map_of_mem hg)⟩) (fun g hg => ((hin2 g hg).mono (fun p hp => by simp [hp])).at hS) hEP.1 (by have := hP.len.1; rw [List.length_map] at this; unfold maxLen; omega))) ?_
   iterate 3 refine gMv ?_
   refine GoH.v (Vop.bin rfl rfl rfl rfl (bEqV (v := true) (by simpa using hEP.2)) rfl) ?_
   refine gPt ?_
   iterate 3 refine gMv ?_
   refine GoH.callP rfl rfl rfl rfl rfl (fun _ _ => Try.call28 _ _) (fun w _ hS => (by exact sameLists_c (q3.map (fun b => ⟨b, 0, none⟩)) cap3 g3 (q4.map (fun b => ⟨b, 0, none⟩)) cap4 g4 w ((InS.at (fun e => (hq3 e).1) (List.mem_cons_of_mem _ (List.mem_cons_self ..))).sl hS) ((InS.at (fun e => (hq4 e).1) (List.mem_cons_self ..)).sl hS) (fun g hg => ⟨((hin3 g hg).mono (fun p hp => by simp [hp])).at hS, hP2.len.2 _ (List.mem_map_of_mem hg)⟩) (fun g hg => ((hin4 g hg).mono (fun p hp => by simp [hp])).at hS) hEP2.1 (by have := hP2.len.1; rw [List.length_map] at this; unfold maxLen; omega))) ?_
   refine gPt ?_
   iterate 3 refine gMv ?_
   refine GoH.v (Vop.bin rfl rfl rfl rfl (bEqV (v := true) (by simpa using hEP2.2)) rfl) ?_
   refine gPt ?_
   refine gMv ?_
   refine GoH.callP rfl rfl rfl rfl rfl (fun _ _ => Try.call11 _ _) (fun w _ hS => (by exact awake08_c w)) ?_
   refine gPt ?_
   refine gAs ?_
   refine gE ?_
   refine GoH.ret Try.f7 Try.func7 rfl (fun w' hS => ?_)
   exact ⟨hS.ext, rfl⟩
end Go.Proofs.Ytkoipdlkkchmiaa
