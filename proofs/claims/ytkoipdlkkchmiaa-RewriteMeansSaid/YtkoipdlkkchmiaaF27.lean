/- What calls of the program return, under the conditions that each theorem states. -/
import Derived.Test.YtkoipdlkkchmiaaF21
import Derived.Test.YtkoipdlkkchmiaaF19
import Derived.Test.YtkoipdlkkchmiaaF03
namespace Go.Proofs.Ytkoipdlkkchmiaa
open Go.RowKit Go.Proofs.Wit
/-! the reference's makers of formulas -/
set_option maxRecDepth 4000 in
theorem short_c (a : Option Addr) (ca : Nat) (f : List NV) (w : World) (ha : FA w a f) (hN : NodesOk f) (hp : 0 < f.length) (hl : f.length ≤ 401) : Cn Try.prog 115 [.slice a f.length ca] w (fun v w' => OwnN 49 w w' v (bT (treeAt f (f.length - 1)))) := by
  obtain ⟨i0, hi, hz, hsz, hby⟩ := info_parts infoI
  refine Cn.of Try.func115 rfl rfl ?_
  refine gS (gR ?_)
  refine gAs ?_
  refine gE (gS (gS (gR ?_)))
  refine gMv ?_
  refine gBl Try.underlying22 ?_
  refine gBi bGt ?_
  refine gE ?_
  refine GoH.cond rfl (fun hc => ?_) (fun hc => ?_)
  ·
   exact absurd hc (by simp; omega)
  ·
   refine gK (gS (gR ?_))
   refine GoH.v (Vop.bld rfl rfl rfl rfl (bld (c := [_, _]) Try.underlying85 (Szs.cons Try.sizeOf22 (Szs.cons Try.sizeOf83 Szs.nil)) Try.zeroValue85 rfl)) ?_
   refine GoH.bx rfl rfl rfl rfl (fun b9 => ?_)
   refine gAs ?_
   refine gE (gS (gS (gR ?_)))
   refine gAs ?_
   refine gE (gB ?_)
   refine GoH.addNone (obN 49 (nodesOf []) []) ?_
   refine GoH.addNone (ob I64 3 [] []) ?_
   refine GoH.pick (pre := [_, _, _]) (pre' := [_, _, _]) [2, 0, 1] (by decide) rfl ?_
   refine GoH.loop (σ := Nat × Option Nat × Nat × List Value) (fun z => [(0, .slice a f.length ca), (3, .pointer (some ⟨b9, 0, none⟩)), (4, .int .i64 z.1)]) (fun z => [(some b9, .cells #[.slice none 0 0, osv z.2.1 (List.replicate z.1 (-1 : Int)).length z.2.2.1] 85 (0, 0)), (z.2.1, ob I64 3 (List.replicate z.1 (-1 : Int)) z.2.2.2)])
     (fun z => z.1 ≤ f.length ∧ (z.2.1 = none → (List.replicate z.1 (-1 : Int)).length = 0 ∧ z.2.2.1 = 0) ∧ ((List.replicate z.1 (-1 : Int)).map I64 ++ z.2.2.2).length = z.2.2.1) (fun z => f.length - z.1) (0, none, 0, []) ⟨Nat.zero_le _, fun _ => ⟨rfl, rfl⟩, rfl⟩ ⟨rfl, rfl, rfl, trivial⟩ (.cons_cons _ (.cons_cons _ (.cons _ .slnil))) (fun z hI IH => ?_)
   obtain ⟨k, q, cap, sp⟩ := z
   obtain ⟨hk, hq, hcap⟩ := hI
   dsimp only at hk hq hcap IH ⊢
   refine gS (gS (gR ?_))
   iterate 2 refine gMv ?_
   refine gBl Try.underlying22 ?_
   refine gBi bLt ?_
   refine gE ?_
   refine GoH.cond rfl (fun hc => ?_) (fun hc => ?_)
   ·
    have hlt : k < f.length := by simpa using hc
    have hrl : (List.replicate k (-1 : Int)).length = k := List.length_replicate
    refine gK (gS (gB (gR ?_)))
    iterate 2 refine gMv ?_
    refine gNk ?_
    refine gFp Try.underlying85 Try.sizeOf83 1 ?_
    refine gLo Try.isAgg83 0 ?_
    refine GoH.bsN (c := [_]) rfl rfl rfl rfl Try.underlying83 Try.sizeOf3 Try.zeroValue3 rfl rfl (fun b21 => ?_)
    refine GoH.appE I64 (xs := List.replicate k (-1 : Int)) (sp := sp) (news := [(-1 : Int)]) (spn := []) rfl rfl rfl rfl rfl Try.underlying83 hi hz hsz rfl hq 2 rfl 0 rfl hcap rfl (by decide) (fun _ => rfl) (by unfold maxLen; rw [hrl]; omega) (by rw [hby, hrl]; omega) (fun b' sp' cap' hlen2 => ?_)
    rw [← List.replicate_succ'] at *
    refine gNk ?_
    refine gFp Try.underlying85 Try.sizeOf83 1 ?_
    refine GoH.st rfl rfl rfl rfl Try.sizeOf83 rfl 1 rfl rfl ?_
    refine gE (gIb (gR ?_))
    refine gMv ?_
    refine GoH.v (Vop.bin rfl rfl rfl rfl (bAdd (by omega)) rfl) ?_
    refine gAs ?_
    refine gE ?_
    exact IH (k + 1, some b', cap', sp') _ _ ⟨hlt, (fun e => by cases e), hlen2⟩ (by dsimp only; omega) ⟨rfl, rfl, rfl, trivial⟩ (.cons _ (List.Sublist.refl _))
   ·
    have hge : ¬ k < f.length := by simpa using hc
    obtain rfl : k = f.length := by omega
    obtain ⟨bd, rfl⟩ : ∃ bd, q = some bd := by
      cases q with
      | none => have := (hq rfl).1; rw [List.length_replicate] at this; omega
      | some b => exact ⟨b, rfl⟩
    obtain ⟨i, hi9⟩ : ∃ i, i = f.length - 1 := ⟨_, rfl⟩
    have hi2 : i < f.length := by omega
    rw [← hi9]
    refine GoH.exit rfl (gS (gR ?_))
    iterate 2 refine gMv ?_
    refine gBl Try.underlying22 ?_
    refine GoH.v (Vop.bin rfl rfl rfl rfl (bSubE (c := (i : Int)) (by omega) (by omega)) rfl) ?_
    refine gMv ?_
    refine GoH.addNone (obN 49 (nodesOf []) []) ?_
    refine GoH.pick (pre := [_, _, _]) (pre' := finH b9 none 0 [] [] bd cap (List.replicate f.length (-1)) sp ++ []) [1, 0, 2] (by decide) rfl ?_
    refine GoH.callS (h := finH b9 none 0 [] [] bd cap (List.replicate f.length (-1)) sp) (hF := []) (fs := []) (cs := []) (fun _ v h' => FinPost f i b9 bd cap sp [] v h') rfl rfl rfl rfl rfl (fun _ _ => Try.call110 _ _) (fun w1 Y' hS => ?_) (fun w1 v h1' hR => ?_)
    · have hS1 := hS.subH (List.sublist_append_left (finH b9 none 0 [] [] bd cap (List.replicate f.length (-1)) sp) _)
      exact finish_c f a ca hN (by omega) b9 bd cap sp i hi2 w1 none 0 [] [] _ hS1.has (ha.ex0 hS.ext) (sepOf (h := []) ha hp (by simp [blks]) hS1) ⟨fun _ => ⟨rfl, rfl⟩, rfl, Clo.nil, List.nodup_nil, fun u hu => by cases hu⟩ (List.nil_subset _) DoneOk.start
    obtain ⟨q1, cap1, sp1, ds1, rfl, ho1, hd1, rfl⟩ := hR
    have he : canT (treeAt f i) = nodesOf (visit (treeAt f i) []) := rfl
    unfold finH
    refine gE (gS (gS (gR ?_)))
    refine gMv ?_
    refine gNk ?_
    refine gFp Try.underlying85 Try.sizeOf22 0 ?_
    refine gLo Try.isAgg22 0 ?_
    refine gBl Try.underlying22 ?_
    refine gBi bGt ?_
    refine gE ?_
    refine GoH.cond rfl (fun hc => ?_) (fun hc => ?_)
    ·
     have h4 : 200 < (nodesOf (visit (treeAt f i) [])).length := by simp at hc; omega
     refine gS (gR ?_)
     refine gAs ?_
     refine gE ?_
     refine GoH.ret Try.f115 Try.func115 rfl (fun w' hS => ?_)
     exact ⟨hS.ext, by rw [bT_long (by rw [he]; exact h4)]; exact OwnN.nil0⟩
    ·
     have h4 : ¬ 200 < (nodesOf (visit (treeAt f i) [])).length := by simp at hc; omega
     refine gK (gS (gR ?_))
     refine gMv ?_
     refine gNk ?_
     refine gFp Try.underlying85 Try.sizeOf22 0 ?_
     refine gLo Try.isAgg22 0 ?_
     refine gAs ?_
     refine gE ?_
     refine GoH.ret Try.f115 Try.func115 rfl (fun w' hS => ?_)
     exact ⟨hS.ext, by rw [bT_ok (by rw [he]; exact h4), he]; exact OwnN.mk hS 1 rfl rfl ho1.nil ho1.cap⟩
theorem cf_of {f : List NV} {t : Tr} (h : f = bT t) (ht : t.ok) : (f = [] ∧ chkF f ≠ 0) ∨ (Cf f t ∧ chkF f = 0) := by
  by_cases e : f = []
  · exact .inl ⟨e, by rw [e]; decide⟩
  · exact .inr ⟨⟨h, e, ht⟩, (Cf.mk h e ht).chk⟩
set_option maxRecDepth 8000 in
theorem runary_c (op i e g : Int) (a : Option Addr) (ca : Nat) (f : List NV) (t : Tr) (w : World) (hop : 1 ≤ op ∧ op ≤ 21) (hX : usX op = true) (hY : usY op = false) (hf : fldE op i e g = 0) (ha : FA w a f) (hft : f = bT t) (ht : t.ok) : Cn Try.prog 79 [NV.v ⟨op, i, e, g, 0, 0⟩, .slice a f.length ca] w (fun v w' => OwnN 49 w w' v (bT (.un op i e g t))) := by
  obtain ⟨iN, hiN, hzN, hszN, hbyN⟩ := info_parts infoN
  have hfl : f.length ≤ 200 := by rw [hft]; exact bT_le t
  refine Cn.of Try.func79 rfl rfl ?_
  refine gS (gR ?_)
  refine GoH.bx rfl rfl rfl rfl (fun b2 => ?_)
  refine gAs ?_
  refine gE (gS (gS (gR ?_)))
  refine gMv ?_
  refine GoH.callP rfl rfl rfl rfl rfl (fun _ _ => Try.call17 _ _) (fun w _ hS => (by exact rchk_c a ca f w (ha.ex0 hS.ext) (by unfold maxLen; omega))) ?_
  refine gBi bNe ?_
  refine gE ?_
  refine GoH.cond rfl (fun hc => ?_) (fun hc => ?_)
  ·
   have h1 : chkF f ≠ 0 := by simpa using hc
   have hb : bT (.un op i e g t) = [] := by rw [← bld_un ht hop hX hY hf, ← hft]; exact bldF_bad ⟨f, by simp, h1⟩
   refine gS (gR ?_)
   refine gAs ?_
   refine gE ?_
   refine GoH.ret Try.f79 Try.func79 rfl (fun w' hS => ?_)
   exact ⟨hS.ext, by rw [hb]; exact OwnN.nil0⟩
  ·
   have h1 : chkF f = 0 := by simpa using hc
   have hcf : Cf f t := by
     rcases cf_of hft ht with h | h
     · exact absurd h1 h.2
     · exact h.1
   have hp := hcf.pos
   have hL0 : LT f (subT t) := by rw [hcf.can.1]; exact LT.can ht
   have hsl : (subT t).length = f.length := hL0.len
   have hL := hL0.un (n := (⟨op, i, e, g, ((f.length - 1 : Nat) : Int), 0⟩ : NV)) hop hX hY hf rfl (k := (subT t).length - 1) (by dsimp only; rw [hsl]) subT_get
   have hnE : nodeE (⟨op, i, e, g, ((f.length - 1 : Nat) : Int), 0⟩ : NV) (f.length : Int) = 0 := nodeE_zero.2 (by have := hL.nodes f.length (by simp); simpa using this)
   refine gK (gS (gR ?_))
   refine gMv ?_
   refine gBl Try.underlying22 ?_
   refine GoH.v (Vop.bin rfl rfl rfl rfl (bSubE (c := ((f.length - 1 : Nat) : Int)) (by omega) (by omega)) rfl) ?_
   refine gFp Try.underlying49 Try.sizeOf3 4 ?_
   refine GoH.st rfl rfl rfl rfl Try.sizeOf3 rfl 0 rfl rfl ?_
   refine gE (gS (gS (gR ?_)))
   refine GoH.v (Vop.ldB rfl rfl rfl rfl Try.isAgg49 0 rfl Try.sizeOf49 rfl) ?_
   refine gMv ?_
   refine gBl Try.underlying22 ?_
   refine GoH.callP rfl rfl rfl rfl rfl (fun _ _ => Try.call52 _ _) (fun w _ hS => (by exact rnode_c (⟨op, i, e, g, ((f.length - 1 : Nat) : Int), 0⟩ : NV) (f.length : Int) w)) ?_
   refine gBi bNe ?_
   refine gE ?_
   refine GoH.cond rfl (fun hc => ?_) (fun hc => ?_)
   ·
    exact absurd hc (by rw [hnE]; decide)
   ·
    refine gK (gS (gR ?_))
    refine gAs ?_
    refine gE (gS (gS (gR ?_)))
    refine gAs ?_
    refine gE (gB ?_)
    refine GoH.addNone (obN 49 [] []) ?_
    refine GoH.pick (pre := [_, _]) (pre' := [_, _]) [1, 0] (by decide) rfl ?_
    refine GoH.loop (σ := Nat × Option Nat × Nat × List Value) (fun z => [(1, .slice a f.length ca), (2, .pointer (some ⟨b2, 0, none⟩)), (5, osv z.2.1 (f.take z.1).length z.2.2.1), (6, .int .i64 z.1)]) (fun z => [(some b2, .cells (NV.cells (⟨op, i, e, g, ((f.length - 1 : Nat) : Int), 0⟩ : NV)).toArray 49 (0, 0)), (z.2.1, obN 49 (f.take z.1) z.2.2.2)])
      (fun z => z.1 ≤ f.length ∧ (z.2.1 = none → (f.take z.1).length = 0 ∧ z.2.2.1 = 0) ∧ ((f.take z.1).flatMap NV.cells ++ z.2.2.2).length = z.2.2.1 * 6) (fun z => f.length - z.1) (0, none, 0, []) ⟨Nat.zero_le _, fun _ => ⟨rfl, rfl⟩, rfl⟩ ⟨rfl, rfl, rfl, rfl, trivial⟩ (List.Sublist.refl _) (fun z hI IH => ?_)
    obtain ⟨k, q, cap, sp⟩ := z
    obtain ⟨hk, hq, hcap⟩ := hI
    dsimp only at hk hq hcap IH ⊢
    have htl : (f.take k).length ≤ 200 := by rw [List.length_take]; omega
    refine gS (gS (gR ?_))
    iterate 2 refine gMv ?_
    refine gBl Try.underlying22 ?_
    refine gBi bLt ?_
    refine gE ?_
    refine GoH.cond rfl (fun hc => ?_) (fun hc => ?_)
    ·
     have hlt : k < f.length := by simpa using hc
     refine gK (gS (gB (gR ?_)))
     iterate 3 refine gMv ?_
     refine GoH.v (Vop.idxN rfl rfl rfl rfl rfl Try.underlying22 Try.sizeOf49 ⟨_, (ha).at_⟩ (flat_len (enc := NV.cells) (sz := 6) (fun _ => rfl)) (by decide) (k) ⟨rfl, hlt⟩) ?_
     refine GoH.v (Vop.ldN (cs := NV.cells f[k]) rfl rfl rfl rfl Try.isAgg49 Try.sizeOf49 (fun w _ hS => Sl.many (enc := NV.cells) (sz := 6) (ha.ex0 hS.ext).at_ (fun _ => rfl) hlt)) ?_
     refine GoH.bsN (c := [_, _, _, _, _, _]) rfl rfl rfl rfl Try.underlying22 Try.sizeOf49 Try.zeroValue49 rfl rfl (fun b30 => ?_)
     have e1 : (f.take k).flatMap NV.cells ++ NV.cells f[k] = (f.take (k + 1)).flatMap NV.cells := by rw [List.take_succ_eq_append_getElem hlt, List.flatMap_append]; simp
     have e2 : (f.take k).length + 1 = (f.take (k + 1)).length := by rw [List.length_take, List.length_take]; omega
     refine GoH.app 6 (xs := (f.take k).flatMap NV.cells) (sp := sp) (nx := (f.take k).length) (q := q) (news := NV.cells f[k]) (spn := []) rfl rfl rfl rfl rfl Try.underlying22 hiN hzN hszN rfl hq 2 rfl 0 rfl flatN hcap rfl (by decide) (fun u hu => by
       simp only [NV.cells, List.mem_cons, List.not_mem_nil, or_false] at hu
       rcases hu with rfl | rfl | rfl | rfl | rfl | rfl <;> rfl) (by unfold maxLen; omega) (by rw [hbyN]; omega) (fun b' sp' cap' hlen => ?_)
     simp only [e1, e2] at hlen ⊢
     refine gAs ?_
     refine gE (gIb (gR ?_))
     refine gMv ?_
     refine GoH.v (Vop.bin rfl rfl rfl rfl (bAdd (by omega)) rfl) ?_
     refine gAs ?_
     refine gE ?_
     exact IH (k + 1, some b', cap', sp') _ _ ⟨hlt, (fun e => by cases e), hlen⟩ (by dsimp only; omega) ⟨rfl, rfl, rfl, rfl, trivial⟩ (.cons _ (List.Sublist.refl _))
    ·
     have hge : ¬ k < f.length := by simpa using hc
     obtain rfl : k = f.length := by omega
     rw [List.take_length] at hq hcap htl
     rw [List.take_length]
     refine GoH.exit rfl (gS (gR ?_))
     refine gMv ?_
     refine GoH.v (Vop.ldB rfl rfl rfl rfl Try.isAgg49 0 rfl Try.sizeOf49 rfl) ?_
     refine GoH.bsN (c := [_, _, _, _, _, _]) rfl rfl rfl rfl Try.underlying22 Try.sizeOf49 Try.zeroValue49 rfl rfl (fun b34 => ?_)
     have e1 : f.flatMap NV.cells ++ NV.cells (⟨op, i, e, g, ((f.length - 1 : Nat) : Int), 0⟩ : NV) = (f ++ [(⟨op, i, e, g, ((f.length - 1 : Nat) : Int), 0⟩ : NV)]).flatMap NV.cells := by rw [List.flatMap_append]; simp
     have e2 : f.length + 1 = (f ++ [(⟨op, i, e, g, ((f.length - 1 : Nat) : Int), 0⟩ : NV)]).length := by simp
     refine GoH.app 6 (xs := f.flatMap NV.cells) (sp := sp) (nx := f.length) (q := q) (news := NV.cells (⟨op, i, e, g, ((f.length - 1 : Nat) : Int), 0⟩ : NV)) (spn := []) rfl rfl rfl rfl rfl Try.underlying22 hiN hzN hszN rfl hq 2 rfl 0 rfl flatN hcap rfl (by decide) (fun u hu => by
       simp only [NV.cells, List.mem_cons, List.not_mem_nil, or_false] at hu
       rcases hu with rfl | rfl | rfl | rfl | rfl | rfl <;> rfl) (by unfold maxLen; omega) (by rw [hbyN]; omega) (fun b' sp' cap' hlen => ?_)
     simp only [e1, e2] at hlen ⊢
     refine GoH.callM _ rfl rfl rfl rfl rfl (fun _ _ => Try.call115 _ _) (fun w _ hS => (by exact short_c (some ⟨b', 0, none⟩) cap' (f ++ [(⟨op, i, e, g, ((f.length - 1 : Nat) : Int), 0⟩ : NV)]) w ⟨Sl.blk (hS.get (j := 2) rfl)⟩ hL.nodes (by simp) (by simp; omega))) ?_
     rintro v w1 w2 Y' hS he ho
     rw [show treeAt (f ++ [(⟨op, i, e, g, ((f.length - 1 : Nat) : Int), 0⟩ : NV)]) ((f ++ [(⟨op, i, e, g, ((f.length - 1 : Nat) : Int), 0⟩ : NV)]).length - 1) = .un op i e g t from by rw [← e2, Nat.add_sub_cancel]; exact hL.last] at ho
     obtain ⟨qr, capr, spr, rfl, hqr, hcapr, hS'⟩ := gainN hS he ho
     refine ⟨_, hS', ?_⟩
     refine gAs ?_
     refine gE ?_
     refine GoH.ret Try.f79 Try.func79 rfl (fun w' hS => ?_)
     exact ⟨hS.ext, OwnN.mk hS 0 rfl rfl hqr hcapr⟩
set_option maxRecDepth 8000 in
theorem rbinary_c (op i e g : Int) (a : Option Addr) (ca : Nat) (f : List NV) (t : Tr) (b : Option Addr) (cb : Nat) (h : List NV) (u : Tr) (w : World) (hop : 1 ≤ op ∧ op ≤ 21) (hY : usY op = true) (hf : fldE op i e g = 0) (ha : FA w a f) (hft : f = bT t) (ht : t.ok) (hb : FA w b h) (hhu : h = bT u) (hu : u.ok) : Cn Try.prog 77 [NV.v ⟨op, i, e, g, 0, 0⟩, .slice a f.length ca, .slice b h.length cb] w (fun v w' => OwnN 49 w w' v (bT (.bin op i e g t u))) := by
  obtain ⟨iN, hiN, hzN, hszN, hbyN⟩ := info_parts infoN
  have hfl : f.length ≤ 200 := by rw [hft]; exact bT_le t
  have hhl : h.length ≤ 200 := by rw [hhu]; exact bT_le u
  refine Cn.of Try.func77 rfl rfl ?_
  refine gS (gR ?_)
  refine GoH.bx rfl rfl rfl rfl (fun b3 => ?_)
  refine gAs ?_
  refine gE (gS (gS (gR ?_)))
  refine gMv ?_
  refine GoH.callP rfl rfl rfl rfl rfl (fun _ _ => Try.call17 _ _) (fun w _ hS => (by exact rchk_c a ca f w (ha.ex0 hS.ext) (by unfold maxLen; omega))) ?_
  refine gBi bNe ?_
  refine gMv ?_
  refine GoH.cases (d := 14) rfl (fun hc => ?_) (fun hc => ?_)
  ·
   have h1 : chkF f ≠ 0 := by simpa using hc
   have hb2 : bT (.bin op i e g t u) = [] := by rw [← bld_bin ht hu hop hY hf, ← hft, ← hhu]; exact bldF_bad ⟨f, by simp, h1⟩
   iterate 3 refine gNo ?_
   refine gPt ?_
   refine gE (GoH.condT rfl (gS (gR ?_)))
   refine gAs ?_
   refine gE ?_
   refine GoH.ret Try.f77 Try.func77 rfl (fun w' hS => ?_)
   exact ⟨hS.ext, by rw [hb2]; exact OwnN.nil0⟩
  ·
   have h1 : chkF f = 0 := by simpa using hc
   refine gMv ?_
   refine GoH.callP rfl rfl rfl rfl rfl (fun _ _ => Try.call17 _ _) (fun w _ hS => (by exact rchk_c b cb h w (hb.ex0 hS.ext) (by unfold maxLen; omega))) ?_
   refine gBi bNe ?_
   refine gPf ?_
   refine gE ?_
   refine GoH.cond rfl (fun hc => ?_) (fun hc => ?_)
   ·
    have h2 : chkF h ≠ 0 := by simpa using hc
    have hb2 : bT (.bin op i e g t u) = [] := by rw [← bld_bin ht hu hop hY hf, ← hft, ← hhu]; exact bldF_bad ⟨h, by simp, h2⟩
    refine gS (gR ?_)
    refine gAs ?_
    refine gE ?_
    refine GoH.ret Try.f77 Try.func77 rfl (fun w' hS => ?_)
    exact ⟨hS.ext, by rw [hb2]; exact OwnN.nil0⟩
   ·
    have h2 : chkF h = 0 := by simpa using hc
    have hcf : Cf f t := by
      rcases cf_of hft ht with h | h
      · exact absurd h1 h.2
      · exact h.1
    have hch : Cf h u := by
      rcases cf_of hhu hu with h | h
      · exact absurd h2 h.2
      · exact h.1
    have hp := hcf.pos
    have hp2 := hch.pos
    have hF0 : LT f (subT t) := by rw [hcf.can.1]; exact LT.can ht
    have hH0 : LT h (subT u) := by rw [hch.can.1]; exact LT.can hu
    have hsl : (subT t).length = f.length := hF0.len
    have hsl2 : (subT u).length = h.length := hH0.len
    have hL0 := hF0.cat hH0
    have hcl : (catN f h).length = f.length + h.length := catN_len
    have hL := hL0.bin (n := ⟨op, i, e, g, ((f.length - 1 : Nat) : Int), (((catN f h).length - 1 : Nat) : Int)⟩) hop hY hf (k := (subT t).length - 1) (by dsimp only; rw [hsl]) (by rw [List.getElem?_append_left (by omega)]; exact subT_get) (l := (subT t).length + ((subT u).length - 1)) (by dsimp only; rw [hcl]; omega) (by rw [List.getElem?_append_right (by omega), Nat.add_sub_cancel_left]; exact subT_get)
    have hnE : nodeE ⟨op, i, e, g, ((f.length - 1 : Nat) : Int), (((catN f h).length - 1 : Nat) : Int)⟩ ((catN f h).length : Int) = 0 := nodeE_zero.2 (by have := hL.nodes (catN f h).length (by simp); simpa using this)
    have hokh := hch.okF
    refine gK (gS (gR ?_))
    refine gAs ?_
    refine gE (gS (gS (gR ?_)))
    refine gAs ?_
    refine gE (gB ?_)
    refine GoH.addNone (obN 49 [] []) ?_
    refine GoH.pick (pre := [_, _]) (pre' := [_, _]) [1, 0] (by decide) rfl ?_
    refine GoH.loop (σ := Nat × Option Nat × Nat × List Value) (fun z => [(1, .slice a f.length ca), (2, .slice b h.length cb), (3, .pointer (some ⟨b3, 0, none⟩)), (7, osv z.2.1 (f.take z.1).length z.2.2.1), (8, .int .i64 z.1)]) (fun z => [(some b3, .cells (NV.cells ⟨op, i, e, g, 0, 0⟩).toArray 49 (0, 0)), (z.2.1, obN 49 (f.take z.1) z.2.2.2)])
      (fun z => z.1 ≤ f.length ∧ (z.2.1 = none → (f.take z.1).length = 0 ∧ z.2.2.1 = 0) ∧ ((f.take z.1).flatMap NV.cells ++ z.2.2.2).length = z.2.2.1 * 6) (fun z => f.length - z.1) (0, none, 0, []) ⟨Nat.zero_le _, fun _ => ⟨rfl, rfl⟩, rfl⟩ ⟨rfl, rfl, rfl, rfl, rfl, trivial⟩ (List.Sublist.refl _) (fun z hI IH => ?_)
    obtain ⟨k, q, cap, sp⟩ := z
    obtain ⟨hk, hq, hcap⟩ := hI
    dsimp only at hk hq hcap IH ⊢
    have htl : (f.take k).length ≤ 200 := by rw [List.length_take]; omega
    refine gS (gS (gR ?_))
    iterate 2 refine gMv ?_
    refine gBl Try.underlying22 ?_
    refine gBi bLt ?_
    refine gE ?_
    refine GoH.cond rfl (fun hc => ?_) (fun hc => ?_)
    ·
     have hlt : k < f.length := by simpa using hc
     refine gK (gS (gB (gR ?_)))
     iterate 3 refine gMv ?_
     refine GoH.v (Vop.idxN rfl rfl rfl rfl rfl Try.underlying22 Try.sizeOf49 ⟨_, (ha).at_⟩ (flat_len (enc := NV.cells) (sz := 6) (fun _ => rfl)) (by decide) (k) ⟨rfl, hlt⟩) ?_
     refine GoH.v (Vop.ldN (cs := NV.cells f[k]) rfl rfl rfl rfl Try.isAgg49 Try.sizeOf49 (fun w _ hS => Sl.many (enc := NV.cells) (sz := 6) (ha.ex0 hS.ext).at_ (fun _ => rfl) hlt)) ?_
     refine GoH.bsN (c := [_, _, _, _, _, _]) rfl rfl rfl rfl Try.underlying22 Try.sizeOf49 Try.zeroValue49 rfl rfl (fun b30 => ?_)
     have e1 : (f.take k).flatMap NV.cells ++ NV.cells f[k] = (f.take (k + 1)).flatMap NV.cells := by rw [List.take_succ_eq_append_getElem hlt, List.flatMap_append]; simp
     have e2 : (f.take k).length + 1 = (f.take (k + 1)).length := by rw [List.length_take, List.length_take]; omega
     refine GoH.app 6 (xs := (f.take k).flatMap NV.cells) (sp := sp) (nx := (f.take k).length) (q := q) (news := NV.cells f[k]) (spn := []) rfl rfl rfl rfl rfl Try.underlying22 hiN hzN hszN rfl hq 2 rfl 0 rfl flatN hcap rfl (by decide) (fun u hu => by
       simp only [NV.cells, List.mem_cons, List.not_mem_nil, or_false] at hu
       rcases hu with rfl | rfl | rfl | rfl | rfl | rfl <;> rfl) (by unfold maxLen; omega) (by rw [hbyN]; omega) (fun b' sp' cap' hlen => ?_)
     simp only [e1, e2] at hlen ⊢
     refine gAs ?_
     refine gE (gIb (gR ?_))
     refine gMv ?_
     refine GoH.v (Vop.bin rfl rfl rfl rfl (bAdd (by omega)) rfl) ?_
     refine gAs ?_
     refine gE ?_
     exact IH (k + 1, some b', cap', sp') _ _ ⟨hlt, (fun e => by cases e), hlen⟩ (by dsimp only; omega) ⟨rfl, rfl, rfl, rfl, rfl, trivial⟩ (.cons _ (List.Sublist.refl _))
    ·
     have hge : ¬ k < f.length := by simpa using hc
     obtain rfl : k = f.length := by omega
     rw [List.take_length] at hq hcap htl
     rw [List.take_length]
     refine GoH.exit rfl (gS (gS (gR ?_)))
     refine gAs ?_
     refine gE (gB ?_)
     refine GoH.loop (σ := Nat × Option Nat × Nat × List Value) (fun z => [(1, .slice a f.length ca), (2, .slice b h.length cb), (3, .pointer (some ⟨b3, 0, none⟩)), (7, osv z.2.1 (catN f (h.take z.1)).length z.2.2.1), (9, .int .i64 z.1)]) (fun z => [(some b3, .cells (NV.cells ⟨op, i, e, g, 0, 0⟩).toArray 49 (0, 0)), (z.2.1, obN 49 (catN f (h.take z.1)) z.2.2.2)])
       (fun z => z.1 ≤ h.length ∧ (z.2.1 = none → (catN f (h.take z.1)).length = 0 ∧ z.2.2.1 = 0) ∧ ((catN f (h.take z.1)).flatMap NV.cells ++ z.2.2.2).length = z.2.2.1 * 6) (fun z => h.length - z.1) (0, q, cap, sp) (by rw [cat_zero]; exact ⟨Nat.zero_le _, hq, hcap⟩) (by rw [cat_zero]; exact ⟨rfl, rfl, rfl, rfl, rfl, trivial⟩) (by rw [cat_zero]; exact List.Sublist.refl _) (fun z hI IH2 => ?_)
     obtain ⟨m, q, cap, sp⟩ := z
     obtain ⟨hm0, hq, hcap⟩ := hI
     dsimp only at hm0 hq hcap IH2 ⊢
     have hcl2 : (catN f (h.take m)).length ≤ 1000 := by rw [catN_len, List.length_take]; omega
     refine gS (gS (gR ?_))
     iterate 2 refine gMv ?_
     refine gBl Try.underlying22 ?_
     refine gBi bLt ?_
     refine gE ?_
     refine GoH.cond rfl (fun hc => ?_) (fun hc => ?_)
     ·
      have hm : m < h.length := by simpa using hc
      have hokn := hokh.at m hm
      refine gK (gS (gB (gS (gR ?_))))
      iterate 2 refine gMv ?_
      refine GoH.v (Vop.idxN rfl rfl rfl rfl rfl Try.underlying22 Try.sizeOf49 ⟨_, (hb).at_⟩ (flat_len (enc := NV.cells) (sz := 6) (fun _ => rfl)) (by decide) (m) ⟨rfl, hm⟩) ?_
      refine GoH.v (Vop.ldN (cs := NV.cells h[m]) rfl rfl rfl rfl Try.isAgg49 Try.sizeOf49 (fun w _ hS => Sl.many (enc := NV.cells) (sz := 6) (hb.ex0 hS.ext).at_ (fun _ => rfl) hm)) ?_
      refine GoH.alc rfl rfl rfl (fun _ => Try.zeroValue49 _) (fun b10 => ?_)
      refine GoH.stB rfl rfl rfl rfl Try.sizeOf49 0 rfl rfl rfl rfl ?_
      refine gE (gS (gS (gR ?_)))
      refine gFp Try.underlying49 Try.sizeOf3 0 ?_
      refine gLo Try.isAgg3 0 ?_
      refine GoH.callP rfl rfl rfl rfl rfl (fun _ _ => Try.call42 _ _) (fun w _ hS => (by exact usesX_c h[m].op w)) ?_
      refine gE ?_
      refine GoH.cond rfl (fun hc => ?_) (fun hc => ?_)
      ·
       have hX : usX h[m].op = true := hc
       have hxr := hokn.x hX
       refine gR ?_
       refine gFp Try.underlying49 Try.sizeOf3 4 ?_
       refine gLo Try.isAgg3 0 ?_
       refine gMv ?_
       refine gBl Try.underlying22 ?_
       refine GoH.v (Vop.bin rfl rfl rfl rfl (bAdd (by omega)) rfl) ?_
       refine gFp Try.underlying49 Try.sizeOf3 4 ?_
       refine GoH.st rfl rfl rfl rfl Try.sizeOf3 rfl 0 rfl rfl ?_
       refine gE (gS (gS (gR ?_)))
       refine gFp Try.underlying49 Try.sizeOf3 0 ?_
       refine gLo Try.isAgg3 0 ?_
       refine GoH.callP rfl rfl rfl rfl rfl (fun _ _ => Try.call43 _ _) (fun w _ hS => (by exact usesY_c h[m].op w)) ?_
       refine gE ?_
       refine GoH.cond rfl (fun hc => ?_) (fun hc => ?_)
       ·
        have hY2 : usY h[m].op = true := hc
        have hyr := hokn.y hY2
        refine gR ?_
        refine gFp Try.underlying49 Try.sizeOf3 5 ?_
        refine gLo Try.isAgg3 0 ?_
        refine gMv ?_
        refine gBl Try.underlying22 ?_
        refine GoH.v (Vop.bin rfl rfl rfl rfl (bAdd (by omega)) rfl) ?_
        refine gFp Try.underlying49 Try.sizeOf3 5 ?_
        refine GoH.st rfl rfl rfl rfl Try.sizeOf3 rfl 0 rfl rfl ?_
        refine gE (gR ?_)
        refine gMv ?_
        refine GoH.v (Vop.ldB rfl rfl rfl rfl Try.isAgg49 0 rfl Try.sizeOf49 rfl) ?_
        refine GoH.bsN (c := [_, _, _, _, _, _]) rfl rfl rfl rfl Try.underlying22 Try.sizeOf49 Try.zeroValue49 rfl rfl (fun b62 => ?_)
        have hsh : shiftN f.length h[m] = ({ h[m] with x := (h[m]).x + (f.length : Int), y := (h[m]).y + (f.length : Int) } : NV) := by simp [shiftN, hX, hY2]
        have hct := cat_take (o := f) hm
        rw [hsh] at hct
        have e1 : (catN f (h.take m)).flatMap NV.cells ++ NV.cells ({ h[m] with x := (h[m]).x + (f.length : Int), y := (h[m]).y + (f.length : Int) } : NV) = (catN f (h.take (m + 1))).flatMap NV.cells := by rw [hct, List.flatMap_append]; simp
        have e2 : (catN f (h.take m)).length + 1 = (catN f (h.take (m + 1))).length := by rw [hct]; simp
        refine GoH.app 6 (xs := (catN f (h.take m)).flatMap NV.cells) (sp := sp) (nx := (catN f (h.take m)).length) (q := q) (news := NV.cells ({ h[m] with x := (h[m]).x + (f.length : Int), y := (h[m]).y + (f.length : Int) } : NV)) (spn := []) rfl rfl rfl rfl rfl Try.underlying22 hiN hzN hszN rfl hq 3 rfl 0 rfl flatN hcap rfl (by decide) (fun u hu => by
          simp only [NV.cells, List.mem_cons, List.not_mem_nil, or_false] at hu
          rcases hu with rfl | rfl | rfl | rfl | rfl | rfl <;> rfl) (by unfold maxLen; omega) (by rw [hbyN]; omega) (fun b' sp' cap' hlen => ?_)
        simp only [e1, e2] at hlen ⊢
        refine gAs ?_
        refine gE (gIb (gR ?_))
        refine gMv ?_
        refine GoH.v (Vop.bin rfl rfl rfl rfl (bAdd (by omega)) rfl) ?_
        refine gAs ?_
        refine gE ?_
        exact IH2 (m + 1, some b', cap', sp') _ _ ⟨hm, (fun e => by cases e), hlen⟩ (by dsimp only; omega) ⟨rfl, rfl, rfl, rfl, rfl, trivial⟩ (.cons _ (.cons _ (List.Sublist.refl _)))
       ·
        have hY2 : usY h[m].op = false := hc
        refine gK (gR ?_)
        refine gMv ?_
        refine GoH.v (Vop.ldB rfl rfl rfl rfl Try.isAgg49 0 rfl Try.sizeOf49 rfl) ?_
        refine GoH.bsN (c := [_, _, _, _, _, _]) rfl rfl rfl rfl Try.underlying22 Try.sizeOf49 Try.zeroValue49 rfl rfl (fun b62 => ?_)
        have hsh : shiftN f.length h[m] = ({ h[m] with x := (h[m]).x + (f.length : Int) } : NV) := by simp [shiftN, hX, hY2]
        have hct := cat_take (o := f) hm
        rw [hsh] at hct
        have e1 : (catN f (h.take m)).flatMap NV.cells ++ NV.cells ({ h[m] with x := (h[m]).x + (f.length : Int) } : NV) = (catN f (h.take (m + 1))).flatMap NV.cells := by rw [hct, List.flatMap_append]; simp
        have e2 : (catN f (h.take m)).length + 1 = (catN f (h.take (m + 1))).length := by rw [hct]; simp
        refine GoH.app 6 (xs := (catN f (h.take m)).flatMap NV.cells) (sp := sp) (nx := (catN f (h.take m)).length) (q := q) (news := NV.cells ({ h[m] with x := (h[m]).x + (f.length : Int) } : NV)) (spn := []) rfl rfl rfl rfl rfl Try.underlying22 hiN hzN hszN rfl hq 3 rfl 0 rfl flatN hcap rfl (by decide) (fun u hu => by
          simp only [NV.cells, List.mem_cons, List.not_mem_nil, or_false] at hu
          rcases hu with rfl | rfl | rfl | rfl | rfl | rfl <;> rfl) (by unfold maxLen; omega) (by rw [hbyN]; omega) (fun b' sp' cap' hlen => ?_)
        simp only [e1, e2] at hlen ⊢
        refine gAs ?_
        refine gE (gIb (gR ?_))
        refine gMv ?_
        refine GoH.v (Vop.bin rfl rfl rfl rfl (bAdd (by omega)) rfl) ?_
        refine gAs ?_
        refine gE ?_
        exact IH2 (m + 1, some b', cap', sp') _ _ ⟨hm, (fun e => by cases e), hlen⟩ (by dsimp only; omega) ⟨rfl, rfl, rfl, rfl, rfl, trivial⟩ (.cons _ (.cons _ (List.Sublist.refl _)))
      ·
       have hX : usX h[m].op = false := hc
       have hY2 := usX_of_Y hX
       refine gK (gS (gS (gR ?_)))
       refine gFp Try.underlying49 Try.sizeOf3 0 ?_
       refine gLo Try.isAgg3 0 ?_
       refine GoH.callP rfl rfl rfl rfl rfl (fun _ _ => Try.call43 _ _) (fun w _ hS => (by exact usesY_c h[m].op w)) ?_
       refine gE ?_
       refine GoH.cond rfl (fun hc => ?_) (fun hc => ?_)
       ·
        exact absurd (hY2.symm.trans hc) (by decide)
       ·
        refine gK (gR ?_)
        refine gMv ?_
        refine GoH.v (Vop.ldB rfl rfl rfl rfl Try.isAgg49 0 rfl Try.sizeOf49 rfl) ?_
        refine GoH.bsN (c := [_, _, _, _, _, _]) rfl rfl rfl rfl Try.underlying22 Try.sizeOf49 Try.zeroValue49 rfl rfl (fun b62 => ?_)
        have hsh : shiftN f.length h[m] = h[m] := by simp [shiftN, hX, hY2]
        have hct := cat_take (o := f) hm
        rw [hsh] at hct
        have e1 : (catN f (h.take m)).flatMap NV.cells ++ NV.cells h[m] = (catN f (h.take (m + 1))).flatMap NV.cells := by rw [hct, List.flatMap_append]; simp
        have e2 : (catN f (h.take m)).length + 1 = (catN f (h.take (m + 1))).length := by rw [hct]; simp
        refine GoH.app 6 (xs := (catN f (h.take m)).flatMap NV.cells) (sp := sp) (nx := (catN f (h.take m)).length) (q := q) (news := NV.cells h[m]) (spn := []) rfl rfl rfl rfl rfl Try.underlying22 hiN hzN hszN rfl hq 3 rfl 0 rfl flatN hcap rfl (by decide) (fun u hu => by
          simp only [NV.cells, List.mem_cons, List.not_mem_nil, or_false] at hu
          rcases hu with rfl | rfl | rfl | rfl | rfl | rfl <;> rfl) (by unfold maxLen; omega) (by rw [hbyN]; omega) (fun b' sp' cap' hlen => ?_)
        simp only [e1, e2] at hlen ⊢
        refine gAs ?_
        refine gE (gIb (gR ?_))
        refine gMv ?_
        refine GoH.v (Vop.bin rfl rfl rfl rfl (bAdd (by omega)) rfl) ?_
        refine gAs ?_
        refine gE ?_
        exact IH2 (m + 1, some b', cap', sp') _ _ ⟨hm, (fun e => by cases e), hlen⟩ (by dsimp only; omega) ⟨rfl, rfl, rfl, rfl, rfl, trivial⟩ (.cons _ (.cons _ (List.Sublist.refl _)))
     ·
      have hge : ¬ m < h.length := by simpa using hc
      obtain rfl : m = h.length := by omega
      rw [List.take_length] at hq hcap hcl2
      rw [List.take_length]
      refine GoH.exit rfl (gS (gR ?_))
      refine gMv ?_
      refine gBl Try.underlying22 ?_
      refine GoH.v (Vop.bin rfl rfl rfl rfl (bSubE (c := ((f.length - 1 : Nat) : Int)) (by omega) (by omega)) rfl) ?_
      refine gMv ?_
      refine gBl Try.underlying22 ?_
      refine GoH.v (Vop.bin rfl rfl rfl rfl (bSubE (c := (((catN f h).length - 1 : Nat) : Int)) (by omega) (by omega)) rfl) ?_
      refine gFp Try.underlying49 Try.sizeOf3 4 ?_
      refine GoH.st rfl rfl rfl rfl Try.sizeOf3 rfl 0 rfl rfl ?_
      refine gFp Try.underlying49 Try.sizeOf3 5 ?_
      refine GoH.st rfl rfl rfl rfl Try.sizeOf3 rfl 0 rfl rfl ?_
      refine gE (gS (gS (gR ?_)))
      refine GoH.v (Vop.ldB rfl rfl rfl rfl Try.isAgg49 0 rfl Try.sizeOf49 rfl) ?_
      refine gMv ?_
      refine gBl Try.underlying22 ?_
      refine GoH.callP rfl rfl rfl rfl rfl (fun _ _ => Try.call52 _ _) (fun w _ hS => (by exact rnode_c (⟨op, i, e, g, ((f.length - 1 : Nat) : Int), (((catN f h).length - 1 : Nat) : Int)⟩ : NV) ((catN f h).length : Int) w)) ?_
      refine gBi bNe ?_
      refine gE ?_
      refine GoH.cond rfl (fun hc => ?_) (fun hc => ?_)
      ·
       exact absurd hc (by rw [hnE]; decide)
      ·
       refine gK (gS (gR ?_))
       refine gMv ?_
       refine GoH.v (Vop.ldB rfl rfl rfl rfl Try.isAgg49 0 rfl Try.sizeOf49 rfl) ?_
       refine GoH.bsN (c := [_, _, _, _, _, _]) rfl rfl rfl rfl Try.underlying22 Try.sizeOf49 Try.zeroValue49 rfl rfl (fun b79 => ?_)
       have e1 : (catN f h).flatMap NV.cells ++ NV.cells (⟨op, i, e, g, ((f.length - 1 : Nat) : Int), (((catN f h).length - 1 : Nat) : Int)⟩ : NV) = (catN f h ++ [(⟨op, i, e, g, ((f.length - 1 : Nat) : Int), (((catN f h).length - 1 : Nat) : Int)⟩ : NV)]).flatMap NV.cells := by rw [List.flatMap_append]; simp
       have e2 : (catN f h).length + 1 = (catN f h ++ [(⟨op, i, e, g, ((f.length - 1 : Nat) : Int), (((catN f h).length - 1 : Nat) : Int)⟩ : NV)]).length := by simp
       refine GoH.app 6 (xs := (catN f h).flatMap NV.cells) (sp := sp) (nx := (catN f h).length) (q := q) (news := NV.cells (⟨op, i, e, g, ((f.length - 1 : Nat) : Int), (((catN f h).length - 1 : Nat) : Int)⟩ : NV)) (spn := []) rfl rfl rfl rfl rfl Try.underlying22 hiN hzN hszN rfl hq 2 rfl 0 rfl flatN hcap rfl (by decide) (fun u hu => by
         simp only [NV.cells, List.mem_cons, List.not_mem_nil, or_false] at hu
         rcases hu with rfl | rfl | rfl | rfl | rfl | rfl <;> rfl) (by unfold maxLen; omega) (by rw [hbyN]; omega) (fun b' sp' cap' hlen => ?_)
       simp only [e1, e2] at hlen ⊢
       refine GoH.callM _ rfl rfl rfl rfl rfl (fun _ _ => Try.call115 _ _) (fun w _ hS => (by exact short_c (some ⟨b', 0, none⟩) cap' (catN f h ++ [(⟨op, i, e, g, ((f.length - 1 : Nat) : Int), (((catN f h).length - 1 : Nat) : Int)⟩ : NV)]) w ⟨Sl.blk (hS.get (j := 2) rfl)⟩ hL.nodes (by simp) (by simp; omega))) ?_
       rintro v w1 w2 Y' hS he ho
       rw [show treeAt (catN f h ++ [(⟨op, i, e, g, ((f.length - 1 : Nat) : Int), (((catN f h).length - 1 : Nat) : Int)⟩ : NV)]) ((catN f h ++ [(⟨op, i, e, g, ((f.length - 1 : Nat) : Int), (((catN f h).length - 1 : Nat) : Int)⟩ : NV)]).length - 1) = .bin op i e g t u from by rw [← e2, Nat.add_sub_cancel]; exact hL.last] at ho
       obtain ⟨qr, capr, spr, rfl, hqr, hcapr, hS'⟩ := gainN hS he ho
       refine ⟨_, hS', ?_⟩
       refine gAs ?_
       refine gE ?_
       refine GoH.ret Try.f77 Try.func77 rfl (fun w' hS => ?_)
       exact ⟨hS.ext, OwnN.mk hS 0 rfl rfl hqr hcapr⟩
theorem rone_c (op i e g : Int) (w : World) (hop : 1 ≤ op ∧ op ≤ 21) (hX : usX op = false) (hf : fldE op i e g = 0) : Cn Try.prog 78 [NV.v ⟨op, i, e, g, 0, 0⟩] w (fun v w' => OwnN 49 w w' v (bT (.leaf op i e g))) := by
  have hY := usX_of_Y hX
  have hnE : nodeE ⟨op, i, e, g, 0, 0⟩ 0 = 0 := nodeE_zero.2 ⟨hop, fun e => absurd (hX.symm.trans e) (by decide), fun _ => rfl, fun e => absurd (hY.symm.trans e) (by decide), fun _ => rfl, hf⟩
  have hbt : bT (.leaf op i e g) = [⟨op, i, e, g, 0, 0⟩] := by rw [bT_ok (by rw [canT_leaf]; omega)]; rfl
  refine Cn.of Try.func78 rfl rfl ?_
  refine gS (gR ?_)
  refine GoH.bx rfl rfl rfl rfl (fun b1 => ?_)
  refine gAs ?_
  refine gE (gS (gS (gR ?_)))
  refine GoH.v (Vop.ldB rfl rfl rfl rfl Try.isAgg49 0 rfl Try.sizeOf49 rfl) ?_
  refine GoH.callP rfl rfl rfl rfl rfl (fun _ _ => Try.call52 _ _) (fun w _ hS => (by exact rnode_c ⟨op, i, e, g, 0, 0⟩ 0 w)) ?_
  refine gBi bNe ?_
  refine gE ?_
  refine GoH.cond rfl (fun hc => ?_) (fun hc => ?_)
  ·
   exact absurd hc (by rw [hnE]; decide)
  ·
   refine gK (gS (gR ?_))
   refine GoH.v (Vop.ldB rfl rfl rfl rfl Try.isAgg49 0 rfl Try.sizeOf49 rfl) ?_
   refine GoH.bsN (c := [_, _, _, _, _, _]) rfl rfl rfl rfl Try.underlying22 Try.sizeOf49 Try.zeroValue49 rfl rfl (fun b7 => ?_)
   refine gAs ?_
   refine gE ?_
   refine GoH.ret Try.f78 Try.func78 rfl (fun w' hS => ?_)
   rw [hbt]
   exact ⟨hS.ext, some b7, 1, [], rfl, (fun e => by cases e), rfl, fun b hb => by cases hb; exact ⟨hS.fresh (j := 0) rfl, hS.get (j := 0) rfl⟩⟩
end Go.Proofs.Ytkoipdlkkchmiaa
namespace Go.Proofs.Ytkoipdlkkchmiaa
open Go.RowKit Go.Proofs.Wit
/-! the reference's makers of formulas, by name -/
theorem rtrue_c (w : World) : Cn Try.prog 39 [] w (fun v w' => OwnN 49 w w' v (bT (cT 1))) := by
  refine Cn.of Try.func39 rfl rfl ?_
  refine gS (gR ?_)
  refine gAs ?_
  refine gE (gS (gR ?_))
  refine GoH.v (Vop.bld rfl rfl rfl rfl (bld (c := [_, _, _, _, _, _]) Try.underlying49 (Szs.cons Try.sizeOf3 (Szs.cons Try.sizeOf3 (Szs.cons Try.sizeOf3 (Szs.cons Try.sizeOf3 (Szs.cons Try.sizeOf3 (Szs.cons Try.sizeOf3 Szs.nil)))))) Try.zeroValue49 rfl)) ?_
  refine GoH.callM _ rfl rfl rfl rfl rfl (fun _ _ => Try.call78 _ _) (fun w _ hS => (by exact rone_c 1 0 0 0 w (by decide) rfl rfl)) ?_
  rintro v w1 w2 Y' hS he ho
  obtain ⟨q, cap, sp, rfl, hq, hcap, hS'⟩ := gainN hS he ho
  refine ⟨_, hS', ?_⟩
  refine gAs ?_
  refine gE ?_
  refine GoH.ret Try.f39 Try.func39 rfl (fun w' hS => ?_)
  exact ⟨hS.ext, OwnN.mk hS 0 rfl rfl hq hcap⟩
theorem rfact_c (i : Nat) (hi : i < 8) (w : World) : Cn Try.prog 36 [.int .i64 i] w (fun v w' => OwnN 49 w w' v (bT (.leaf 3 i 0 0))) := by
  have hf : fldE 3 (i : Int) 0 0 = 0 := by
    have : ∀ j : Fin 8, fldE 3 ((j.val : Nat) : Int) 0 0 = 0 := by decide
    exact this ⟨i, hi⟩
  refine Cn.of Try.func36 rfl rfl ?_
  refine gS (gR ?_)
  refine gAs ?_
  refine gE (gS (gR ?_))
  refine gMv ?_
  refine GoH.v (Vop.bld rfl rfl rfl rfl (bld (c := [_, _, _, _, _, _]) Try.underlying49 (Szs.cons Try.sizeOf3 (Szs.cons Try.sizeOf3 (Szs.cons Try.sizeOf3 (Szs.cons Try.sizeOf3 (Szs.cons Try.sizeOf3 (Szs.cons Try.sizeOf3 Szs.nil)))))) Try.zeroValue49 rfl)) ?_
  refine GoH.callM _ rfl rfl rfl rfl rfl (fun _ _ => Try.call78 _ _) (fun w _ hS => (by exact rone_c 3 i 0 0 w (by decide) rfl hf)) ?_
  rintro v w1 w2 Y' hS he ho
  obtain ⟨q, cap, sp, rfl, hq, hcap, hS'⟩ := gainN hS he ho
  refine ⟨_, hS', ?_⟩
  refine gAs ?_
  refine gE ?_
  refine GoH.ret Try.f36 Try.func36 rfl (fun w' hS => ?_)
  exact ⟨hS.ext, OwnN.mk hS 0 rfl rfl hq hcap⟩
theorem rnot_c (a : Option Addr) (ca : Nat) (f : List NV) (t : Tr) (w : World) (ha : FA w a f) (hf : f = bT t) (ht : t.ok) : Cn Try.prog 38 [.slice a f.length ca] w (fun v w' => OwnN 49 w w' v (bT (ntT t))) := by
  refine Cn.of Try.func38 rfl rfl ?_
  refine gS (gR ?_)
  refine gAs ?_
  refine gE (gS (gR ?_))
  refine GoH.v (Vop.bld rfl rfl rfl rfl (bld (c := [_, _, _, _, _, _]) Try.underlying49 (Szs.cons Try.sizeOf3 (Szs.cons Try.sizeOf3 (Szs.cons Try.sizeOf3 (Szs.cons Try.sizeOf3 (Szs.cons Try.sizeOf3 (Szs.cons Try.sizeOf3 Szs.nil)))))) Try.zeroValue49 rfl)) ?_
  refine gMv ?_
  refine GoH.callM _ rfl rfl rfl rfl rfl (fun _ _ => Try.call79 _ _) (fun w _ hS => (by exact runary_c 4 0 0 0 a ca f t w (by decide) rfl rfl rfl (ha.ex0 hS.ext) hf ht)) ?_
  rintro v w1 w2 Y' hS he ho
  obtain ⟨q, cap, sp, rfl, hq, hcap, hS'⟩ := gainN hS he ho
  refine ⟨_, hS', ?_⟩
  refine gAs ?_
  refine gE ?_
  refine GoH.ret Try.f38 Try.func38 rfl (fun w' hS => ?_)
  exact ⟨hS.ext, OwnN.mk hS 0 rfl rfl hq hcap⟩
theorem rposs_c (i : Nat) (hi : i < 4) (a : Option Addr) (ca : Nat) (f : List NV) (t : Tr) (w : World) (ha : FA w a f) (hf : f = bT t) (ht : t.ok) : Cn Try.prog 37 [.int .i64 i, .slice a f.length ca] w (fun v w' => OwnN 49 w w' v (bT (.un 10 i 0 0 t))) := by
  refine Cn.of Try.func37 rfl rfl ?_
  refine gS (gR ?_)
  refine gAs ?_
  refine gE (gS (gR ?_))
  refine gMv ?_
  refine GoH.v (Vop.bld rfl rfl rfl rfl (bld (c := [_, _, _, _, _, _]) Try.underlying49 (Szs.cons Try.sizeOf3 (Szs.cons Try.sizeOf3 (Szs.cons Try.sizeOf3 (Szs.cons Try.sizeOf3 (Szs.cons Try.sizeOf3 (Szs.cons Try.sizeOf3 Szs.nil)))))) Try.zeroValue49 rfl)) ?_
  refine gMv ?_
  refine GoH.callM _ rfl rfl rfl rfl rfl (fun _ _ => Try.call79 _ _) (fun w _ hS => (by exact runary_c 10 i 0 0 a ca f t w (by decide) rfl rfl (fld_ag (.inr rfl) (by omega) (by omega)) (ha.ex0 hS.ext) hf ht)) ?_
  rintro v w1 w2 Y' hS he ho
  obtain ⟨q, cap, sp, rfl, hq, hcap, hS'⟩ := gainN hS he ho
  refine ⟨_, hS', ?_⟩
  refine gAs ?_
  refine gE ?_
  refine GoH.ret Try.f37 Try.func37 rfl (fun w' hS => ?_)
  exact ⟨hS.ext, OwnN.mk hS 0 rfl rfl hq hcap⟩
theorem rand_c (a : Option Addr) (ca : Nat) (f : List NV) (t : Tr) (b : Option Addr) (cb : Nat) (g : List NV) (u : Tr) (w : World) (ha : FA w a f) (hf : f = bT t) (ht : t.ok) (hb : FA w b g) (hg : g = bT u) (hu : u.ok) : Cn Try.prog 35 [.slice a f.length ca, .slice b g.length cb] w (fun v w' => OwnN 49 w w' v (bT (.bin 5 0 0 0 t u))) := by
  refine Cn.of Try.func35 rfl rfl ?_
  refine gS (gR ?_)
  refine gAs ?_
  refine gE (gS (gR ?_))
  refine GoH.v (Vop.bld rfl rfl rfl rfl (bld (c := [_, _, _, _, _, _]) Try.underlying49 (Szs.cons Try.sizeOf3 (Szs.cons Try.sizeOf3 (Szs.cons Try.sizeOf3 (Szs.cons Try.sizeOf3 (Szs.cons Try.sizeOf3 (Szs.cons Try.sizeOf3 Szs.nil)))))) Try.zeroValue49 rfl)) ?_
  iterate 2 refine gMv ?_
  refine GoH.callM _ rfl rfl rfl rfl rfl (fun _ _ => Try.call77 _ _) (fun w _ hS => (by exact rbinary_c 5 0 0 0 a ca f t b cb g u w (by decide) rfl rfl (ha.ex0 hS.ext) hf ht (hb.ex0 hS.ext) hg hu)) ?_
  rintro v w1 w2 Y' hS he ho
  obtain ⟨q, cap, sp, rfl, hq, hcap, hS'⟩ := gainN hS he ho
  refine ⟨_, hS', ?_⟩
  refine gAs ?_
  refine gE ?_
  refine GoH.ret Try.f35 Try.func35 rfl (fun w' hS => ?_)
  exact ⟨hS.ext, OwnN.mk hS 0 rfl rfl hq hcap⟩
end Go.Proofs.Ytkoipdlkkchmiaa
