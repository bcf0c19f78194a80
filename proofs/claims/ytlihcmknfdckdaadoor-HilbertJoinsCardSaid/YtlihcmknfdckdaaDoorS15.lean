/- What calls of the program return, under the conditions that each theorem states. -/
import Derived.Test.YtlihcmknfdckdaaDoorS13
import Derived.Test.YtlihcmknfdckdaaDoorS14
import Derived.Test.YtlihcmknfdckdaaDoorS04
namespace Go.Proofs.YtlihcmknfdckdaaDoor
open Go.RowKit Go.Proofs.Wit Tryd
/-! the program's other makers of formulas -/
theorem true_c (w : World) : Cn Tryd.prog 185 [] w (fun v w' => OwnN 80 w w' v (bldF ⟨1, 0, 0, 0, 0, 0⟩ [])) := by
 refine Cn.of func185 rfl rfl ?_
 refine gS (gR ?_); refine gAs ?_; refine gE (gS (gR ?_))
 refine GoH.v (Vop.bld rfl rfl rfl rfl (bld (c := [_, _, _, _, _, _]) underlying80 (Szs.cons sizeOf3 (Szs.cons sizeOf3 (Szs.cons sizeOf3 (Szs.cons sizeOf3 (Szs.cons sizeOf3 (Szs.cons sizeOf3 Szs.nil)))))) zeroValue80 rfl)) ?_
 refine gM rfl rfl rfl rfl rfl call99 (fun w _ hS => (by exact build_c ⟨1, 0, 0, 0, 0, 0⟩ none 0 [] [] w rfl (Sl.nil _ _) (fun g hg => by cases hg) (fun g hg => by cases hg) (by simp))) ?_
 rintro v w1 w2 Y' hS he ho
 obtain ⟨q, cap, sp, rfl, hq, hcap, hS'⟩ := gainN hS he ho
 refine ⟨_, hS', ?_⟩
 refine gAs ?_; refine gE ?_
 refine gT func185 fun w' hS => ?_
 exact ⟨hS.ext, OwnN.mk hS 0 rfl rfl hq hcap⟩
theorem not_c (a : Option Addr) (ca : Nat) (f : List NV) (w : World) (ha : FA w a f) (hl : f.length ≤ maxLen) : Cn Tryd.prog 173 [.slice a f.length ca] w (fun v w' => OwnN 80 w w' v (bldF ⟨4, 0, 0, 0, 0, 0⟩ [f])) := by
 refine Cn.of func173 rfl rfl ?_
 refine gS (gR ?_); refine gAs ?_; refine gE (gS (gR ?_))
 refine GoH.v (Vop.bld rfl rfl rfl rfl (bld (c := [_, _, _, _, _, _]) underlying80 (Szs.cons sizeOf3 (Szs.cons sizeOf3 (Szs.cons sizeOf3 (Szs.cons sizeOf3 (Szs.cons sizeOf3 (Szs.cons sizeOf3 Szs.nil)))))) zeroValue80 rfl)) ?_
 refine gMv ?_
 refine GoH.bsN (c := [_]) rfl rfl rfl rfl underlying111 sizeOf23 zeroValue23 rfl rfl (fun b5 => ?_)
 refine gM rfl rfl rfl rfl rfl call99 (fun w _ hS => (by exact build_c ⟨4, 0, 0, 0, 0, 0⟩ (some ⟨b5, 0, none⟩) 1 [⟨a, ca, f⟩] [f] w rfl (Sl.blk (sp := []) (hS.get (j := 0) rfl)) (fun g hg => by rw [List.mem_singleton.1 hg]; exact ha.ex0 hS.ext) (fun g hg => by rw [List.mem_singleton.1 hg]; exact hl) (by simp))) ?_
 rintro v w1 w2 Y' hS he ho
 obtain ⟨q, cap, sp, rfl, hq, hcap, hS'⟩ := gainN hS he ho
 refine ⟨_, hS', ?_⟩
 refine gAs ?_; refine gE ?_
 refine gT func173 fun w' hS => ?_
 exact ⟨hS.ext, OwnN.mk hS 0 rfl rfl hq hcap⟩
theorem and_c (a : Option Addr) (ca : Nat) (f : List NV) (b : Option Addr) (cb : Nat) (g : List NV) (w : World) (ha : FA w a f) (hl : f.length ≤ maxLen) (hb : FA w b g) (hl2 : g.length ≤ maxLen) : Cn Tryd.prog 128 [.slice a f.length ca, .slice b g.length cb] w (fun v w' => OwnN 80 w w' v (bldF ⟨5, 0, 0, 0, 0, 0⟩ [f, g])) := by
 refine Cn.of func128 rfl rfl ?_
 refine gS (gR ?_); refine gAs ?_; refine gE (gS (gR ?_))
 refine GoH.v (Vop.bld rfl rfl rfl rfl (bld (c := [_, _, _, _, _, _]) underlying80 (Szs.cons sizeOf3 (Szs.cons sizeOf3 (Szs.cons sizeOf3 (Szs.cons sizeOf3 (Szs.cons sizeOf3 (Szs.cons sizeOf3 Szs.nil)))))) zeroValue80 rfl)) ?_
 iterate 2 refine gMv ?_
 refine GoH.bsN (c := [_, _]) rfl rfl rfl rfl underlying111 sizeOf23 zeroValue23 rfl rfl (fun b8 => ?_)
 refine gM rfl rfl rfl rfl rfl call99 (fun w _ hS => (by exact build_c ⟨5, 0, 0, 0, 0, 0⟩ (some ⟨b8, 0, none⟩) 2 [⟨a, ca, f⟩, ⟨b, cb, g⟩] [f, g] w rfl (Sl.blk (sp := []) (hS.get (j := 0) rfl)) (all2 (p := fun g : FV => FA _ g.a g.f) (ha.ex0 hS.ext) (hb.ex0 hS.ext)) (all2 (p := fun g : FV => g.f.length ≤ maxLen) hl hl2) (by simp))) ?_
 rintro v w1 w2 Y' hS he ho
 obtain ⟨q, cap, sp, rfl, hq, hcap, hS'⟩ := gainN hS he ho
 refine ⟨_, hS', ?_⟩
 refine gAs ?_; refine gE ?_
 refine gT func128 fun w' hS => ?_
 exact ⟨hS.ext, OwnN.mk hS 0 rfl rfl hq hcap⟩
theorem iff_c (a : Option Addr) (ca : Nat) (f : List NV) (b : Option Addr) (cb : Nat) (g : List NV) (w : World) (ha : FA w a f) (hl : f.length ≤ maxLen) (hb : FA w b g) (hl2 : g.length ≤ maxLen) : Cn Tryd.prog 179 [.slice a f.length ca, .slice b g.length cb] w (fun v w' => OwnN 80 w w' v (bldF ⟨8, 0, 0, 0, 0, 0⟩ [f, g])) := by
 refine Cn.of func179 rfl rfl ?_
 refine gS (gR ?_); refine gAs ?_; refine gE (gS (gR ?_))
 refine GoH.v (Vop.bld rfl rfl rfl rfl (bld (c := [_, _, _, _, _, _]) underlying80 (Szs.cons sizeOf3 (Szs.cons sizeOf3 (Szs.cons sizeOf3 (Szs.cons sizeOf3 (Szs.cons sizeOf3 (Szs.cons sizeOf3 Szs.nil)))))) zeroValue80 rfl)) ?_
 iterate 2 refine gMv ?_
 refine GoH.bsN (c := [_, _]) rfl rfl rfl rfl underlying111 sizeOf23 zeroValue23 rfl rfl (fun b8 => ?_)
 refine gM rfl rfl rfl rfl rfl call99 (fun w _ hS => (by exact build_c ⟨8, 0, 0, 0, 0, 0⟩ (some ⟨b8, 0, none⟩) 2 [⟨a, ca, f⟩, ⟨b, cb, g⟩] [f, g] w rfl (Sl.blk (sp := []) (hS.get (j := 0) rfl)) (all2 (p := fun g : FV => FA _ g.a g.f) (ha.ex0 hS.ext) (hb.ex0 hS.ext)) (all2 (p := fun g : FV => g.f.length ≤ maxLen) hl hl2) (by simp))) ?_
 rintro v w1 w2 Y' hS he ho
 obtain ⟨q, cap, sp, rfl, hq, hcap, hS'⟩ := gainN hS he ho
 refine ⟨_, hS', ?_⟩
 refine gAs ?_; refine gE ?_
 refine gT func179 fun w' hS => ?_
 exact ⟨hS.ext, OwnN.mk hS 0 rfl rfl hq hcap⟩
theorem every_c (g : Int) (a : Option Addr) (ca : Nat) (f : List NV) (w : World) (ha : FA w a f) (hl : f.length ≤ maxLen) : Cn Tryd.prog 127 [.int .i64 g, .slice a f.length ca] w (fun v w' => OwnN 80 w w' v (bldF ⟨11, 0, 0, g, 0, 0⟩ [f])) := by
 refine Cn.of func127 rfl rfl ?_
 refine gS (gR ?_); refine gAs ?_; refine gE (gS (gR ?_)); refine gMv ?_
 refine GoH.v (Vop.bld rfl rfl rfl rfl (bld (c := [_, _, _, _, _, _]) underlying80 (Szs.cons sizeOf3 (Szs.cons sizeOf3 (Szs.cons sizeOf3 (Szs.cons sizeOf3 (Szs.cons sizeOf3 (Szs.cons sizeOf3 Szs.nil)))))) zeroValue80 rfl)) ?_
 refine gMv ?_
 refine GoH.bsN (c := [_]) rfl rfl rfl rfl underlying111 sizeOf23 zeroValue23 rfl rfl (fun b8 => ?_)
 refine gM rfl rfl rfl rfl rfl call99 (fun w _ hS => (by exact build_c ⟨11, 0, 0, g, 0, 0⟩ (some ⟨b8, 0, none⟩) 1 [⟨a, ca, f⟩] [f] w rfl (Sl.blk (sp := []) (hS.get (j := 0) rfl)) (fun g hg => by rw [List.mem_singleton.1 hg]; exact ha.ex0 hS.ext) (fun g hg => by rw [List.mem_singleton.1 hg]; exact hl) (by simp))) ?_
 rintro v w1 w2 Y' hS he ho
 obtain ⟨q, cap, sp, rfl, hq, hcap, hS'⟩ := gainN hS he ho
 refine ⟨_, hS', ?_⟩
 refine gAs ?_; refine gE ?_
 refine gT func127 fun w' hS => ?_
 exact ⟨hS.ext, OwnN.mk hS 0 rfl rfl hq hcap⟩
/-- And of formulas, from left to right -/
theorem joinAnd_c (A : Option Addr) (cA : Nat) (gs : List FV) (E : Option Addr) (cE : Nat) (ef : List NV) (w : World) (hA : SlG w A gs) (hfa : ∀ g ∈ gs, FA w g.a g.f) (hgl : ∀ g ∈ gs, g.f.length ≤ maxLen) (hle : gs.length ≤ maxLen) (hcA : gs.length ≤ cA) :
    Cn Tryd.prog 184 [.slice A gs.length cA, .slice E ef.length cE, .func (.func 128) #[] #[]] w (fun v w' => (gs = [] → v = .slice E ef.length cE) ∧ (gs ≠ [] → OwnN 80 w w' v (bldAll (gs.map FV.f)))) := by
  unfold maxLen at hle
  refine Cn.of func184 rfl rfl ?_
  refine gS (gR ?_); refine gAs ?_; refine gE (gS (gS (gR ?_))); refine gMv ?_; refine gBl underlying111 ?_; refine gBi bEq ?_; refine gE ?_
  refine gC (fun hc => ?_) fun hc => ?_
  ·
   have h0 : gs = [] := List.eq_nil_of_length_eq_zero (by simpa using hc)
   refine gS (gR ?_); refine gMv ?_; refine gAs ?_; refine gE ?_
   refine gT func184 fun w' hS => ?_
   exact ⟨hS.ext, fun _ => rfl, fun h => absurd h0 h⟩
  ·
   have h0 : 0 < gs.length := by
     have : ¬ gs.length = 0 := by simpa using hc
     omega
   obtain ⟨g, gt, rfl⟩ : ∃ g gt, gs = g :: gt := by
     cases gs with
     | nil => exact absurd h0 (by simp)
     | cons g gt => exact ⟨g, gt, rfl⟩
   have hgt : ∀ x ∈ gt, FA w x.a x.f ∧ x.f.length ≤ maxLen := fun x hx => ⟨hfa x (by simp [hx]), hgl x (by simp [hx])⟩
   have hdr : SlG w (aSl A cA 1 1) gt := by
     have := Sl.drop (w := w) hA (cap := cA) (lo := 1) (by simpa using hcA)
     simpa [SlG] using this
   have hlen1 : (g :: gt).length - 1 = gt.length := by simp
   refine gK (gS (gR ?_)); refine gMv ?_
   refine GoH.v (Vop.idx (xs := (g :: gt).map FV.v) rfl rfl rfl rfl rfl underlying111 sizeOf23 ⟨_, hA⟩ (by simp) 0 ⟨rfl, by simp⟩) ?_
   refine GoH.v (Vop.ld rfl rfl rfl rfl isAgg23 (fun w _ hS => (SlG.at (SlG.ex0 hA hS.ext) 0 (by simp)))) ?_
   refine gM rfl rfl rfl rfl rfl call44 (fun w _ hS => (by exact fcompact_c g.a g.c g.f w ((hfa g (by simp)).ex0 hS.ext) (hgl g (by simp)))) ?_
   rintro v w1 w2 Y' hS he ho
   rw [subF_top] at ho
   obtain ⟨q, cap, sp, rfl, hq, hcap, hS'⟩ := gainN hS he ho
   refine ⟨_, hS', ?_⟩
   refine gAs ?_; refine gE (gS (gS (gR ?_))); refine gMv ?_
   refine GoH.v (Vop.slLo (lo := 1) rfl rfl rfl rfl rfl underlying111 sizeOf23 rfl (by simp)) ?_
   rw [hlen1]
   refine gBl underlying111 ?_; refine gMv ?_; refine gE (gB ?_)
   refine GoH.loop (σ := Nat × Option Nat × Nat × List Value) (fun z => [(2, .func (.func 128) #[] #[]), (7, osv z.2.1 (((gt.take z.1).map FV.f).foldl andB (compF g.f)).length z.2.2.1), (19, .slice (aSl A cA 1 1) gt.length (cA - 1)), (20, .int .i64 gt.length), (21, .int .i64 z.1)]) (fun z => [(z.2.1, obN 80 (((gt.take z.1).map FV.f).foldl andB (compF g.f)) z.2.2.2)])
     (fun z => z.1 ≤ gt.length ∧ (((gt.take z.1).map FV.f).foldl andB (compF g.f)).length ≤ 200 ∧ (z.2.1 = none → (((gt.take z.1).map FV.f).foldl andB (compF g.f)).length = 0 ∧ z.2.2.1 = 0) ∧ ((((gt.take z.1).map FV.f).foldl andB (compF g.f)).flatMap NV.cells ++ z.2.2.2).length = z.2.2.1 * 6) (fun z => gt.length - z.1) (0, q, cap, sp)
     ⟨Nat.zero_le _, compF_le _, hq, hcap⟩ ⟨rfl, rfl, rfl, rfl, rfl, trivial⟩ (List.Sublist.refl _) (fun z hI IH => ?_)
   obtain ⟨k, q, cap, sp⟩ := z
   obtain ⟨hk, hl2, hq, hcap⟩ := hI
   dsimp only at hk hl2 hq hcap IH ⊢
   refine gS (gR ?_); refine gBi bLt ?_; refine gE (gS ?_)
   refine gC (fun hc => ?_) fun hc => ?_
   ·
    have hlt : k < gt.length := by simpa using hc
    have hgk := hgt gt[k] (List.getElem_mem hlt)
    have hsn : ((gt.take (k + 1)).map FV.f).foldl andB (compF g.f) = andB (((gt.take k).map FV.f).foldl andB (compF g.f)) gt[k].f := by
      rw [List.take_succ_eq_append_getElem hlt, List.map_append, List.foldl_append]; rfl
    refine gK (gS (gB (gS (gR ?_))))
    refine GoH.v (Vop.idx (xs := gt.map FV.v) rfl rfl rfl rfl rfl underlying111 sizeOf23 ⟨_, hdr⟩ (by simp) k ⟨rfl, by simpa using hlt⟩) ?_
    refine GoH.v (Vop.ld rfl rfl rfl rfl isAgg23 (fun w _ hS => (SlG.at (SlG.ex0 hdr hS.ext) k hlt))) ?_
    refine gAs ?_; refine gE (gR ?_)
    iterate 3 refine gMv ?_
    refine gM rfl rfl rfl rfl rfl call128 (fun w _ hS => (by exact and_c (q.map (fun b => ⟨b, 0, none⟩)) cap _ gt[k].a gt[k].c gt[k].f w (faAt hS 0 rfl (fun e => (hq e).1)) (by unfold maxLen; omega) (hgk.1.ex0 hS.ext) hgk.2)) ?_
    rintro v w1 w2 Y' hS he ho
    rw [show bldF ⟨5, 0, 0, 0, 0, 0⟩ [((gt.take k).map FV.f).foldl andB (compF g.f), gt[k].f] = ((gt.take (k + 1)).map FV.f).foldl andB (compF g.f) from hsn.symm] at ho
    obtain ⟨q', cap', sp', rfl, hq', hcap', hS'⟩ := gainN hS he ho
    have hl3 : (((gt.take (k + 1)).map FV.f).foldl andB (compF g.f)).length ≤ 200 := by rw [hsn, andB]; exact bldF_le _ _
    refine ⟨_, hS', ?_⟩
    refine gAs ?_; refine gE (gIb (gR ?_)); refine gBx rfl rfl rfl rfl (bAdd (by omega)) ?_; refine gMv ?_; refine gE ?_
    exact IH (k + 1, q', cap', sp') _ _ ⟨hlt, hl3, hq', hcap'⟩ (by dsimp only; omega) ⟨rfl, rfl, rfl, rfl, rfl, trivial⟩ (.cons_cons _ (List.nil_sublist _))
   ·
    have hge : ¬ k < gt.length := by simpa using hc
    obtain rfl : k = gt.length := by omega
    rw [List.take_length] at hq hcap ⊢
    refine GoH.exit rfl (gS (gR ?_))
    refine gMv ?_; refine gAs ?_; refine gE ?_
    refine gT func184 fun w' hS => ?_
    exact ⟨hS.ext, fun h => (by cases h), fun _ => OwnN.mk hS 0 rfl rfl hq hcap⟩
theorem allF_c (A : Option Addr) (cA : Nat) (gs : List FV) (w : World) (hA : SlG w A gs) (hfa : ∀ g ∈ gs, FA w g.a g.f) (hgl : ∀ g ∈ gs, g.f.length ≤ maxLen) (hle : gs.length ≤ maxLen) (hcA : gs.length ≤ cA) :
  Cn Tryd.prog 180 [.slice A gs.length cA] w (fun v w' => OwnN 80 w w' v (bldAll (gs.map FV.f))) := by
 refine Cn.of func180 rfl rfl ?_
 refine gS (gR ?_); refine gAs ?_; refine gE (gS (gR ?_)); refine gMv ?_
 refine gM rfl rfl rfl rfl rfl call185 (fun w _ hS => true_c w) ?_
 rintro v w1 w2 Y' hS he ho
 obtain ⟨q, cap, sp, rfl, hq, hcap, hS'⟩ := gainN hS he ho
 refine ⟨_, hS', ?_⟩
 refine gM rfl rfl rfl rfl rfl call184 (fun w _ hS => (by exact joinAnd_c A cA gs (q.map (fun b => ⟨b, 0, none⟩)) cap _ w (SlG.ex0 hA hS.ext) (fun g hg => (hfa g hg).ex0 hS.ext) hgl hle hcA)) ?_
 rintro v w1 w2 Y' hS he ⟨h1, h2⟩
 have hfin : ∃ q cap sp, v = osv q (bldAll (gs.map FV.f)).length cap ∧ (q = none → (bldAll (gs.map FV.f)).length = 0 ∧ cap = 0) ∧ ((bldAll (gs.map FV.f)).flatMap NV.cells ++ sp).length = cap * 6 ∧ St w [] w2 [(q, obN 80 (bldAll (gs.map FV.f)) sp)] Y' := by
  by_cases h0 : gs = []
  ·subst h0
   exact ⟨q, cap, sp, h1 rfl, hq, hcap, hS.later he⟩
  ·obtain ⟨q2, cap2, sp2, e1, hq2, hcap2, hS'⟩ := gainN hS he (h2 h0)
   exact ⟨q2, cap2, sp2, e1, hq2, hcap2, hS'.subH (.cons_cons _ (List.nil_sublist _))⟩
 obtain ⟨q2, cap2, sp2, rfl, hq2, hcap2, hS'⟩ := hfin
 refine ⟨_, hS', ?_⟩
 refine gAs ?_; refine gE ?_
 refine gT func180 fun w' hS => ?_
 exact ⟨hS.ext, OwnN.mk hS 0 rfl rfl hq2 hcap2⟩
end Go.Proofs.YtlihcmknfdckdaaDoor
