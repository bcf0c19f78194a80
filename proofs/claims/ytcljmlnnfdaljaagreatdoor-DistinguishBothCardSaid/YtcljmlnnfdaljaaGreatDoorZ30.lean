/- What calls of the program return, under the conditions that each theorem states. -/
import Derived.Test.YtcljmlnnfdaljaaGreatDoorZ28
import Derived.Test.YtcljmlnnfdaljaaGreatDoorZ29
import Derived.Test.YtcljmlnnfdaljaaGreatDoorZ04
namespace Go.Proofs.YtcljmlnnfdaljaaGreatDoor
open Go.RowKit Go.Proofs.Wit
/-! the program's other makers of formulas -/
theorem true_c (w : World) : Cn Tryz.prog 76 [] w (fun v w' => OwnN 58 w w' v (bldF ⟨1, 0, 0, 0, 0, 0⟩ [])) := by
  refine Cn.of Tryz.func76 rfl rfl ?_
  refine gS (gR ?_)
  refine gAs ?_
  refine gE (gS (gR ?_))
  refine GoH.v (Vop.bld rfl rfl rfl rfl (bld (c := [_, _, _, _, _, _]) Tryz.underlying58 (Szs.cons Tryz.sizeOf3 (Szs.cons Tryz.sizeOf3 (Szs.cons Tryz.sizeOf3 (Szs.cons Tryz.sizeOf3 (Szs.cons Tryz.sizeOf3 (Szs.cons Tryz.sizeOf3 Szs.nil)))))) Tryz.zeroValue58 rfl)) ?_
  refine GoH.callM _ rfl rfl rfl rfl rfl (fun _ _ => Tryz.call93 _ _) (fun w _ hS => (by exact build_c ⟨1, 0, 0, 0, 0, 0⟩ none 0 [] [] w rfl (Sl.nil _ _) (fun g hg => by cases hg) (fun g hg => by cases hg) (by simp))) ?_
  rintro v w1 w2 Y' hS he ho
  obtain ⟨q, cap, sp, rfl, hq, hcap, hS'⟩ := gainN hS he ho
  refine ⟨_, hS', ?_⟩
  refine gAs ?_
  refine gE ?_
  refine GoH.ret Tryz.f76 Tryz.func76 rfl (fun w' hS => ?_)
  exact ⟨hS.ext, OwnN.mk hS 0 rfl rfl hq hcap⟩
theorem not_c (a : Option Addr) (ca : Nat) (f : List NV) (w : World) (ha : FA w a f) (hl : f.length ≤ maxLen) : Cn Tryz.prog 66 [.slice a f.length ca] w (fun v w' => OwnN 58 w w' v (bldF ⟨4, 0, 0, 0, 0, 0⟩ [f])) := by
  refine Cn.of Tryz.func66 rfl rfl ?_
  refine gS (gR ?_)
  refine gAs ?_
  refine gE (gS (gR ?_))
  refine GoH.v (Vop.bld rfl rfl rfl rfl (bld (c := [_, _, _, _, _, _]) Tryz.underlying58 (Szs.cons Tryz.sizeOf3 (Szs.cons Tryz.sizeOf3 (Szs.cons Tryz.sizeOf3 (Szs.cons Tryz.sizeOf3 (Szs.cons Tryz.sizeOf3 (Szs.cons Tryz.sizeOf3 Szs.nil)))))) Tryz.zeroValue58 rfl)) ?_
  refine gMv ?_
  refine GoH.bsN (c := [_]) rfl rfl rfl rfl Tryz.underlying77 Tryz.sizeOf31 Tryz.zeroValue31 rfl rfl (fun b5 => ?_)
  refine GoH.callM _ rfl rfl rfl rfl rfl (fun _ _ => Tryz.call93 _ _) (fun w _ hS => (by exact build_c ⟨4, 0, 0, 0, 0, 0⟩ (some ⟨b5, 0, none⟩) 1 [⟨a, ca, f⟩] [f] w rfl (Sl.blk (sp := []) (hS.get (j := 0) rfl)) (fun g hg => by rw [List.mem_singleton.1 hg]; exact ha.ex0 hS.ext) (fun g hg => by rw [List.mem_singleton.1 hg]; exact hl) (by simp))) ?_
  rintro v w1 w2 Y' hS he ho
  obtain ⟨q, cap, sp, rfl, hq, hcap, hS'⟩ := gainN hS he ho
  refine ⟨_, hS', ?_⟩
  refine gAs ?_
  refine gE ?_
  refine GoH.ret Tryz.f66 Tryz.func66 rfl (fun w' hS => ?_)
  exact ⟨hS.ext, OwnN.mk hS 0 rfl rfl hq hcap⟩
theorem and_c (a : Option Addr) (ca : Nat) (f : List NV) (b : Option Addr) (cb : Nat) (g : List NV) (w : World) (ha : FA w a f) (hl : f.length ≤ maxLen) (hb : FA w b g) (hl2 : g.length ≤ maxLen) : Cn Tryz.prog 77 [.slice a f.length ca, .slice b g.length cb] w (fun v w' => OwnN 58 w w' v (bldF ⟨5, 0, 0, 0, 0, 0⟩ [f, g])) := by
  refine Cn.of Tryz.func77 rfl rfl ?_
  refine gS (gR ?_)
  refine gAs ?_
  refine gE (gS (gR ?_))
  refine GoH.v (Vop.bld rfl rfl rfl rfl (bld (c := [_, _, _, _, _, _]) Tryz.underlying58 (Szs.cons Tryz.sizeOf3 (Szs.cons Tryz.sizeOf3 (Szs.cons Tryz.sizeOf3 (Szs.cons Tryz.sizeOf3 (Szs.cons Tryz.sizeOf3 (Szs.cons Tryz.sizeOf3 Szs.nil)))))) Tryz.zeroValue58 rfl)) ?_
  iterate 2 refine gMv ?_
  refine GoH.bsN (c := [_, _]) rfl rfl rfl rfl Tryz.underlying77 Tryz.sizeOf31 Tryz.zeroValue31 rfl rfl (fun b8 => ?_)
  refine GoH.callM _ rfl rfl rfl rfl rfl (fun _ _ => Tryz.call93 _ _) (fun w _ hS => (by exact build_c ⟨5, 0, 0, 0, 0, 0⟩ (some ⟨b8, 0, none⟩) 2 [⟨a, ca, f⟩, ⟨b, cb, g⟩] [f, g] w rfl (Sl.blk (sp := []) (hS.get (j := 0) rfl)) (all2 (p := fun g : FV => FA _ g.a g.f) (ha.ex0 hS.ext) (hb.ex0 hS.ext)) (all2 (p := fun g : FV => g.f.length ≤ maxLen) hl hl2) (by simp))) ?_
  rintro v w1 w2 Y' hS he ho
  obtain ⟨q, cap, sp, rfl, hq, hcap, hS'⟩ := gainN hS he ho
  refine ⟨_, hS', ?_⟩
  refine gAs ?_
  refine gE ?_
  refine GoH.ret Tryz.f77 Tryz.func77 rfl (fun w' hS => ?_)
  exact ⟨hS.ext, OwnN.mk hS 0 rfl rfl hq hcap⟩
/-- And of formulas, from left to right -/
theorem joinAnd_c (A : Option Addr) (cA : Nat) (gs : List FV) (E : Option Addr) (cE : Nat) (ef : List NV) (w : World) (hA : SlG w A gs) (hfa : ∀ g ∈ gs, FA w g.a g.f) (hgl : ∀ g ∈ gs, g.f.length ≤ maxLen) (hle : gs.length ≤ maxLen) (hcA : gs.length ≤ cA) :
    Cn Tryz.prog 75 [.slice A gs.length cA, .slice E ef.length cE, .func (.func 77) #[] #[]] w (fun v w' => (gs = [] → v = .slice E ef.length cE) ∧ (gs ≠ [] → OwnN 58 w w' v (bldAll (gs.map FV.f)))) := by
  unfold maxLen at hle
  refine Cn.of Tryz.func75 rfl rfl ?_
  refine gS (gR ?_)
  refine gAs ?_
  refine gE (gS (gS (gR ?_)))
  refine gMv ?_
  refine gBl Tryz.underlying77 ?_
  refine gBi bEq ?_
  refine gE ?_
  refine GoH.cond rfl (fun hc => ?_) (fun hc => ?_)
  ·
   have h0 : gs = [] := List.eq_nil_of_length_eq_zero (by simpa using hc)
   refine gS (gR ?_)
   refine gMv ?_
   refine gAs ?_
   refine gE ?_
   refine GoH.ret Tryz.f75 Tryz.func75 rfl (fun w' hS => ?_)
   exact ⟨hS.ext, fun _ => rfl, fun h => absurd h0 h⟩
  ·
   have h0 : 0 < gs.length := by
     have : ¬ gs.length = 0 := by simpa using hc
     omega
   obtain ⟨g, gt, rfl⟩ : ∃ g gt, gs = g :: gt := by
     cases gs with
     | nil => exact absurd h0 (by simp)
     | cons g gt => exact ⟨g, gt, rfl⟩
   have hgt : ∀ x ∈ gt, FA w x.a x.f ∧ x.f.length ≤ maxLen := fun x hx => ⟨hfa x (by simp [hx]), hgl x (by simp [hx])⟩
   have hdr : SlG w (aSl A cA 1 1) gt := by
     have := Sl.drop (w := w) hA (cap := cA) (lo := 1) (by simpa using hcA)
     simpa [SlG] using this
   have hlen1 : (g :: gt).length - 1 = gt.length := by simp
   refine gK (gS (gR ?_))
   refine gMv ?_
   refine GoH.v (Vop.idx (xs := (g :: gt).map FV.v) rfl rfl rfl rfl rfl Tryz.underlying77 Tryz.sizeOf31 ⟨_, hA⟩ (by simp) 0 ⟨rfl, by simp⟩) ?_
   refine GoH.v (Vop.ld rfl rfl rfl rfl Tryz.isAgg31 (fun w _ hS => (SlG.at (SlG.ex0 hA hS.ext) 0 (by simp)))) ?_
   refine GoH.callM _ rfl rfl rfl rfl rfl (fun _ _ => Tryz.call97 _ _) (fun w _ hS => (by exact fcompact_c g.a g.c g.f w ((hfa g (by simp)).ex0 hS.ext) (hgl g (by simp)))) ?_
   rintro v w1 w2 Y' hS he ho
   rw [subF_top] at ho
   obtain ⟨q, cap, sp, rfl, hq, hcap, hS'⟩ := gainN hS he ho
   refine ⟨_, hS', ?_⟩
   refine gAs ?_
   refine gE (gS (gS (gR ?_)))
   refine gMv ?_
   refine GoH.v (Vop.slLo (lo := 1) rfl rfl rfl rfl rfl Tryz.underlying77 Tryz.sizeOf31 rfl (by simp)) ?_
   rw [hlen1]
   refine gBl Tryz.underlying77 ?_
   refine gMv ?_
   refine gE (gB ?_)
   refine GoH.loop (σ := Nat × Option Nat × Nat × List Value) (fun z => [(2, .func (.func 77) #[] #[]), (7, osv z.2.1 (((gt.take z.1).map FV.f).foldl andB (compF g.f)).length z.2.2.1), (19, .slice (aSl A cA 1 1) gt.length (cA - 1)), (20, .int .i64 gt.length), (21, .int .i64 z.1)]) (fun z => [(z.2.1, obN 58 (((gt.take z.1).map FV.f).foldl andB (compF g.f)) z.2.2.2)])
     (fun z => z.1 ≤ gt.length ∧ (((gt.take z.1).map FV.f).foldl andB (compF g.f)).length ≤ 200 ∧ (z.2.1 = none → (((gt.take z.1).map FV.f).foldl andB (compF g.f)).length = 0 ∧ z.2.2.1 = 0) ∧ ((((gt.take z.1).map FV.f).foldl andB (compF g.f)).flatMap NV.cells ++ z.2.2.2).length = z.2.2.1 * 6) (fun z => gt.length - z.1) (0, q, cap, sp)
     ⟨Nat.zero_le _, compF_le _, hq, hcap⟩ ⟨rfl, rfl, rfl, rfl, rfl, trivial⟩ (List.Sublist.refl _) (fun z hI IH => ?_)
   obtain ⟨k, q, cap, sp⟩ := z
   obtain ⟨hk, hl2, hq, hcap⟩ := hI
   dsimp only at hk hl2 hq hcap IH ⊢
   refine gS (gR ?_)
   refine gBi bLt ?_
   refine gE (gS ?_)
   refine GoH.cond rfl (fun hc => ?_) (fun hc => ?_)
   ·
    have hlt : k < gt.length := by simpa using hc
    have hgk := hgt gt[k] (List.getElem_mem hlt)
    have hsn : ((gt.take (k + 1)).map FV.f).foldl andB (compF g.f) = andB (((gt.take k).map FV.f).foldl andB (compF g.f)) gt[k].f := by
      rw [List.take_succ_eq_append_getElem hlt, List.map_append, List.foldl_append]; rfl
    refine gK (gS (gB (gS (gR ?_))))
    refine GoH.v (Vop.idx (xs := gt.map FV.v) rfl rfl rfl rfl rfl Tryz.underlying77 Tryz.sizeOf31 ⟨_, hdr⟩ (by simp) k ⟨rfl, by simpa using hlt⟩) ?_
    refine GoH.v (Vop.ld rfl rfl rfl rfl Tryz.isAgg31 (fun w _ hS => (SlG.at (SlG.ex0 hdr hS.ext) k hlt))) ?_
    refine gAs ?_
    refine gE (gR ?_)
    iterate 3 refine gMv ?_
    refine GoH.callM _ rfl rfl rfl rfl rfl (fun _ _ => Tryz.call77 _ _) (fun w _ hS => (by exact and_c (q.map (fun b => ⟨b, 0, none⟩)) cap _ gt[k].a gt[k].c gt[k].f w (faAt hS 0 rfl (fun e => (hq e).1)) (by unfold maxLen; omega) (hgk.1.ex0 hS.ext) hgk.2)) ?_
    rintro v w1 w2 Y' hS he ho
    rw [show bldF ⟨5, 0, 0, 0, 0, 0⟩ [((gt.take k).map FV.f).foldl andB (compF g.f), gt[k].f] = ((gt.take (k + 1)).map FV.f).foldl andB (compF g.f) from hsn.symm] at ho
    obtain ⟨q', cap', sp', rfl, hq', hcap', hS'⟩ := gainN hS he ho
    have hl3 : (((gt.take (k + 1)).map FV.f).foldl andB (compF g.f)).length ≤ 200 := by rw [hsn, andB]; exact bldF_le _ _
    refine ⟨_, hS', ?_⟩
    refine gAs ?_
    refine gE (gIb (gR ?_))
    refine GoH.v (Vop.bin rfl rfl rfl rfl (bAdd (by omega)) rfl) ?_
    refine gMv ?_
    refine gE ?_
    exact IH (k + 1, q', cap', sp') _ _ ⟨hlt, hl3, hq', hcap'⟩ (by dsimp only; omega) ⟨rfl, rfl, rfl, rfl, rfl, trivial⟩ (.cons_cons _ (List.nil_sublist _))
   ·
    have hge : ¬ k < gt.length := by simpa using hc
    obtain rfl : k = gt.length := by omega
    rw [List.take_length] at hq hcap ⊢
    refine GoH.exit rfl (gS (gR ?_))
    refine gMv ?_
    refine gAs ?_
    refine gE ?_
    refine GoH.ret Tryz.f75 Tryz.func75 rfl (fun w' hS => ?_)
    exact ⟨hS.ext, fun h => (by cases h), fun _ => OwnN.mk hS 0 rfl rfl hq hcap⟩
theorem allF_c (A : Option Addr) (cA : Nat) (gs : List FV) (w : World) (hA : SlG w A gs) (hfa : ∀ g ∈ gs, FA w g.a g.f) (hgl : ∀ g ∈ gs, g.f.length ≤ maxLen) (hle : gs.length ≤ maxLen) (hcA : gs.length ≤ cA) :
    Cn Tryz.prog 51 [.slice A gs.length cA] w (fun v w' => OwnN 58 w w' v (bldAll (gs.map FV.f))) := by
  refine Cn.of Tryz.func51 rfl rfl ?_
  refine gS (gR ?_)
  refine gAs ?_
  refine gE (gS (gR ?_))
  refine gMv ?_
  refine GoH.callM _ rfl rfl rfl rfl rfl (fun _ _ => Tryz.call76 _ _) (fun w _ hS => true_c w) ?_
  rintro v w1 w2 Y' hS he ho
  obtain ⟨q, cap, sp, rfl, hq, hcap, hS'⟩ := gainN hS he ho
  refine ⟨_, hS', ?_⟩
  refine GoH.callM _ rfl rfl rfl rfl rfl (fun _ _ => Tryz.call75 _ _) (fun w _ hS => (by exact joinAnd_c A cA gs (q.map (fun b => ⟨b, 0, none⟩)) cap _ w (SlG.ex0 hA hS.ext) (fun g hg => (hfa g hg).ex0 hS.ext) hgl hle hcA)) ?_
  rintro v w1 w2 Y' hS he ⟨h1, h2⟩
  have hfin : ∃ q cap sp, v = osv q (bldAll (gs.map FV.f)).length cap ∧ (q = none → (bldAll (gs.map FV.f)).length = 0 ∧ cap = 0) ∧ ((bldAll (gs.map FV.f)).flatMap NV.cells ++ sp).length = cap * 6 ∧ St w [] w2 [(q, obN 58 (bldAll (gs.map FV.f)) sp)] Y' := by
    by_cases h0 : gs = []
    · subst h0
      exact ⟨q, cap, sp, h1 rfl, hq, hcap, hS.later he⟩
    · obtain ⟨q2, cap2, sp2, e1, hq2, hcap2, hS'⟩ := gainN hS he (h2 h0)
      exact ⟨q2, cap2, sp2, e1, hq2, hcap2, hS'.subH (.cons_cons _ (List.nil_sublist _))⟩
  obtain ⟨q2, cap2, sp2, rfl, hq2, hcap2, hS'⟩ := hfin
  refine ⟨_, hS', ?_⟩
  refine gAs ?_
  refine gE ?_
  refine GoH.ret Tryz.f51 Tryz.func51 rfl (fun w' hS => ?_)
  exact ⟨hS.ext, OwnN.mk hS 0 rfl rfl hq2 hcap2⟩
end Go.Proofs.YtcljmlnnfdaljaaGreatDoor
