/- What calls of the program return, under the conditions that each theorem states. -/
import Derived.Test.YtlihcmknfdckdaaDoorS09
import Derived.Test.YtlihcmknfdckdaaDoorS10
import Derived.Test.YtlihcmknfdckdaaDoorS04
namespace Go.Proofs.YtlihcmknfdckdaaDoor
open Go.RowKit Go.Proofs.Wit Tryd
/-! the program's build -/
set_option maxRecDepth 8000 in
theorem build_c (n : NV) (A : Option Addr) (cA : Nat) (gs : List FV) (G : List (List NV)) (w : World) (hG : G = gs.map FV.f) (hA : SlG w A gs) (hfa : ∀ g ∈ gs, FA w g.a g.f) (hgl : ∀ g ∈ gs, g.f.length ≤ maxLen) (h2 : gs.length ≤ 2) :
    Cn Tryd.prog 99 [n.v, .slice A gs.length cA] w (fun v w' => OwnN 80 w w' v (bldF n G)) := by
  obtain ⟨iN, hiN, hzN, hszN, hbyN⟩ := info_parts infoN
  have hGl : G.length = gs.length := by rw [hG]; simp
  have hGk : ∀ (k : Nat) (hk : k < gs.length), G[k]'(by omega) = gs[k].f := fun k hk => by subst hG; simp
  refine Cn.of func99 rfl rfl ?_
  refine gS (gR ?_)
  refine GoH.bx rfl rfl rfl rfl (fun b2 => ?_)
  refine gAs ?_; refine gE (gS (gR ?_)); refine gAs ?_; refine gE (gS (gS (gR ?_))); refine gMv ?_; refine gBl underlying111 ?_; refine gMv ?_; refine gE (gB ?_)
  refine GoH.addNone (obN 80 (outs []) []) ?_
  refine GoH.pick (pre := [_, _]) (pre' := [_, _]) [1, 0] (by decide) rfl ?_
  refine GoH.loop (σ := Nat × Option Nat × Nat × List Value) (fun z => [(2, .pointer (some ⟨b2, 0, none⟩)), (5, osv z.2.1 (outs (G.take z.1)).length z.2.2.1), (14, .slice A gs.length cA), (15, .int .i64 gs.length), (16, .int .i64 z.1)]) (fun z => [(some b2, .cells (NV.cells (nodeK n G z.1)).toArray 80 (0, 0)), (z.2.1, obN 80 (outs (G.take z.1)) z.2.2.2)])
    (fun z => z.1 ≤ gs.length ∧ (∀ g ∈ G.take z.1, chkF g = 0) ∧ (z.2.1 = none → (outs (G.take z.1)).length = 0 ∧ z.2.2.1 = 0) ∧ ((outs (G.take z.1)).flatMap NV.cells ++ z.2.2.2).length = z.2.2.1 * 6) (fun z => gs.length - z.1) (0, none, 0, []) ⟨Nat.zero_le _, fun g hg => by simp at hg, fun _ => ⟨rfl, rfl⟩, rfl⟩ ⟨rfl, rfl, rfl, rfl, rfl, trivial⟩ (List.Sublist.refl _) (fun z hI IH => ?_)
  obtain ⟨k, q, cap, sp⟩ := z
  obtain ⟨hk, hall, hq, hcap⟩ := hI
  dsimp only at hk hall hq hcap IH ⊢
  have hol := outs_len hall
  rw [List.length_take] at hol
  refine gS (gR ?_); refine gBi bLt ?_; refine gE (gS ?_)
  refine gC (fun hc => ?_) fun hc => ?_
  ·
   have hlt : k < gs.length := by simpa using hc
   have hmem : gs[k] ∈ gs := List.getElem_mem hlt
   refine gK (gS (gB (gS (gR ?_)))); refine gMv ?_
   refine GoH.v (Vop.idx rfl rfl rfl rfl rfl underlying111 sizeOf23 ⟨_, hA⟩ (by simp) (k) ⟨rfl, by simpa using hlt⟩) ?_
   refine GoH.v (Vop.ld rfl rfl rfl rfl isAgg23 (fun w _ hS => (SlG.ex0 hA hS.ext).at (k) hlt)) ?_
   iterate 2 refine gAs ?_
   refine gE (gS (gS (gR ?_))); refine gMv ?_
   refine gP rfl rfl rfl rfl rfl call75 (fun w _ hS => (by exact fcheck_c gs[k].a gs[k].c gs[k].f w ((hfa _ hmem).ex0 hS.ext) (hgl _ hmem))) ?_
   refine gBi bNe ?_; refine gE ?_
   refine gC (fun hc => ?_) fun hc => ?_
   ·
    have h3 : chkF gs[k].f ≠ 0 := by simpa using hc
    refine gS (gR ?_); refine gAs ?_; refine gE ?_
    refine gT func99 fun w' hS => ?_
    have hb : bldF n G = [] := if_pos ⟨gs[k].f, by rw [hG]; exact List.mem_map_of_mem hmem, h3⟩
    exact ⟨hS.ext, by rw [hb]; exact OwnN.nil0⟩
   ·
    have h3 : chkF gs[k].f = 0 := by simpa using hc
    have hokc := compF_ok h3
    have hcl := hokc.len
    have hall2 : ∀ g ∈ G.take (k + 1), chkF g = 0 := fun g hg => by
      rw [List.take_succ_eq_append_getElem (by omega : k < G.length)] at hg
      rcases List.mem_append.1 hg with hg | hg
      · exact hall g hg
      · rw [List.mem_singleton.1 hg, hGk k hlt]; exact h3
    have hot : outs (G.take (k + 1)) = catN (outs (G.take k)) (compF gs[k].f) := by rw [outs_take (by omega), hGk k hlt]
    refine gK (gS (gR ?_)); refine gMv ?_; refine gBl underlying23 ?_; refine gAs ?_; refine gE (gS (gS (gR ?_))); refine gMv ?_
    refine gM rfl rfl rfl rfl rfl call44 (fun w _ hS => (by exact fcompact_c gs[k].a gs[k].c gs[k].f w ((hfa _ hmem).ex0 hS.ext) (hgl _ hmem))) ?_
    rintro v w1 w2 Y' hS he ho
    rw [subF_top] at ho
    obtain ⟨qc, capc, spc, rfl, hqc, hcapc, hS'⟩ := gainN hS he ho
    refine ⟨_, hS', ?_⟩
    refine gBl underlying23 ?_; refine gMv ?_; refine gE (gB ?_)
    refine GoH.loop (σ := Nat × Option Nat × Nat × List Value) (fun z => [(2, .pointer (some ⟨b2, 0, none⟩)), (5, osv z.2.1 (catN (outs (G.take k)) ((compF gs[k].f).take z.1)).length z.2.2.1), (6, .int .i64 k), (8, .int .i64 (outs (G.take k)).length), (14, .slice A gs.length cA), (15, .int .i64 gs.length), (16, .int .i64 k), (27, osv qc (compF gs[k].f).length capc), (28, .int .i64 (compF gs[k].f).length), (29, .int .i64 z.1)]) (fun z => [(qc, obN 80 (compF gs[k].f) spc), (some b2, .cells (NV.cells (nodeK n G k)).toArray 80 (0, 0)), (z.2.1, obN 80 (catN (outs (G.take k)) ((compF gs[k].f).take z.1)) z.2.2.2)])
      (fun z => z.1 ≤ (compF gs[k].f).length ∧ (z.2.1 = none → (catN (outs (G.take k)) ((compF gs[k].f).take z.1)).length = 0 ∧ z.2.2.1 = 0) ∧ ((catN (outs (G.take k)) ((compF gs[k].f).take z.1)).flatMap NV.cells ++ z.2.2.2).length = z.2.2.1 * 6) (fun z => (compF gs[k].f).length - z.1) (0, q, cap, sp) (by rw [cat_zero]; exact ⟨Nat.zero_le _, hq, hcap⟩) (by rw [cat_zero]; exact ⟨rfl, rfl, rfl, rfl, rfl, rfl, rfl, rfl, rfl, rfl, trivial⟩) (by rw [cat_zero]; exact List.Sublist.refl _) (fun z hI IH2 => ?_)
    obtain ⟨m, q, cap, sp⟩ := z
    obtain ⟨hm, hq, hcap⟩ := hI
    dsimp only at hm hq hcap IH2 ⊢
    have hcl2 : (catN (outs (G.take k)) ((compF gs[k].f).take m)).length ≤ 1000 := by rw [catN_len, List.length_take]; omega
    refine gS (gR ?_); refine gBi bLt ?_; refine gE (gS ?_)
    refine gC (fun hc => ?_) fun hc => ?_
    ·
     have hm : m < (compF gs[k].f).length := by simp at hc; omega
     have hokn := hokc.at m hm
     obtain ⟨bc, rfl⟩ : ∃ bc, qc = some bc := by
       cases qc with
       | none => have := (hqc rfl).1; omega
       | some b => exact ⟨b, rfl⟩
     refine gK (gS (gB (gS (gR ?_))))
     refine GoH.v (Vop.idxS rfl rfl rfl rfl rfl underlying23 sizeOf80 m ⟨rfl, hm⟩) ?_
     refine GoH.v (Vop.ldN (cs := NV.cells (compF gs[k].f)[m]) rfl rfl rfl rfl isAgg80 sizeOf80 (fun w _ hS => Sl.many (enc := NV.cells) (sz := 6) (a := some ⟨bc, 0, none⟩) (Sl.blk (hS.get (j := 0) rfl)) (fun _ => rfl) hm)) ?_
     refine GoH.alc rfl rfl rfl (fun _ => zeroValue80 _) (fun b10 => ?_)
     refine GoH.stB rfl rfl rfl rfl sizeOf80 0 rfl rfl rfl rfl ?_
     refine gE (gS (gR ?_)); refine gFp underlying80 sizeOf3 0 ?_; refine gLo isAgg3 0 ?_
     refine gP rfl rfl rfl rfl rfl call126 (fun w _ hS => (by exact uses_c (compF gs[k].f)[m].op w)) ?_
     refine gMv ?_
     iterate 2 refine gEx ?_
     refine GoH.alc rfl rfl rfl (fun _ => zeroValue109 _) (fun b11 => ?_)
     refine GoH.stB rfl rfl rfl rfl sizeOf109 0 rfl rfl rfl rfl ?_
     refine gAs ?_; refine gE (gS (gS (gR ?_))); refine gFp underlying109 sizeOf4 0 ?_; refine gLo isAgg4 0 ?_; refine gE ?_
     refine gC (fun hc => ?_) fun hc => ?_
     ·
      have hX : usX (compF gs[k].f)[m].op = true := hc
      have hxr := hokn.x hX
      refine gR ?_; refine gFp underlying80 sizeOf3 4 ?_; refine gLo isAgg3 1 ?_; refine gMv ?_; refine gBx rfl rfl rfl rfl (bAdd (by omega)) ?_; refine gFp underlying80 sizeOf3 4 ?_
      refine GoH.st rfl rfl rfl rfl sizeOf3 rfl 1 rfl rfl ?_
      refine gE (gS (gS (gR ?_))); refine gFp underlying109 sizeOf4 1 ?_; refine gLo isAgg4 0 ?_; refine gE ?_
      refine gC (fun hc => ?_) fun hc => ?_
      ·
       have hY : usY (compF gs[k].f)[m].op = true := hc
       have hyr := hokn.y hY
       refine gR ?_; refine gFp underlying80 sizeOf3 5 ?_; refine gLo isAgg3 1 ?_; refine gMv ?_; refine gBx rfl rfl rfl rfl (bAdd (by omega)) ?_; refine gFp underlying80 sizeOf3 5 ?_
       refine GoH.st rfl rfl rfl rfl sizeOf3 rfl 1 rfl rfl ?_
       refine gE (gR ?_); refine gMv ?_
       refine GoH.v (Vop.ldB rfl rfl rfl rfl isAgg80 1 rfl sizeOf80 rfl) ?_
       refine GoH.bsN (c := [_, _, _, _, _, _]) rfl rfl rfl rfl underlying23 sizeOf80 zeroValue80 rfl rfl (fun b55 => ?_)
       have hsh : shiftN (outs (G.take k)).length (compF gs[k].f)[m] = { (compF gs[k].f)[m] with x := (compF gs[k].f)[m].x + ((outs (G.take k)).length : Int), y := (compF gs[k].f)[m].y + ((outs (G.take k)).length : Int) } := by simp [shiftN, hX, hY]
       have hct := cat_take (o := outs (G.take k)) hm
       rw [hsh] at hct
       have e1 : (catN (outs (G.take k)) ((compF gs[k].f).take m)).flatMap NV.cells ++ NV.cells { (compF gs[k].f)[m] with x := (compF gs[k].f)[m].x + ((outs (G.take k)).length : Int), y := (compF gs[k].f)[m].y + ((outs (G.take k)).length : Int) } = (catN (outs (G.take k)) ((compF gs[k].f).take (m + 1))).flatMap NV.cells := by rw [hct, List.flatMap_append]; simp
       have e2 : (catN (outs (G.take k)) ((compF gs[k].f).take m)).length + 1 = (catN (outs (G.take k)) ((compF gs[k].f).take (m + 1))).length := by rw [hct]; simp
       refine GoH.app 6 (xs := (catN (outs (G.take k)) ((compF gs[k].f).take m)).flatMap NV.cells) (sp := sp) (nx := (catN (outs (G.take k)) ((compF gs[k].f).take m)).length) (q := q) (news := NV.cells { (compF gs[k].f)[m] with x := (compF gs[k].f)[m].x + ((outs (G.take k)).length : Int), y := (compF gs[k].f)[m].y + ((outs (G.take k)).length : Int) }) (spn := []) rfl rfl rfl rfl rfl underlying23 hiN hzN hszN rfl hq 5 rfl 0 rfl flatN hcap rfl (by decide) (fun u hu => by
         simp only [NV.cells, List.mem_cons, List.not_mem_nil, or_false] at hu
         rcases hu with rfl | rfl | rfl | rfl | rfl | rfl <;> rfl) (by unfold maxLen; omega) (by rw [hbyN]; omega) (fun b' sp' cap' hlen => ?_)
       simp only [e1, e2] at hlen ⊢
       refine gAs ?_; refine gE (gIb (gR ?_)); refine gBx rfl rfl rfl rfl (bAdd (by omega)) ?_; refine gMv ?_; refine gE ?_
       exact IH2 (m + 1, some b', cap', sp') _ _ ⟨hm, (fun e => by cases e), hlen⟩ (by dsimp only; omega) ⟨rfl, rfl, rfl, rfl, rfl, rfl, rfl, rfl, rfl, rfl, trivial⟩ (.cons _ (.cons _ (.cons _ (List.Sublist.refl _))))
      ·
       have hY : usY (compF gs[k].f)[m].op = false := hc
       refine gK (gR ?_); refine gMv ?_
       refine GoH.v (Vop.ldB rfl rfl rfl rfl isAgg80 1 rfl sizeOf80 rfl) ?_
       refine GoH.bsN (c := [_, _, _, _, _, _]) rfl rfl rfl rfl underlying23 sizeOf80 zeroValue80 rfl rfl (fun b55 => ?_)
       have hsh : shiftN (outs (G.take k)).length (compF gs[k].f)[m] = { (compF gs[k].f)[m] with x := (compF gs[k].f)[m].x + ((outs (G.take k)).length : Int) } := by simp [shiftN, hX, hY]
       have hct := cat_take (o := outs (G.take k)) hm
       rw [hsh] at hct
       have e1 : (catN (outs (G.take k)) ((compF gs[k].f).take m)).flatMap NV.cells ++ NV.cells { (compF gs[k].f)[m] with x := (compF gs[k].f)[m].x + ((outs (G.take k)).length : Int) } = (catN (outs (G.take k)) ((compF gs[k].f).take (m + 1))).flatMap NV.cells := by rw [hct, List.flatMap_append]; simp
       have e2 : (catN (outs (G.take k)) ((compF gs[k].f).take m)).length + 1 = (catN (outs (G.take k)) ((compF gs[k].f).take (m + 1))).length := by rw [hct]; simp
       refine GoH.app 6 (xs := (catN (outs (G.take k)) ((compF gs[k].f).take m)).flatMap NV.cells) (sp := sp) (nx := (catN (outs (G.take k)) ((compF gs[k].f).take m)).length) (q := q) (news := NV.cells { (compF gs[k].f)[m] with x := (compF gs[k].f)[m].x + ((outs (G.take k)).length : Int) }) (spn := []) rfl rfl rfl rfl rfl underlying23 hiN hzN hszN rfl hq 5 rfl 0 rfl flatN hcap rfl (by decide) (fun u hu => by
         simp only [NV.cells, List.mem_cons, List.not_mem_nil, or_false] at hu
         rcases hu with rfl | rfl | rfl | rfl | rfl | rfl <;> rfl) (by unfold maxLen; omega) (by rw [hbyN]; omega) (fun b' sp' cap' hlen => ?_)
       simp only [e1, e2] at hlen ⊢
       refine gAs ?_; refine gE (gIb (gR ?_)); refine gBx rfl rfl rfl rfl (bAdd (by omega)) ?_; refine gMv ?_; refine gE ?_
       exact IH2 (m + 1, some b', cap', sp') _ _ ⟨hm, (fun e => by cases e), hlen⟩ (by dsimp only; omega) ⟨rfl, rfl, rfl, rfl, rfl, rfl, rfl, rfl, rfl, rfl, trivial⟩ (.cons _ (.cons _ (.cons _ (List.Sublist.refl _))))
     ·
      have hX : usX (compF gs[k].f)[m].op = false := hc
      have hY : usY (compF gs[k].f)[m].op = false := by
        cases e : usY (compF gs[k].f)[m].op with
        | false => rfl
        | true => exact absurd ((usY_X e).symm.trans hX) (by decide)
      refine gK (gS (gS (gR ?_))); refine gFp underlying109 sizeOf4 1 ?_; refine gLo isAgg4 0 ?_; refine gE ?_
      refine GoH.cond rfl (fun hc => by exfalso; (exact absurd (hY.symm.trans hc) (by decide))) (fun _ => ?_)
      refine gK (gR ?_); refine gMv ?_
      refine GoH.v (Vop.ldB rfl rfl rfl rfl isAgg80 1 rfl sizeOf80 rfl) ?_
      refine GoH.bsN (c := [_, _, _, _, _, _]) rfl rfl rfl rfl underlying23 sizeOf80 zeroValue80 rfl rfl (fun b55 => ?_)
      have hsh : shiftN (outs (G.take k)).length (compF gs[k].f)[m] = (compF gs[k].f)[m] := by simp [shiftN, hX, hY]
      have hct := cat_take (o := outs (G.take k)) hm
      rw [hsh] at hct
      have e1 : (catN (outs (G.take k)) ((compF gs[k].f).take m)).flatMap NV.cells ++ NV.cells (compF gs[k].f)[m] = (catN (outs (G.take k)) ((compF gs[k].f).take (m + 1))).flatMap NV.cells := by rw [hct, List.flatMap_append]; simp
      have e2 : (catN (outs (G.take k)) ((compF gs[k].f).take m)).length + 1 = (catN (outs (G.take k)) ((compF gs[k].f).take (m + 1))).length := by rw [hct]; simp
      refine GoH.app 6 (xs := (catN (outs (G.take k)) ((compF gs[k].f).take m)).flatMap NV.cells) (sp := sp) (nx := (catN (outs (G.take k)) ((compF gs[k].f).take m)).length) (q := q) (news := NV.cells (compF gs[k].f)[m]) (spn := []) rfl rfl rfl rfl rfl underlying23 hiN hzN hszN rfl hq 5 rfl 0 rfl flatN hcap rfl (by decide) (fun u hu => by
        simp only [NV.cells, List.mem_cons, List.not_mem_nil, or_false] at hu
        rcases hu with rfl | rfl | rfl | rfl | rfl | rfl <;> rfl) (by unfold maxLen; omega) (by rw [hbyN]; omega) (fun b' sp' cap' hlen => ?_)
      simp only [e1, e2] at hlen ⊢
      refine gAs ?_; refine gE (gIb (gR ?_)); refine gBx rfl rfl rfl rfl (bAdd (by omega)) ?_; refine gMv ?_; refine gE ?_
      exact IH2 (m + 1, some b', cap', sp') _ _ ⟨hm, (fun e => by cases e), hlen⟩ (by dsimp only; omega) ⟨rfl, rfl, rfl, rfl, rfl, rfl, rfl, rfl, rfl, rfl, trivial⟩ (.cons _ (.cons _ (.cons _ (List.Sublist.refl _))))
    ·
     have hge : ¬ m < (compF gs[k].f).length := by simp at hc; omega
     obtain rfl : m = (compF gs[k].f).length := by omega
     rw [List.take_length, ← hot] at hq hcap hcl2
     rw [List.take_length, ← hot]
     refine GoH.exit rfl (gS (gR ?_))
     refine gMv ?_; refine gBi bEq ?_; refine gE ?_
     refine gC (fun hc => ?_) fun hc => ?_
     ·
      have hk0 : k = 0 := by simp at hc; omega
      subst hk0
      refine gR ?_; refine gMv ?_; refine gBl underlying23 ?_; refine gBx rfl rfl rfl rfl (bSub (by omega)) ?_; refine gFp underlying80 sizeOf3 4 ?_
      refine GoH.st rfl rfl rfl rfl sizeOf3 rfl 1 rfl rfl ?_
      refine gE (gIb (gR ?_)); refine gBx rfl rfl rfl rfl (bAdd (by omega)) ?_; refine gMv ?_; refine gE ?_
      exact IH (1, q, cap, sp) _ _ ⟨hlt, hall2, hq, hcap⟩ (by dsimp only; omega) ⟨rfl, rfl, rfl, rfl, rfl, trivial⟩ (.cons _ (List.Sublist.refl _))
     ·
      have hk0 : k ≠ 0 := by simp at hc; omega
      have hnK := nodeK_s (n := n) (gs := G) hk0
      refine gR ?_; refine gMv ?_; refine gBl underlying23 ?_; refine gBx rfl rfl rfl rfl (bSub (by omega)) ?_; refine gFp underlying80 sizeOf3 5 ?_
      refine GoH.st rfl rfl rfl rfl sizeOf3 rfl 1 rfl rfl ?_
      refine gE (gIb (gR ?_)); refine gBx rfl rfl rfl rfl (bAdd (by omega)) ?_; refine gMv ?_; refine gE ?_
      exact IH (k + 1, q, cap, sp) _ _ ⟨hlt, hall2, hq, hcap⟩ (by dsimp only; omega) ⟨rfl, rfl, rfl, rfl, rfl, trivial⟩ (by rw [hnK]; exact .cons _ (List.Sublist.refl _))
  ·
   have hge : ¬ k < gs.length := by simpa using hc
   obtain rfl : k = gs.length := by omega
   have hGt : G.take gs.length = G := by rw [← hGl]; exact List.take_length
   rw [hGt] at hall hq hcap hol
   rw [hGt]
   have hex : ¬ ∃ g ∈ G, chkF g ≠ 0 := fun ⟨g, hg, h⟩ => h (hall g hg)
   refine GoH.exit rfl (gS (gS (gR ?_)))
   refine GoH.v (Vop.ldB rfl rfl rfl rfl isAgg80 0 rfl sizeOf80 rfl) ?_
   refine gMv ?_; refine gBl underlying23 ?_
   refine gP rfl rfl rfl rfl rfl call105 (fun w _ hS => (by exact node_c (nodeK n G gs.length) (outs G).length w)) ?_
   refine gBi bNe ?_; refine gE ?_
   refine gC (fun hc => ?_) fun hc => ?_
   ·
    have h3 : nodeE (nodeK n G gs.length) (outs G).length ≠ 0 := by simpa using hc
    refine gS (gR ?_); refine gAs ?_; refine gE ?_
    refine gT func99 fun w' hS => ?_
    have hb : bldF n G = [] := by rw [bldF, if_neg hex, hGl, if_pos h3]
    exact ⟨hS.ext, by rw [hb]; exact OwnN.nil0⟩
   ·
    have h3 : nodeE (nodeK n G gs.length) (outs G).length = 0 := by simpa using hc
    have hnn := snoc_ok (outs_ok hall) (nodeE_zero.1 h3)
    have e1 : (outs G).flatMap NV.cells ++ NV.cells (nodeK n G gs.length) = (outs G ++ [nodeK n G gs.length]).flatMap NV.cells := by rw [List.flatMap_append]; simp
    have e2 : (outs G).length + 1 = (outs G ++ [nodeK n G gs.length]).length := by simp
    have hb2 : bldF n G = if 200 < (canT (treeAt (outs G ++ [nodeK n G gs.length]) (outs G).length)).length then [] else canT (treeAt (outs G ++ [nodeK n G gs.length]) (outs G).length) := by rw [bldF, if_neg hex, hGl, if_neg (by simp [h3])]
    refine gK (gS (gR ?_)); refine gMv ?_
    refine GoH.v (Vop.ldB rfl rfl rfl rfl isAgg80 0 rfl sizeOf80 rfl) ?_
    refine GoH.bsN (c := [_, _, _, _, _, _]) rfl rfl rfl rfl underlying23 sizeOf80 zeroValue80 rfl rfl (fun b76 => ?_)
    refine GoH.app 6 (xs := (outs G).flatMap NV.cells) (sp := sp) (nx := (outs G).length) (q := q) (news := NV.cells (nodeK n G gs.length)) (spn := []) rfl rfl rfl rfl rfl underlying23 hiN hzN hszN rfl hq 2 rfl 0 rfl flatN hcap rfl (by decide) (fun u hu => by
      simp only [NV.cells, List.mem_cons, List.not_mem_nil, or_false] at hu
      rcases hu with rfl | rfl | rfl | rfl | rfl | rfl <;> rfl) (by unfold maxLen; omega) (by rw [hbyN]; omega) (fun b' sp' cap' hlen => ?_)
    simp only [e1, e2] at hlen ⊢
    refine gMv ?_; refine gBl underlying23 ?_
    refine gM rfl rfl rfl rfl rfl call108 (fun w _ hS => (by exact fcomp_c (some ⟨b', 0, none⟩) cap' (outs G ++ [nodeK n G gs.length]) (outs G).length w ⟨Sl.blk (hS.get (j := 2) rfl)⟩ hnn (by simp; omega) (by simp))) ?_
    rintro v w1 w2 Y' hS he ho
    obtain ⟨qr, capr, spr, rfl, hqr, hcapr, hS'⟩ := gainN hS he ho
    refine ⟨_, hS', ?_⟩
    refine gAs ?_; refine gE (gS (gS (gR ?_))); refine gMv ?_; refine gBl underlying23 ?_; refine gBi bGt ?_; refine gE ?_
    refine gC (fun hc => ?_) fun hc => ?_
    ·
     have h4 : 200 < (canT (treeAt (outs G ++ [nodeK n G gs.length]) (outs G).length)).length := by simp at hc; omega
     refine gS (gR ?_); refine gAs ?_; refine gE ?_
     refine gT func99 fun w' hS => ?_
     exact ⟨hS.ext, by rw [hb2, if_pos h4]; exact OwnN.nil0⟩
    ·
     have h4 : ¬ 200 < (canT (treeAt (outs G ++ [nodeK n G gs.length]) (outs G).length)).length := by simp at hc; omega
     refine gK (gS (gR ?_)); refine gMv ?_; refine gAs ?_; refine gE ?_
     refine gT func99 fun w' hS => ?_
     exact ⟨hS.ext, by rw [hb2, if_neg h4]; exact OwnN.mk hS 0 rfl rfl hqr hcapr⟩
end Go.Proofs.YtlihcmknfdckdaaDoor
