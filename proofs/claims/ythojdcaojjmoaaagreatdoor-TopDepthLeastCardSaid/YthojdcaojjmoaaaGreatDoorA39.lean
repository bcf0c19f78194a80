/- What calls of the program return, under the conditions that each theorem states. -/
import Derived.Test.YthojdcaojjmoaaaGreatDoorA37
import Derived.Test.YthojdcaojjmoaaaGreatDoorA36
import Derived.Test.YthojdcaojjmoaaaGreatDoorA13
import Derived.Test.YthojdcaojjmoaaaGreatDoorA38
import Derived.Test.YthojdcaojjmoaaaGreatDoorA04
import Derived.Test.YthojdcaojjmoaaaGreatDoorA27
import Derived.Test.YthojdcaojjmoaaaGreatDoorA11
import Derived.Test.YthojdcaojjmoaaaGreatDoorA34
namespace Go.Proofs.YthojdcaojjmoaaaGreatDoor
open Go.RowKit Go.Proofs.Wit
/-! the examples of chapter 21 -/
def plB (f : List NV) (A B : Nat) : Bool := chkF f == 0 && (fitB f A B && ((andN (frgL (compF f)) 1 : Nat) : Int) == 0)
def optR : Option Nat → Int × Int
  | none => (0, 6)
  | some k => ((k : Int), 0)
theorem dpD_val {m : MV} {v x : Int} (hck : chkD m [v, x] = 0) : dpD m v x = optR (dst m.n.toNat m.val m.rel v.toNat x.toNat) := by
  rw [dpD, if_neg (by simp [hck])]
  cases dst m.n.toNat m.val m.rel v.toNat x.toNat <;> rfl
theorem dp_ex {b22 b21 b20 : Nat} (v x : Int) {k : Option Nat} (hv : 0 ≤ v ∧ v < 3) (hx : 0 ≤ x ∧ x < 3) (h : dst 3 exV exM v.toNat x.toNat = k) : dpD (mvE b22 b21 b20 [2#64, 4#64, 4#64]) v x = optR k := by
  have hck : chkD (mvE b22 b21 b20 [2#64, 4#64, 4#64]) [v, x] = 0 := chkD_zero.2 ⟨ex_valM, fun y hy => by
    simp only [List.mem_cons, List.not_mem_nil, or_false] at hy
    rcases hy with rfl | rfl
    · exact hv
    · exact hx⟩
  rw [dpD_val hck, ← h]; rfl
theorem form_get {m : MV} {n : Nat} {v x : Int} {f : List NV} {e : Int} {k : Nat} (h : FormP m v x f e) (hn : m.n = (n : Int)) (h5 : n ≤ 5) (hv : ValM m.n m.val m.rel) (hv2 : 0 ≤ v ∧ v < m.n) (hx : 0 ≤ x ∧ x < m.n) (hd : dst n m.val m.rel v.toNat x.toNat = some k) : e = 0 ∧ f.length ≤ 200 ∧ ∃ t, PlnF n m.val m.rel f t ∧ TellT n m.val m.rel v.toNat x.toNat k t := by
  have hn1 := hv.n1
  have hn64 := hv.n64
  have hck : chkD m [v, x] = 0 := chkD_zero.2 ⟨hv, fun y hy => by
    simp only [List.mem_cons, List.not_mem_nil, or_false] at hy
    rcases hy with rfl | rfl
    · exact hv2
    · exact hx⟩
  have hvN : ValM (n : Int) m.val m.rel := by rw [← hn]; exact hv
  have hdp : dpD m v x = ((k : Int), 0) := by rw [dpD, if_neg (by simp [hck]), hn, Int.toNat_natCast, hd]
  rcases h with h | h | ⟨_, rfl, hne, j, t, hj, ht, hf⟩
  · rw [hdp] at h; exact absurd rfl h.1
  · exact absurd h.2.2.2 (by omega)
  · rw [hn, Int.toNat_natCast] at ht hj
    rw [hd] at hj
    obtain rfl := Option.some.inj hj
    exact ⟨rfl, by rw [hf]; exact bT_le _, t, PlnF.of hvN ht.ok ht.pl hf hne, ht⟩
theorem holdS_of {m : MV} {n : Nat} {f : List NV} {t : Tr} (h : PlnF n m.val m.rel f t) (hn : m.n = (n : Int)) : holdS m n f = semT n m.val m.rel t ∧ holdE m.n m.val m.rel f = 0 := by
  have h0 : holdE m.n m.val m.rel f = 0 := by rw [hn]; exact h.hold
  exact ⟨by rw [holdS, if_pos h0, h.top], h0⟩
end Go.Proofs.YthojdcaojjmoaaaGreatDoor
namespace Go.Proofs.YthojdcaojjmoaaaGreatDoor
open Go.RowKit Go.Proofs.Wit
/-! the reference's modal depth -/
set_option maxRecDepth 8000 in
theorem rdepth05_c (a : Option Addr) (ca : Nat) (f : List NV) (w : World) (ha : FA w a f) (hl : f.length ≤ maxLen) : Cn Tryz.prog 13 [.slice a f.length ca] w (fun v _ => v = .int .i64 (depF f)) := by
  obtain ⟨i0, hi, hz, hsz, hby⟩ := info_parts infoI
  obtain ⟨c, hcE⟩ : ∃ c, c = compF f := ⟨_, rfl⟩
  have hcl : c.length ≤ 200 := by rw [hcE]; exact compF_le f
  have hno : NodesOk c := by rw [hcE]; exact compF_nodes f
  refine Cn.of Tryz.func13 rfl rfl ?_
  refine gS (gR ?_)
  refine gAs ?_
  refine gE (gS (gR ?_))
  refine gMv ?_
  refine GoH.callM _ rfl rfl rfl rfl rfl (fun _ _ => Tryz.call22 _ _) (fun w _ hS => rcompact_c a ca f w (ha.ex0 hS.ext) hl) ?_
  rintro v w1 w2 Y' hS he ho
  rw [subF_top, ← hcE] at ho
  obtain ⟨qc, capc, spc, rfl, hqc, hcapc, hS'⟩ := gainN hS he ho
  refine ⟨_, hS', ?_⟩
  refine gAs ?_
  refine gE (gS (gR ?_))
  refine gAs ?_
  refine gE (gS (gS (gR ?_)))
  refine gAs ?_
  refine gE (gB ?_)
  refine GoH.addNone (ob I64 3 [] []) ?_
  refine GoH.loop (σ := Nat × Option Nat × Nat × List Value) (fun z => [(3, osv qc c.length capc), (4, osv z.2.1 (depL c z.1).length z.2.2.1), (5, .int .i64 z.1)]) (fun z => [(z.2.1, ob I64 3 (depL c z.1) z.2.2.2), (qc, obN 54 c spc)])
    (fun z => z.1 ≤ c.length ∧ (z.2.1 = none → (depL c z.1).length = 0 ∧ z.2.2.1 = 0) ∧ ((depL c z.1).map I64 ++ z.2.2.2).length = z.2.2.1) (fun z => c.length - z.1) (0, none, 0, [])
    ⟨Nat.zero_le _, fun _ => ⟨rfl, rfl⟩, rfl⟩ ⟨rfl, rfl, rfl, trivial⟩ (List.Sublist.refl _) (fun z hI IH => ?_)
  obtain ⟨k, q, cap, sp⟩ := z
  obtain ⟨hk, hq, hcap⟩ := hI
  dsimp only at hk hq hcap IH ⊢
  refine gS (gS (gR ?_))
  iterate 2 refine gMv ?_
  refine gBl Tryz.underlying26 ?_
  refine gBi bLt ?_
  refine gE ?_
  refine GoH.cond rfl (fun hc => ?_) (fun hc => ?_)
  ·
   have hlt : k < c.length := by simpa using hc
   have hord := hno.ord k hlt
   have hdl : (depL c k).length = k := depL_len
   have hdn := depT_node hno hlt
   have hda := depT_at hno hlt
   obtain ⟨bc, rfl⟩ : ∃ bc, qc = some bc := by
     cases qc with
     | none => have := (hqc rfl).1; omega
     | some b => exact ⟨b, rfl⟩
   refine gK (gS (gB (gS (gR ?_))))
   refine gAs ?_
   refine gE (gS (gS (gR ?_)))
   iterate 2 refine gMv ?_
   refine GoH.v (Vop.idxS rfl rfl rfl rfl rfl Tryz.underlying26 Tryz.sizeOf54 (k) ⟨rfl, hlt⟩) ?_
   refine GoH.v (Vop.fldA (a := some ⟨bc, 0, none⟩) (o := (k) * 6) rfl rfl rfl rfl Tryz.underlying54 rfl Tryz.sizeOf3 ((k) * 6 + 0) rfl) ?_
   refine GoH.v (Vop.ld rfl rfl rfl rfl Tryz.isAgg3 (fun w _ hS => Sl.fld (enc := NV.cells) (sz := 6) (a := some ⟨bc, 0, none⟩) (Sl.blk (hS.get (j := 1) rfl)) (fun _ => rfl) hlt rfl)) ?_
   refine GoH.callP rfl rfl rfl rfl rfl (fun _ _ => Tryz.call29 _ _) (fun w _ hS => (by exact usesX_c c[k].op w)) ?_
   refine gE ?_
   refine GoH.cond rfl (fun hc => ?_) (fun hc => ?_)
   ·
    have hx := hord.1 hc
    rw [if_pos hc] at hdn
    obtain ⟨b, rfl⟩ : ∃ b, q = some b := by
      cases q with
      | none => have := (hq rfl).1; omega
      | some b => exact ⟨b, rfl⟩
    have hgx : (depL c k).getD c[k].x.toNat 0 = depT (treeAt c c[k].x.toNat) := depL_get (by omega)
    refine gR ?_
    iterate 3 refine gMv ?_
    refine GoH.v (Vop.idxS rfl rfl rfl rfl rfl Tryz.underlying26 Tryz.sizeOf54 (k) ⟨rfl, hlt⟩) ?_
    refine GoH.v (Vop.fldA (a := some ⟨bc, 0, none⟩) (o := (k) * 6) rfl rfl rfl rfl Tryz.underlying54 rfl Tryz.sizeOf3 ((k) * 6 + 4) rfl) ?_
    refine GoH.v (Vop.ld rfl rfl rfl rfl Tryz.isAgg3 (fun w _ hS => Sl.fld (enc := NV.cells) (sz := 6) (a := some ⟨bc, 0, none⟩) (Sl.blk (hS.get (j := 1) rfl)) (fun _ => rfl) hlt rfl)) ?_
    refine GoH.v (Vop.idxS rfl rfl rfl rfl rfl Tryz.underlying36 Tryz.sizeOf3 (c[k].x.toNat) ⟨(Int.toNat_of_nonneg hx.1).symm, (by rw [hdl]; omega)⟩) ?_
    refine GoH.v (Vop.ldE I64 0 rfl rfl rfl rfl Tryz.isAgg3 0 rfl (by rw [hdl]; omega)) ?_
    refine gAs ?_
    refine gE (gS (gS (gR ?_)))
    iterate 2 refine gMv ?_
    refine GoH.v (Vop.idxS rfl rfl rfl rfl rfl Tryz.underlying26 Tryz.sizeOf54 (k) ⟨rfl, hlt⟩) ?_
    refine GoH.v (Vop.fldA (a := some ⟨bc, 0, none⟩) (o := (k) * 6) rfl rfl rfl rfl Tryz.underlying54 rfl Tryz.sizeOf3 ((k) * 6 + 0) rfl) ?_
    refine GoH.v (Vop.ld rfl rfl rfl rfl Tryz.isAgg3 (fun w _ hS => Sl.fld (enc := NV.cells) (sz := 6) (a := some ⟨bc, 0, none⟩) (Sl.blk (hS.get (j := 1) rfl)) (fun _ => rfl) hlt rfl)) ?_
    refine GoH.callP rfl rfl rfl rfl rfl (fun _ _ => Tryz.call30 _ _) (fun w _ hS => (by exact usesY_c c[k].op w)) ?_
    refine gE ?_
    refine GoH.cond rfl (fun hc => ?_) (fun hc => ?_)
    ·
     rw [hgx]
     have hy := hord.2 hc
     rw [if_pos hc] at hdn
     have hgy : (depL c k).getD c[k].y.toNat 0 = depT (treeAt c c[k].y.toNat) := depL_get (by omega)
     refine gR ?_
     iterate 4 refine gMv ?_
     refine GoH.v (Vop.idxS rfl rfl rfl rfl rfl Tryz.underlying26 Tryz.sizeOf54 (k) ⟨rfl, hlt⟩) ?_
     refine GoH.v (Vop.fldA (a := some ⟨bc, 0, none⟩) (o := (k) * 6) rfl rfl rfl rfl Tryz.underlying54 rfl Tryz.sizeOf3 ((k) * 6 + 5) rfl) ?_
     refine GoH.v (Vop.ld rfl rfl rfl rfl Tryz.isAgg3 (fun w _ hS => Sl.fld (enc := NV.cells) (sz := 6) (a := some ⟨bc, 0, none⟩) (Sl.blk (hS.get (j := 1) rfl)) (fun _ => rfl) hlt rfl)) ?_
     refine GoH.v (Vop.idxS rfl rfl rfl rfl rfl Tryz.underlying36 Tryz.sizeOf3 (c[k].y.toNat) ⟨(Int.toNat_of_nonneg hy.1).symm, (by rw [hdl]; omega)⟩) ?_
     refine GoH.v (Vop.ldE I64 0 rfl rfl rfl rfl Tryz.isAgg3 0 rfl (by rw [hdl]; omega)) ?_
     refine GoH.v (Vop.blt rfl rfl rfl (blt_max (c := ((max (depT (treeAt c c[k].x.toNat)) (depT (treeAt c c[k].y.toNat)) : Nat) : Int)) (by rw [hgy]; omega)) rfl) ?_
     refine gAs ?_
     refine gE (gS (gS (gR ?_)))
     iterate 2 refine gMv ?_
     refine GoH.v (Vop.idxS rfl rfl rfl rfl rfl Tryz.underlying26 Tryz.sizeOf54 (k) ⟨rfl, hlt⟩) ?_
     refine GoH.v (Vop.fldA (a := some ⟨bc, 0, none⟩) (o := (k) * 6) rfl rfl rfl rfl Tryz.underlying54 rfl Tryz.sizeOf3 ((k) * 6 + 0) rfl) ?_
     refine GoH.v (Vop.ld rfl rfl rfl rfl Tryz.isAgg3 (fun w _ hS => Sl.fld (enc := NV.cells) (sz := 6) (a := some ⟨bc, 0, none⟩) (Sl.blk (hS.get (j := 1) rfl)) (fun _ => rfl) hlt rfl)) ?_
     refine gBi bGe ?_
     refine gMv ?_
     refine GoH.cases (d := 51) rfl (fun hc => ?_) (fun hc => ?_)
     ·
      have h9 : 9 ≤ c[k].op := by simpa using hc
      iterate 2 refine gMv ?_
      refine GoH.v (Vop.idxS rfl rfl rfl rfl rfl Tryz.underlying26 Tryz.sizeOf54 (k) ⟨rfl, hlt⟩) ?_
      refine GoH.v (Vop.fldA (a := some ⟨bc, 0, none⟩) (o := (k) * 6) rfl rfl rfl rfl Tryz.underlying54 rfl Tryz.sizeOf3 ((k) * 6 + 0) rfl) ?_
      refine GoH.v (Vop.ld rfl rfl rfl rfl Tryz.isAgg3 (fun w _ hS => Sl.fld (enc := NV.cells) (sz := 6) (a := some ⟨bc, 0, none⟩) (Sl.blk (hS.get (j := 1) rfl)) (fun _ => rfl) hlt rfl)) ?_
      refine gBi bLe ?_
      refine gPt ?_
      refine gMv ?_
      refine GoH.cases (d := 59) rfl (fun hc => ?_) (fun hc => ?_)
      ·
       have h15 : c[k].op ≤ 15 := by simpa using hc
       have h1 : mdO c[k].op = 1 := if_pos (by omega)
       iterate 6 refine gNo ?_
       refine gPt ?_
       refine gE (GoH.condT rfl (gR ?_))
       refine gMv ?_
       refine GoH.v (Vop.bin rfl rfl rfl rfl (bAddE (c := (depT (treeAt c k) : Int)) (by rw [hdn, h1]; rfl) (by omega)) rfl) ?_
       refine gAs ?_
       refine gE (gR ?_)
       iterate 2 refine gMv ?_
       refine GoH.bsN (c := [_]) rfl rfl rfl rfl Tryz.underlying36 Tryz.sizeOf3 Tryz.zeroValue3 rfl rfl (fun b71 => ?_)
       refine GoH.appE I64 (xs := depL c k) (sp := sp) (q := some b) (news := [(depT (treeAt c k) : Int)]) (spn := []) rfl rfl rfl rfl rfl Tryz.underlying36 hi hz hsz rfl hq 1 rfl 0 rfl hcap rfl (by decide) (fun _ => rfl) (by unfold maxLen; rw [hdl]; omega) (by rw [hby, hdl]; omega) (fun b' sp' cap' hlen2 => ?_)
       rw [← depL_succ] at hlen2 ⊢
       refine gAs ?_
       refine gE (gIb (gR ?_))
       refine gMv ?_
       refine GoH.v (Vop.bin rfl rfl rfl rfl (bAdd (by omega)) rfl) ?_
       refine gAs ?_
       refine gE ?_
       exact IH (k + 1, some b', cap', sp') _ _ ⟨hlt, (fun e => by cases e), hlen2⟩ (by dsimp only; omega) ⟨rfl, rfl, rfl, trivial⟩ (.cons _ (List.Sublist.refl _))
      ·
       have h15 : ¬ c[k].op ≤ 15 := by simpa using hc
       iterate 2 refine gMv ?_
       refine GoH.v (Vop.idxS rfl rfl rfl rfl rfl Tryz.underlying26 Tryz.sizeOf54 (k) ⟨rfl, hlt⟩) ?_
       refine GoH.v (Vop.fldA (a := some ⟨bc, 0, none⟩) (o := (k) * 6) rfl rfl rfl rfl Tryz.underlying54 rfl Tryz.sizeOf3 ((k) * 6 + 0) rfl) ?_
       refine GoH.v (Vop.ld rfl rfl rfl rfl Tryz.isAgg3 (fun w _ hS => Sl.fld (enc := NV.cells) (sz := 6) (a := some ⟨bc, 0, none⟩) (Sl.blk (hS.get (j := 1) rfl)) (fun _ => rfl) hlt rfl)) ?_
       refine gBi bGe ?_
       refine gPf ?_
       refine gE ?_
       refine GoH.cond rfl (fun hc => ?_) (fun hc => ?_)
       ·
        have h18 : 18 ≤ c[k].op := by simpa using hc
        have h1 : mdO c[k].op = 1 := if_pos (by omega)
        refine gR ?_
        refine gMv ?_
        refine GoH.v (Vop.bin rfl rfl rfl rfl (bAddE (c := (depT (treeAt c k) : Int)) (by rw [hdn, h1]; rfl) (by omega)) rfl) ?_
        refine gAs ?_
        refine gE (gR ?_)
        iterate 2 refine gMv ?_
        refine GoH.bsN (c := [_]) rfl rfl rfl rfl Tryz.underlying36 Tryz.sizeOf3 Tryz.zeroValue3 rfl rfl (fun b71 => ?_)
        refine GoH.appE I64 (xs := depL c k) (sp := sp) (q := some b) (news := [(depT (treeAt c k) : Int)]) (spn := []) rfl rfl rfl rfl rfl Tryz.underlying36 hi hz hsz rfl hq 1 rfl 0 rfl hcap rfl (by decide) (fun _ => rfl) (by unfold maxLen; rw [hdl]; omega) (by rw [hby, hdl]; omega) (fun b' sp' cap' hlen2 => ?_)
        rw [← depL_succ] at hlen2 ⊢
        refine gAs ?_
        refine gE (gIb (gR ?_))
        refine gMv ?_
        refine GoH.v (Vop.bin rfl rfl rfl rfl (bAdd (by omega)) rfl) ?_
        refine gAs ?_
        refine gE ?_
        exact IH (k + 1, some b', cap', sp') _ _ ⟨hlt, (fun e => by cases e), hlen2⟩ (by dsimp only; omega) ⟨rfl, rfl, rfl, trivial⟩ (.cons _ (List.Sublist.refl _))
       ·
        have h18 : ¬ 18 ≤ c[k].op := by simpa using hc
        have h1 : mdO c[k].op = 0 := if_neg (by omega)
        have hz2 : ((max (depT (treeAt c c[k].x.toNat)) (depT (treeAt c c[k].y.toNat)) : Nat) : Int) = (depT (treeAt c k) : Int) := by rw [hdn, h1, Nat.add_zero]
        rw [hz2]
        refine gK (gR ?_)
        iterate 2 refine gMv ?_
        refine GoH.bsN (c := [_]) rfl rfl rfl rfl Tryz.underlying36 Tryz.sizeOf3 Tryz.zeroValue3 rfl rfl (fun b71 => ?_)
        refine GoH.appE I64 (xs := depL c k) (sp := sp) (q := some b) (news := [(depT (treeAt c k) : Int)]) (spn := []) rfl rfl rfl rfl rfl Tryz.underlying36 hi hz hsz rfl hq 1 rfl 0 rfl hcap rfl (by decide) (fun _ => rfl) (by unfold maxLen; rw [hdl]; omega) (by rw [hby, hdl]; omega) (fun b' sp' cap' hlen2 => ?_)
        rw [← depL_succ] at hlen2 ⊢
        refine gAs ?_
        refine gE (gIb (gR ?_))
        refine gMv ?_
        refine GoH.v (Vop.bin rfl rfl rfl rfl (bAdd (by omega)) rfl) ?_
        refine gAs ?_
        refine gE ?_
        exact IH (k + 1, some b', cap', sp') _ _ ⟨hlt, (fun e => by cases e), hlen2⟩ (by dsimp only; omega) ⟨rfl, rfl, rfl, trivial⟩ (.cons _ (List.Sublist.refl _))
     ·
      have h9 : ¬ 9 ≤ c[k].op := by simpa using hc
      iterate 6 refine gNo ?_
      refine gPf ?_
      iterate 3 refine gMv ?_
      refine GoH.v (Vop.idxS rfl rfl rfl rfl rfl Tryz.underlying26 Tryz.sizeOf54 (k) ⟨rfl, hlt⟩) ?_
      refine GoH.v (Vop.fldA (a := some ⟨bc, 0, none⟩) (o := (k) * 6) rfl rfl rfl rfl Tryz.underlying54 rfl Tryz.sizeOf3 ((k) * 6 + 0) rfl) ?_
      refine GoH.v (Vop.ld rfl rfl rfl rfl Tryz.isAgg3 (fun w _ hS => Sl.fld (enc := NV.cells) (sz := 6) (a := some ⟨bc, 0, none⟩) (Sl.blk (hS.get (j := 1) rfl)) (fun _ => rfl) hlt rfl)) ?_
      refine gBi bGe ?_
      refine gPf ?_
      refine gE ?_
      refine GoH.cond rfl (fun hc => ?_) (fun hc => ?_)
      ·
       have h18 : 18 ≤ c[k].op := by simpa using hc
       have h1 : mdO c[k].op = 1 := if_pos (by omega)
       refine gR ?_
       refine gMv ?_
       refine GoH.v (Vop.bin rfl rfl rfl rfl (bAddE (c := (depT (treeAt c k) : Int)) (by rw [hdn, h1]; rfl) (by omega)) rfl) ?_
       refine gAs ?_
       refine gE (gR ?_)
       iterate 2 refine gMv ?_
       refine GoH.bsN (c := [_]) rfl rfl rfl rfl Tryz.underlying36 Tryz.sizeOf3 Tryz.zeroValue3 rfl rfl (fun b71 => ?_)
       refine GoH.appE I64 (xs := depL c k) (sp := sp) (q := some b) (news := [(depT (treeAt c k) : Int)]) (spn := []) rfl rfl rfl rfl rfl Tryz.underlying36 hi hz hsz rfl hq 1 rfl 0 rfl hcap rfl (by decide) (fun _ => rfl) (by unfold maxLen; rw [hdl]; omega) (by rw [hby, hdl]; omega) (fun b' sp' cap' hlen2 => ?_)
       rw [← depL_succ] at hlen2 ⊢
       refine gAs ?_
       refine gE (gIb (gR ?_))
       refine gMv ?_
       refine GoH.v (Vop.bin rfl rfl rfl rfl (bAdd (by omega)) rfl) ?_
       refine gAs ?_
       refine gE ?_
       exact IH (k + 1, some b', cap', sp') _ _ ⟨hlt, (fun e => by cases e), hlen2⟩ (by dsimp only; omega) ⟨rfl, rfl, rfl, trivial⟩ (.cons _ (List.Sublist.refl _))
      ·
       have h18 : ¬ 18 ≤ c[k].op := by simpa using hc
       have h1 : mdO c[k].op = 0 := if_neg (by omega)
       have hz2 : ((max (depT (treeAt c c[k].x.toNat)) (depT (treeAt c c[k].y.toNat)) : Nat) : Int) = (depT (treeAt c k) : Int) := by rw [hdn, h1, Nat.add_zero]
       rw [hz2]
       refine gK (gR ?_)
       iterate 2 refine gMv ?_
       refine GoH.bsN (c := [_]) rfl rfl rfl rfl Tryz.underlying36 Tryz.sizeOf3 Tryz.zeroValue3 rfl rfl (fun b71 => ?_)
       refine GoH.appE I64 (xs := depL c k) (sp := sp) (q := some b) (news := [(depT (treeAt c k) : Int)]) (spn := []) rfl rfl rfl rfl rfl Tryz.underlying36 hi hz hsz rfl hq 1 rfl 0 rfl hcap rfl (by decide) (fun _ => rfl) (by unfold maxLen; rw [hdl]; omega) (by rw [hby, hdl]; omega) (fun b' sp' cap' hlen2 => ?_)
       rw [← depL_succ] at hlen2 ⊢
       refine gAs ?_
       refine gE (gIb (gR ?_))
       refine gMv ?_
       refine GoH.v (Vop.bin rfl rfl rfl rfl (bAdd (by omega)) rfl) ?_
       refine gAs ?_
       refine gE ?_
       exact IH (k + 1, some b', cap', sp') _ _ ⟨hlt, (fun e => by cases e), hlen2⟩ (by dsimp only; omega) ⟨rfl, rfl, rfl, trivial⟩ (.cons _ (List.Sublist.refl _))
    ·
     rw [hgx]
     rw [if_neg (by rw [hc]; simp), Nat.max_zero] at hdn
     refine gK (gS (gS (gR ?_)))
     iterate 2 refine gMv ?_
     refine GoH.v (Vop.idxS rfl rfl rfl rfl rfl Tryz.underlying26 Tryz.sizeOf54 (k) ⟨rfl, hlt⟩) ?_
     refine GoH.v (Vop.fldA (a := some ⟨bc, 0, none⟩) (o := (k) * 6) rfl rfl rfl rfl Tryz.underlying54 rfl Tryz.sizeOf3 ((k) * 6 + 0) rfl) ?_
     refine GoH.v (Vop.ld rfl rfl rfl rfl Tryz.isAgg3 (fun w _ hS => Sl.fld (enc := NV.cells) (sz := 6) (a := some ⟨bc, 0, none⟩) (Sl.blk (hS.get (j := 1) rfl)) (fun _ => rfl) hlt rfl)) ?_
     refine gBi bGe ?_
     refine gMv ?_
     refine GoH.cases (d := 51) rfl (fun hc => ?_) (fun hc => ?_)
     ·
      have h9 : 9 ≤ c[k].op := by simpa using hc
      iterate 2 refine gMv ?_
      refine GoH.v (Vop.idxS rfl rfl rfl rfl rfl Tryz.underlying26 Tryz.sizeOf54 (k) ⟨rfl, hlt⟩) ?_
      refine GoH.v (Vop.fldA (a := some ⟨bc, 0, none⟩) (o := (k) * 6) rfl rfl rfl rfl Tryz.underlying54 rfl Tryz.sizeOf3 ((k) * 6 + 0) rfl) ?_
      refine GoH.v (Vop.ld rfl rfl rfl rfl Tryz.isAgg3 (fun w _ hS => Sl.fld (enc := NV.cells) (sz := 6) (a := some ⟨bc, 0, none⟩) (Sl.blk (hS.get (j := 1) rfl)) (fun _ => rfl) hlt rfl)) ?_
      refine gBi bLe ?_
      refine gPt ?_
      refine gMv ?_
      refine GoH.cases (d := 59) rfl (fun hc => ?_) (fun hc => ?_)
      ·
       have h15 : c[k].op ≤ 15 := by simpa using hc
       have h1 : mdO c[k].op = 1 := if_pos (by omega)
       iterate 6 refine gNo ?_
       refine gPt ?_
       refine gE (GoH.condT rfl (gR ?_))
       refine gMv ?_
       refine GoH.v (Vop.bin rfl rfl rfl rfl (bAddE (c := (depT (treeAt c k) : Int)) (by rw [hdn, h1]; rfl) (by omega)) rfl) ?_
       refine gAs ?_
       refine gE (gR ?_)
       iterate 2 refine gMv ?_
       refine GoH.bsN (c := [_]) rfl rfl rfl rfl Tryz.underlying36 Tryz.sizeOf3 Tryz.zeroValue3 rfl rfl (fun b71 => ?_)
       refine GoH.appE I64 (xs := depL c k) (sp := sp) (q := some b) (news := [(depT (treeAt c k) : Int)]) (spn := []) rfl rfl rfl rfl rfl Tryz.underlying36 hi hz hsz rfl hq 1 rfl 0 rfl hcap rfl (by decide) (fun _ => rfl) (by unfold maxLen; rw [hdl]; omega) (by rw [hby, hdl]; omega) (fun b' sp' cap' hlen2 => ?_)
       rw [← depL_succ] at hlen2 ⊢
       refine gAs ?_
       refine gE (gIb (gR ?_))
       refine gMv ?_
       refine GoH.v (Vop.bin rfl rfl rfl rfl (bAdd (by omega)) rfl) ?_
       refine gAs ?_
       refine gE ?_
       exact IH (k + 1, some b', cap', sp') _ _ ⟨hlt, (fun e => by cases e), hlen2⟩ (by dsimp only; omega) ⟨rfl, rfl, rfl, trivial⟩ (.cons _ (List.Sublist.refl _))
      ·
       have h15 : ¬ c[k].op ≤ 15 := by simpa using hc
       iterate 2 refine gMv ?_
       refine GoH.v (Vop.idxS rfl rfl rfl rfl rfl Tryz.underlying26 Tryz.sizeOf54 (k) ⟨rfl, hlt⟩) ?_
       refine GoH.v (Vop.fldA (a := some ⟨bc, 0, none⟩) (o := (k) * 6) rfl rfl rfl rfl Tryz.underlying54 rfl Tryz.sizeOf3 ((k) * 6 + 0) rfl) ?_
       refine GoH.v (Vop.ld rfl rfl rfl rfl Tryz.isAgg3 (fun w _ hS => Sl.fld (enc := NV.cells) (sz := 6) (a := some ⟨bc, 0, none⟩) (Sl.blk (hS.get (j := 1) rfl)) (fun _ => rfl) hlt rfl)) ?_
       refine gBi bGe ?_
       refine gPf ?_
       refine gE ?_
       refine GoH.cond rfl (fun hc => ?_) (fun hc => ?_)
       ·
        have h18 : 18 ≤ c[k].op := by simpa using hc
        have h1 : mdO c[k].op = 1 := if_pos (by omega)
        refine gR ?_
        refine gMv ?_
        refine GoH.v (Vop.bin rfl rfl rfl rfl (bAddE (c := (depT (treeAt c k) : Int)) (by rw [hdn, h1]; rfl) (by omega)) rfl) ?_
        refine gAs ?_
        refine gE (gR ?_)
        iterate 2 refine gMv ?_
        refine GoH.bsN (c := [_]) rfl rfl rfl rfl Tryz.underlying36 Tryz.sizeOf3 Tryz.zeroValue3 rfl rfl (fun b71 => ?_)
        refine GoH.appE I64 (xs := depL c k) (sp := sp) (q := some b) (news := [(depT (treeAt c k) : Int)]) (spn := []) rfl rfl rfl rfl rfl Tryz.underlying36 hi hz hsz rfl hq 1 rfl 0 rfl hcap rfl (by decide) (fun _ => rfl) (by unfold maxLen; rw [hdl]; omega) (by rw [hby, hdl]; omega) (fun b' sp' cap' hlen2 => ?_)
        rw [← depL_succ] at hlen2 ⊢
        refine gAs ?_
        refine gE (gIb (gR ?_))
        refine gMv ?_
        refine GoH.v (Vop.bin rfl rfl rfl rfl (bAdd (by omega)) rfl) ?_
        refine gAs ?_
        refine gE ?_
        exact IH (k + 1, some b', cap', sp') _ _ ⟨hlt, (fun e => by cases e), hlen2⟩ (by dsimp only; omega) ⟨rfl, rfl, rfl, trivial⟩ (.cons _ (List.Sublist.refl _))
       ·
        have h18 : ¬ 18 ≤ c[k].op := by simpa using hc
        have h1 : mdO c[k].op = 0 := if_neg (by omega)
        have hz2 : ((depT (treeAt c c[k].x.toNat) : Nat) : Int) = (depT (treeAt c k) : Int) := by rw [hdn, h1, Nat.add_zero]
        rw [hz2]
        refine gK (gR ?_)
        iterate 2 refine gMv ?_
        refine GoH.bsN (c := [_]) rfl rfl rfl rfl Tryz.underlying36 Tryz.sizeOf3 Tryz.zeroValue3 rfl rfl (fun b71 => ?_)
        refine GoH.appE I64 (xs := depL c k) (sp := sp) (q := some b) (news := [(depT (treeAt c k) : Int)]) (spn := []) rfl rfl rfl rfl rfl Tryz.underlying36 hi hz hsz rfl hq 1 rfl 0 rfl hcap rfl (by decide) (fun _ => rfl) (by unfold maxLen; rw [hdl]; omega) (by rw [hby, hdl]; omega) (fun b' sp' cap' hlen2 => ?_)
        rw [← depL_succ] at hlen2 ⊢
        refine gAs ?_
        refine gE (gIb (gR ?_))
        refine gMv ?_
        refine GoH.v (Vop.bin rfl rfl rfl rfl (bAdd (by omega)) rfl) ?_
        refine gAs ?_
        refine gE ?_
        exact IH (k + 1, some b', cap', sp') _ _ ⟨hlt, (fun e => by cases e), hlen2⟩ (by dsimp only; omega) ⟨rfl, rfl, rfl, trivial⟩ (.cons _ (List.Sublist.refl _))
     ·
      have h9 : ¬ 9 ≤ c[k].op := by simpa using hc
      iterate 6 refine gNo ?_
      refine gPf ?_
      iterate 3 refine gMv ?_
      refine GoH.v (Vop.idxS rfl rfl rfl rfl rfl Tryz.underlying26 Tryz.sizeOf54 (k) ⟨rfl, hlt⟩) ?_
      refine GoH.v (Vop.fldA (a := some ⟨bc, 0, none⟩) (o := (k) * 6) rfl rfl rfl rfl Tryz.underlying54 rfl Tryz.sizeOf3 ((k) * 6 + 0) rfl) ?_
      refine GoH.v (Vop.ld rfl rfl rfl rfl Tryz.isAgg3 (fun w _ hS => Sl.fld (enc := NV.cells) (sz := 6) (a := some ⟨bc, 0, none⟩) (Sl.blk (hS.get (j := 1) rfl)) (fun _ => rfl) hlt rfl)) ?_
      refine gBi bGe ?_
      refine gPf ?_
      refine gE ?_
      refine GoH.cond rfl (fun hc => ?_) (fun hc => ?_)
      ·
       have h18 : 18 ≤ c[k].op := by simpa using hc
       have h1 : mdO c[k].op = 1 := if_pos (by omega)
       refine gR ?_
       refine gMv ?_
       refine GoH.v (Vop.bin rfl rfl rfl rfl (bAddE (c := (depT (treeAt c k) : Int)) (by rw [hdn, h1]; rfl) (by omega)) rfl) ?_
       refine gAs ?_
       refine gE (gR ?_)
       iterate 2 refine gMv ?_
       refine GoH.bsN (c := [_]) rfl rfl rfl rfl Tryz.underlying36 Tryz.sizeOf3 Tryz.zeroValue3 rfl rfl (fun b71 => ?_)
       refine GoH.appE I64 (xs := depL c k) (sp := sp) (q := some b) (news := [(depT (treeAt c k) : Int)]) (spn := []) rfl rfl rfl rfl rfl Tryz.underlying36 hi hz hsz rfl hq 1 rfl 0 rfl hcap rfl (by decide) (fun _ => rfl) (by unfold maxLen; rw [hdl]; omega) (by rw [hby, hdl]; omega) (fun b' sp' cap' hlen2 => ?_)
       rw [← depL_succ] at hlen2 ⊢
       refine gAs ?_
       refine gE (gIb (gR ?_))
       refine gMv ?_
       refine GoH.v (Vop.bin rfl rfl rfl rfl (bAdd (by omega)) rfl) ?_
       refine gAs ?_
       refine gE ?_
       exact IH (k + 1, some b', cap', sp') _ _ ⟨hlt, (fun e => by cases e), hlen2⟩ (by dsimp only; omega) ⟨rfl, rfl, rfl, trivial⟩ (.cons _ (List.Sublist.refl _))
      ·
       have h18 : ¬ 18 ≤ c[k].op := by simpa using hc
       have h1 : mdO c[k].op = 0 := if_neg (by omega)
       have hz2 : ((depT (treeAt c c[k].x.toNat) : Nat) : Int) = (depT (treeAt c k) : Int) := by rw [hdn, h1, Nat.add_zero]
       rw [hz2]
       refine gK (gR ?_)
       iterate 2 refine gMv ?_
       refine GoH.bsN (c := [_]) rfl rfl rfl rfl Tryz.underlying36 Tryz.sizeOf3 Tryz.zeroValue3 rfl rfl (fun b71 => ?_)
       refine GoH.appE I64 (xs := depL c k) (sp := sp) (q := some b) (news := [(depT (treeAt c k) : Int)]) (spn := []) rfl rfl rfl rfl rfl Tryz.underlying36 hi hz hsz rfl hq 1 rfl 0 rfl hcap rfl (by decide) (fun _ => rfl) (by unfold maxLen; rw [hdl]; omega) (by rw [hby, hdl]; omega) (fun b' sp' cap' hlen2 => ?_)
       rw [← depL_succ] at hlen2 ⊢
       refine gAs ?_
       refine gE (gIb (gR ?_))
       refine gMv ?_
       refine GoH.v (Vop.bin rfl rfl rfl rfl (bAdd (by omega)) rfl) ?_
       refine gAs ?_
       refine gE ?_
       exact IH (k + 1, some b', cap', sp') _ _ ⟨hlt, (fun e => by cases e), hlen2⟩ (by dsimp only; omega) ⟨rfl, rfl, rfl, trivial⟩ (.cons _ (List.Sublist.refl _))
   ·
    have hc0 := hc
    rw [if_neg (by rw [hc]; simp)] at hdn
    refine gK (gS (gS (gR ?_)))
    iterate 2 refine gMv ?_
    refine GoH.v (Vop.idxS rfl rfl rfl rfl rfl Tryz.underlying26 Tryz.sizeOf54 (k) ⟨rfl, hlt⟩) ?_
    refine GoH.v (Vop.fldA (a := some ⟨bc, 0, none⟩) (o := (k) * 6) rfl rfl rfl rfl Tryz.underlying54 rfl Tryz.sizeOf3 ((k) * 6 + 0) rfl) ?_
    refine GoH.v (Vop.ld rfl rfl rfl rfl Tryz.isAgg3 (fun w _ hS => Sl.fld (enc := NV.cells) (sz := 6) (a := some ⟨bc, 0, none⟩) (Sl.blk (hS.get (j := 1) rfl)) (fun _ => rfl) hlt rfl)) ?_
    refine GoH.callP rfl rfl rfl rfl rfl (fun _ _ => Tryz.call30 _ _) (fun w _ hS => (by exact usesY_c c[k].op w)) ?_
    refine gE ?_
    refine GoH.cond rfl (fun hc => ?_) (fun hc => ?_)
    ·
     rw [usY_X hc] at hc0; cases hc0
    ·
     rw [if_neg (by rw [hc]; simp)] at hdn
     have hm0 : mdO c[k].op = 0 := by
       have hop := (hno k hlt).op
       unfold mdO
       rw [if_neg]
       intro hh
       rw [show usX c[k].op = true from by simp only [usX, Bool.and_eq_true, decide_eq_true_eq]; omega] at hc0
       cases hc0
     have hop := (hno k hlt).op
     have h4 : c[k].op < 4 := by
       refine Classical.byContradiction (fun h => ?_)
       rw [show usX c[k].op = true from by simp only [usX, Bool.and_eq_true, decide_eq_true_eq]; omega] at hc0
       cases hc0
     have hz2 : (0 : Int) = (depT (treeAt c k) : Int) := by rw [hdn, hm0]; rfl
     refine gK (gS (gS (gR ?_)))
     iterate 2 refine gMv ?_
     refine GoH.v (Vop.idxS rfl rfl rfl rfl rfl Tryz.underlying26 Tryz.sizeOf54 (k) ⟨rfl, hlt⟩) ?_
     refine GoH.v (Vop.fldA (a := some ⟨bc, 0, none⟩) (o := (k) * 6) rfl rfl rfl rfl Tryz.underlying54 rfl Tryz.sizeOf3 ((k) * 6 + 0) rfl) ?_
     refine GoH.v (Vop.ld rfl rfl rfl rfl Tryz.isAgg3 (fun w _ hS => Sl.fld (enc := NV.cells) (sz := 6) (a := some ⟨bc, 0, none⟩) (Sl.blk (hS.get (j := 1) rfl)) (fun _ => rfl) hlt rfl)) ?_
     refine GoH.v (Vop.bin rfl rfl rfl rfl (bGeV (v := false) (decide_eq_false (by omega))) rfl) ?_
     refine gMv ?_
     iterate 6 refine gNo ?_
     refine gPf ?_
     iterate 3 refine gMv ?_
     refine GoH.v (Vop.idxS rfl rfl rfl rfl rfl Tryz.underlying26 Tryz.sizeOf54 (k) ⟨rfl, hlt⟩) ?_
     refine GoH.v (Vop.fldA (a := some ⟨bc, 0, none⟩) (o := (k) * 6) rfl rfl rfl rfl Tryz.underlying54 rfl Tryz.sizeOf3 ((k) * 6 + 0) rfl) ?_
     refine GoH.v (Vop.ld rfl rfl rfl rfl Tryz.isAgg3 (fun w _ hS => Sl.fld (enc := NV.cells) (sz := 6) (a := some ⟨bc, 0, none⟩) (Sl.blk (hS.get (j := 1) rfl)) (fun _ => rfl) hlt rfl)) ?_
     refine GoH.v (Vop.bin rfl rfl rfl rfl (bGeV (v := false) (decide_eq_false (by omega))) rfl) ?_
     refine gPf ?_
     refine gE (GoH.condF rfl (gK (gR ?_)))
     iterate 2 refine gMv ?_
     refine GoH.bsN (c := [_]) rfl rfl rfl rfl Tryz.underlying36 Tryz.sizeOf3 Tryz.zeroValue3 rfl rfl (fun b71 => ?_)
     refine GoH.appE I64 (xs := depL c k) (sp := sp) (q := q) (news := [0]) (spn := []) rfl rfl rfl rfl rfl Tryz.underlying36 hi hz hsz rfl hq 1 rfl 0 rfl hcap rfl (by decide) (fun _ => rfl) (by unfold maxLen; rw [hdl]; omega) (by rw [hby, hdl]; omega) (fun b' sp' cap' hlen2 => ?_)
     rw [show depL c k ++ [(0 : Int)] = depL c (k + 1) from by rw [depL_succ, ← hz2]] at hlen2 ⊢
     refine gAs ?_
     refine gE (gIb (gR ?_))
     refine gMv ?_
     refine GoH.v (Vop.bin rfl rfl rfl rfl (bAdd (by omega)) rfl) ?_
     refine gAs ?_
     refine gE ?_
     exact IH (k + 1, some b', cap', sp') _ _ ⟨hlt, (fun e => by cases e), hlen2⟩ (by dsimp only; omega) ⟨rfl, rfl, rfl, trivial⟩ (.cons _ (List.Sublist.refl _))
  ·
   have hge : ¬ k < c.length := by simpa using hc
   obtain rfl : k = c.length := by omega
   have hdl : (depL c c.length).length = c.length := depL_len
   refine GoH.exit rfl (gS (gS (gR ?_)))
   refine gMv ?_
   refine gBl Tryz.underlying36 ?_
   refine gBi bEq ?_
   refine gE ?_
   refine GoH.cond rfl (fun hc => ?_) (fun hc => ?_)
   ·
    have h0 : chkF f ≠ 0 := fun h => by
      have := (chkF_zero.1 (CanF.compF h).chk).pos
      rw [← hcE] at this
      rw [hdl] at hc
      have : (c.length : Int) = 0 := eq_of_beq hc
      omega
    refine gS (gR ?_)
    refine gAs ?_
    refine gE ?_
    refine GoH.ret Tryz.f13 Tryz.func13 rfl (fun w' hS => ?_)
    exact ⟨hS.ext, by rw [depF, if_neg h0]; rfl⟩
   ·
    have h0 : chkF f = 0 := Classical.byContradiction (fun h => by
      rw [hdl, hcE, compF, if_pos h] at hc; cases hc)
    have hpos := (chkF_zero.1 (CanF.compF h0).chk).pos
    rw [← hcE] at hpos
    have hget : (depL c c.length).getD (c.length - 1) 0 = depF f := by
      rw [depL_get (by omega), ← topT_treeAt, depF, if_pos h0, hcE, topT_comp h0]
    obtain ⟨b, rfl⟩ : ∃ b, q = some b := by
      cases q with
      | none => have := (hq rfl).1; omega
      | some b => exact ⟨b, rfl⟩
    refine gK (gS (gR ?_))
    iterate 2 refine gMv ?_
    refine gBl Tryz.underlying36 ?_
    refine GoH.v (Vop.bin rfl rfl rfl rfl (bSub (by omega)) rfl) ?_
    refine GoH.v (Vop.idxS rfl rfl rfl rfl rfl Tryz.underlying36 Tryz.sizeOf3 (c.length - 1) ⟨(by rw [hdl]; omega), (by rw [hdl]; omega)⟩) ?_
    refine GoH.v (Vop.ldE I64 0 rfl rfl rfl rfl Tryz.isAgg3 0 rfl (by rw [hdl]; omega)) ?_
    refine gAs ?_
    refine gE ?_
    refine GoH.ret Tryz.f13 Tryz.func13 rfl (fun w' hS => ?_)
    exact ⟨hS.ext, by rw [← hget]; rfl⟩
end Go.Proofs.YthojdcaojjmoaaaGreatDoor
namespace Go.Proofs.YthojdcaojjmoaaaGreatDoor
open Go.RowKit Go.Proofs.Wit
/-! the examples of the laws on distinguishing formulas -/
theorem amodel_c (w : World) : Cn Tryz.prog 24 [] w (fun v w' => ∃ b17 b16 b15, v = (mvE b17 b16 b15 [2#64, 4#64, 4#64]).v ∧ NewH w w' [(some b17, ob Row.v 22 [⟨some ⟨b16, 0, none⟩, 3, [2#64, 4#64, 4#64]⟩] []), (some b16, ob U 33 [2#64, 4#64, 4#64] []), (some b15, ob U 33 exV [])]) := by
  refine Cn.of Tryz.func24 rfl rfl ?_
  refine gS (gR ?_)
  refine GoH.alc rfl rfl rfl (fun _ => Tryz.zeroValue25 _) (fun b0 => ?_)
  refine gE (gS (gR ?_))
  refine GoH.bsN (c := [_]) rfl rfl rfl rfl Tryz.underlying22 Tryz.sizeOf33 Tryz.zeroValue33 rfl rfl (fun b1 => ?_)
  refine GoH.bsN (c := [_, _, _]) rfl rfl rfl rfl Tryz.underlying22 Tryz.sizeOf33 Tryz.zeroValue33 rfl rfl (fun b2 => ?_)
  refine GoH.bsN (c := [_]) rfl rfl rfl rfl Tryz.underlying23 Tryz.sizeOf22 Tryz.zeroValue22 rfl rfl (fun b3 => ?_)
  refine GoH.v (Vop.bld rfl rfl rfl rfl (bld (c := [_, _, _]) Tryz.underlying25 (Szs.cons Tryz.sizeOf3 (Szs.cons Tryz.sizeOf22 (Szs.cons Tryz.sizeOf23 Szs.nil))) Tryz.zeroValue25 rfl)) ?_
  refine GoH.stB rfl rfl rfl rfl Tryz.sizeOf25 3 rfl rfl rfl rfl ?_
  refine gE ?_
  refine GoH.retH Tryz.f24 Tryz.func24 _ (resH.cell rfl Tryz.isAgg25 Tryz.sizeOf25 (j := 3) rfl rfl resH.nil) (fun w' hS => ?_)
  exact ⟨hS.ext, b3, b2, b1, rfl, (NewH.of hS).sub (.cons_cons _ (.cons_cons _ (.cons_cons _ (.cons _ .slnil))))⟩
set_option maxRecDepth 8000 in
theorem aawake11_c (w : World) (hT : Tab w) : Cn Tryz.prog 10 [] w (fun v _ => v = .bool true) := by
  refine Cn.of Tryz.func10 rfl rfl ?_
  refine gS (gR ?_)
  refine gAs ?_
  refine gE (gS (gR ?_))
  refine GoH.callM _ rfl rfl rfl rfl rfl (fun _ _ => Tryz.call24 _ _) (fun w _ hS => (by exact amodel_c w)) ?_
  rintro v w1 w2 Y' hS he ⟨b17, b16, b15, rfl, hnew⟩
  refine ⟨_, hS.gainL he hnew, ?_⟩
  refine GoH.alc rfl rfl rfl (fun _ => Tryz.zeroValue25 _) (fun b1 => ?_)
  refine GoH.stB rfl rfl rfl rfl Tryz.sizeOf25 0 rfl rfl rfl rfl ?_
  refine gE (gS (gR ?_))
  refine GoH.v (Vop.ldB rfl rfl rfl rfl Tryz.isAgg25 0 rfl Tryz.sizeOf25 rfl) ?_
  refine GoH.callP rfl rfl rfl rfl rfl (fun _ _ => Tryz.call25 _ _) (fun w _ hS => (by have := dDepth_c (mvE b17 b16 b15 [2#64, 4#64, 4#64]) 0 1 w (hT.ex hS.ext) (MV.In.at (mvE_in rfl (List.mem_of_getElem? (i := 1) rfl) (List.mem_of_getElem? (i := 2) rfl) (List.mem_of_getElem? (i := 3) rfl)) hS); rw [dp_ex 0 1 (k := some 1) (by decide) (by decide) ex_dst.2.1] at this; exact this)) ?_
  refine gMv ?_
  iterate 2 refine gEx ?_
  iterate 2 refine gAs ?_
  refine gE (gS (gR ?_))
  refine GoH.v (Vop.ldB rfl rfl rfl rfl Tryz.isAgg25 0 rfl Tryz.sizeOf25 rfl) ?_
  refine GoH.callM _ rfl rfl rfl rfl rfl (fun _ _ => Tryz.call14 _ _) (fun w _ hS => (by exact dFormula_c (mvE b17 b16 b15 [2#64, 4#64, 4#64]) 0 1 w (hT.ex hS.ext) (MV.In.at (mvE_in rfl (List.mem_of_getElem? (i := 1) rfl) (List.mem_of_getElem? (i := 2) rfl) (List.mem_of_getElem? (i := 3) rfl)) hS))) ?_
  rintro v w1 w2 Y' hS he ⟨sv, f1, e1, rfl, ho, hF⟩
  obtain ⟨q1, cap1, sp1, rfl, hq1, hcap1, hS'⟩ := gainN hS he ho
  obtain ⟨rfl, hl1, t1, hp1, hT1⟩ := form_get (n := 3) (k := 1) hF rfl (by decide) ex_valM (show (0 : Int) ≤ 0 ∧ (0 : Int) < 3 by decide) (show (0 : Int) ≤ 1 ∧ (1 : Int) < 3 by decide) ex_dst.2.1
  obtain ⟨hS1, hE1⟩ := holdS_of hp1 rfl
  have hb1 : semT 3 exV exM t1 &&& 3#64 = 1#64 := and3 hT1.yes hT1.no
  refine ⟨_, hS', ?_⟩
  refine gMv ?_
  iterate 2 refine gEx ?_
  iterate 2 refine gAs ?_
  refine gE (gS (gR ?_))
  refine GoH.v (Vop.ldB rfl rfl rfl rfl Tryz.isAgg25 1 rfl Tryz.sizeOf25 rfl) ?_
  refine gMv ?_
  refine GoH.callP rfl rfl rfl rfl rfl (fun _ _ => Tryz.call11 _ _) (fun w _ hS => (by have := pholds_c (mvE b17 b16 b15 [2#64, 4#64, 4#64]) 3 (q1.map (fun b => ⟨b, 0, none⟩)) cap1 f1 w (MV.In.at (mvE_in rfl (List.mem_of_getElem? (i := 2) rfl) (List.mem_of_getElem? (i := 3) rfl) (List.mem_of_getElem? (i := 4) rfl)) hS) rfl (faAt hS 0 rfl (fun e => (hq1 e).1)) (by unfold maxLen; omega); rw [hS1, hE1] at this; exact this)) ?_
  refine gMv ?_
  iterate 2 refine gEx ?_
  iterate 2 refine gAs ?_
  refine gE (gS (gR ?_))
  refine gMv ?_
  refine GoH.v (Vop.bin rfl rfl rfl rfl (bEqV (v := true) rfl) rfl) ?_
  iterate 2 refine gMv ?_
  refine GoH.v (Vop.bin rfl rfl rfl rfl (bEqV (v := true) rfl) rfl) ?_
  refine gPt ?_
  iterate 2 refine gMv ?_
  refine GoH.v (Vop.bin rfl rfl rfl rfl (bEqV (v := true) rfl) rfl) ?_
  refine gPt ?_
  iterate 2 refine gMv ?_
  refine GoH.v (Vop.bin rfl rfl rfl rfl (bEqV (v := true) rfl) rfl) ?_
  refine gPt ?_
  iterate 2 refine gMv ?_
  refine GoH.v (Vop.bin (b := U 3#64) rfl rfl rfl rfl bAnd rfl) ?_
  refine GoH.v (Vop.bin (b := U 1#64) rfl rfl rfl rfl (bEqUV (v := true) (by exact beq_iff_eq.2 hb1)) rfl) ?_
  refine gPt ?_
  refine gAs ?_
  refine gE ?_
  refine GoH.ret Tryz.f10 Tryz.func10 rfl (fun w' hS => ?_)
  exact ⟨hS.ext, rfl⟩
end Go.Proofs.YthojdcaojjmoaaaGreatDoor
namespace Go.Proofs.YthojdcaojjmoaaaGreatDoor
open Go.RowKit Go.Proofs.Wit
/-! few worlds, and the law DistinguishDivides -/
def FewP (m : MV) (x : Int) (b : Bool) : Prop := b = true → m.n ≤ x ∨ 64 < m.n
theorem few2_c (m : MV) (x : Int) (w : World) (hm : m.At w) : Cn Tryz.prog 5 [m.v, .int .i64 x] w (fun v _ => ∃ b, v = .bool b ∧ FewP m x b) := by
  have hlr := hm.lr
  unfold maxLen at hlr
  refine Cn.of Tryz.func5 rfl rfl ?_
  refine gS (gR ?_)
  refine GoH.bx rfl rfl rfl rfl (fun b2 => ?_)
  refine gAs ?_
  refine gE (gS (gS ?_))
  refine GoH.regionK (α := {b : Bool // b = false → m.n ≤ x ∨ 64 < m.n}) [] (fun b => [(2, .pointer (some ⟨b2, 0, none⟩)), (26, .bool b.1)]) (fun _ => [(some b2, .cells m.v.cells 25 (0, 0))]) (fun b => ?_) (fun K => ?_)
  · -- what comes behind the region
   refine gE ?_
   refine GoH.cond rfl (fun hc => ?_) (fun hc => ?_)
   ·
    refine gS (gR ?_)
    refine gAs ?_
    refine gE ?_
    refine GoH.ret Tryz.f5 Tryz.func5 rfl (fun w' hS => ?_)
    exact ⟨hS.ext, _, rfl, fun h => by cases h⟩
   ·
    have hfew := b.2 hc
    refine gK (gS (gS (gR ?_)))
    refine gAs ?_
    refine gE (gB ?_)
    refine GoH.loop (σ := Nat) (fun k => [(2, .pointer (some ⟨b2, 0, none⟩)), (5, .int .i64 k)]) (fun _ => [(some b2, .cells m.v.cells 25 (0, 0))])
      (fun k => k ≤ m.rows.length) (fun k => m.rows.length - k) 0 (Nat.zero_le _) ⟨rfl, rfl, trivial⟩ (List.Sublist.refl _) (fun k hI IH => ?_)
    refine gS (gS (gR ?_))
    refine gMv ?_
    refine gFp Tryz.underlying25 Tryz.sizeOf23 2 ?_
    refine gLo Tryz.isAgg23 0 ?_
    refine gBl Tryz.underlying23 ?_
    refine gBi bLt ?_
    refine gE ?_
    refine GoH.cond rfl (fun hc => ?_) (fun hc => ?_)
    ·
     have hlt : k < m.rows.length := by simpa using hc
     refine gK (gS (gB (gS (gR ?_))))
     refine gFp Tryz.underlying25 Tryz.sizeOf23 2 ?_
     refine gLo Tryz.isAgg23 0 ?_
     refine gMv ?_
     refine GoH.v (Vop.idx rfl rfl rfl rfl rfl Tryz.underlying23 Tryz.sizeOf22 ⟨_, hm.rel⟩ (by simp) (k) ⟨rfl, by simpa using hlt⟩) ?_
     refine GoH.v (Vop.ld rfl rfl rfl rfl Tryz.isAgg22 (fun w _ hS => (SlR.ex0 hm.rel hS.ext).at (k) hlt)) ?_
     refine gBl Tryz.underlying22 ?_
     refine gBi bGt ?_
     refine gE ?_
     refine GoH.cond rfl (fun hc => ?_) (fun hc => ?_)
     ·
      refine gS (gR ?_)
      refine gAs ?_
      refine gE ?_
      refine GoH.ret Tryz.f5 Tryz.func5 rfl (fun w' hS => ?_)
      exact ⟨hS.ext, _, rfl, fun h => by cases h⟩
     ·
      refine gK (gIb (gR ?_))
      refine gMv ?_
      refine GoH.v (Vop.bin rfl rfl rfl rfl (bAdd (by omega)) rfl) ?_
      refine gAs ?_
      refine gE ?_
      exact IH (k + 1) _ _ hlt (by omega) ⟨rfl, rfl, trivial⟩ (List.Sublist.refl _)
    ·
     refine GoH.exit rfl (gS (gR ?_))
     refine gAs ?_
     refine gE ?_
     refine GoH.ret Tryz.f5 Tryz.func5 rfl (fun w' hS => ?_)
     exact ⟨hS.ext, _, rfl, fun _ => hfew⟩
  · -- the region
   refine gR ?_
   refine gFp Tryz.underlying25 Tryz.sizeOf3 0 ?_
   refine gLo Tryz.isAgg3 0 ?_
   refine gMv ?_
   refine gBi bGt ?_
   refine gMv ?_
   refine GoH.cases (d := 10) rfl (fun hc => ?_) (fun hc => ?_)
   ·
    refine gFp Tryz.underlying25 Tryz.sizeOf3 0 ?_
    refine gLo Tryz.isAgg3 0 ?_
    refine gBi bLe ?_
    refine gPt ?_
    refine gMv ?_
    refine GoH.cases (d := 15) rfl (fun hc => ?_) (fun hc => ?_)
    ·
     iterate 4 refine gNo ?_
     refine gPt ?_
     refine gMv ?_
     iterate 4 refine gNo ?_
     refine gPt ?_
     exact K ⟨true, fun h => by cases h⟩ _ _ (by repeat (first | exact SubF.nil | refine SubF.cons rfl ?_)) (fun _ _ hS => hS)
    ·
     have h1 : 64 < m.n := by simpa using hc
     refine gFp Tryz.underlying25 Tryz.sizeOf22 1 ?_
     refine gLo Tryz.isAgg22 0 ?_
     refine gBl Tryz.underlying22 ?_
     refine gBi bGt ?_
     refine gPf ?_
     refine gMv ?_
     refine GoH.cases (d := 21) rfl (fun hc => ?_) (fun hc => ?_)
     ·
      iterate 4 refine gNo ?_
      refine gPt ?_
      exact K ⟨true, fun h => by cases h⟩ _ _ (by repeat (first | exact SubF.nil | refine SubF.cons rfl ?_)) (fun _ _ hS => hS)
     ·
      refine gFp Tryz.underlying25 Tryz.sizeOf23 2 ?_
      refine gLo Tryz.isAgg23 0 ?_
      refine gBl Tryz.underlying23 ?_
      refine gBi bGt ?_
      refine gPf ?_
      exact K ⟨_, fun _ => .inr h1⟩ _ _ (by repeat (first | exact SubF.nil | refine SubF.cons rfl ?_)) (fun _ _ hS => hS)
   ·
    have h1 : m.n ≤ x := by simpa using hc
    iterate 3 refine gNo ?_
    refine gPf ?_
    refine gMv ?_
    refine gFp Tryz.underlying25 Tryz.sizeOf22 1 ?_
    refine gLo Tryz.isAgg22 0 ?_
    refine gBl Tryz.underlying22 ?_
    refine gBi bGt ?_
    refine gPf ?_
    refine gMv ?_
    refine GoH.cases (d := 21) rfl (fun hc => ?_) (fun hc => ?_)
    ·
     iterate 4 refine gNo ?_
     refine gPt ?_
     exact K ⟨true, fun h => by cases h⟩ _ _ (by repeat (first | exact SubF.nil | refine SubF.cons rfl ?_)) (fun _ _ hS => hS)
    ·
     refine gFp Tryz.underlying25 Tryz.sizeOf23 2 ?_
     refine gLo Tryz.isAgg23 0 ?_
     refine gBl Tryz.underlying23 ?_
     refine gBi bGt ?_
     refine gPf ?_
     exact K ⟨_, fun _ => .inl h1⟩ _ _ (by repeat (first | exact SubF.nil | refine SubF.cons rfl ?_)) (fun _ _ hS => hS)
end Go.Proofs.YthojdcaojjmoaaaGreatDoor
