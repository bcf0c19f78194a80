/- Contracts of functions of the program: what each call returns and that nothing else of memory is turned, under the conditions that each theorem states. -/
import Derived.Test.YtcljmlnnfdaljaaDoorS40
import Derived.Test.YtcljmlnnfdaljaaDoorS41
namespace Go.Proofs.YtcljmlnnfdaljaaDoor
open Go.RowKit Go.Proofs.Wit
/-! the reference's modal depth -/
set_option maxRecDepth 8000 in
theorem rdepth05_c (a : Option Addr) (ca : Nat) (f : List NV) (w : World) (ha : FA w a f) (hl : f.length ≤ maxLen) : Cn Tryd.prog 16 [.slice a f.length ca] w (fun v _ => v = .int .i64 (depF f)) := by
  obtain ⟨i0, hi, hz, hsz, hby⟩ := info_parts infoI
  obtain ⟨c, hcE⟩ : ∃ c, c = compF f := ⟨_, rfl⟩
  have hcl : c.length ≤ 200 := by rw [hcE]; exact compF_le f
  have hno : NodesOk c := by rw [hcE]; exact compF_nodes f
  refine Cn.of Tryd.func16 rfl rfl ?_
  refine GoH.seq ?_
  refine GoH.region ?_
  refine GoH.v (Vop.asg rfl rfl rfl rfl) ?_
  refine GoH.regionEnd ?_
  refine GoH.seq ?_
  refine GoH.region ?_
  refine GoH.v (Vop.mv rfl rfl rfl rfl) ?_
  refine GoH.callM _ rfl rfl rfl rfl rfl (fun _ _ => Tryd.call17 _ _) (fun w _ hS => rcompact_c a ca f w (ha.ex0 hS.ext) hl) ?_
  rintro v w1 w2 Y' hS he ho
  rw [subF_top, ← hcE] at ho
  obtain ⟨qc, capc, spc, rfl, hqc, hcapc, hS'⟩ := gainN hS he ho
  refine ⟨_, hS', ?_⟩
  -- heap: qc
  refine GoH.v (Vop.asg rfl rfl rfl rfl) ?_
  refine GoH.regionEnd ?_
  refine GoH.seq ?_
  refine GoH.region ?_
  refine GoH.v (Vop.asg rfl rfl rfl rfl) ?_
  refine GoH.regionEnd ?_
  refine GoH.seq ?_
  refine GoH.seq ?_
  refine GoH.region ?_
  refine GoH.v (Vop.asg rfl rfl rfl rfl) ?_
  refine GoH.regionEnd ?_
  refine GoH.block ?_
  refine GoH.addNone (ob I64 3 [] []) ?_
  refine GoH.loop (σ := Nat × Option Nat × Nat × List Value) (fun z => [(3, osv qc c.length capc), (4, osv z.2.1 (depL c z.1).length z.2.2.1), (5, .int .i64 z.1)]) (fun z => [(z.2.1, ob I64 3 (depL c z.1) z.2.2.2), (qc, obN 43 c spc)])
    (fun z => z.1 ≤ c.length ∧ (z.2.1 = none → (depL c z.1).length = 0 ∧ z.2.2.1 = 0) ∧ ((depL c z.1).map I64 ++ z.2.2.2).length = z.2.2.1) (fun z => c.length - z.1) (0, none, 0, [])
    ⟨Nat.zero_le _, fun _ => ⟨rfl, rfl⟩, rfl⟩ ⟨rfl, rfl, rfl, trivial⟩ (List.Sublist.refl _) (fun z hI IH => ?_)
  obtain ⟨k, q, cap, sp⟩ := z
  obtain ⟨hk, hq, hcap⟩ := hI
  dsimp only at hk hq hcap IH ⊢
  -- heap: q qc
  refine GoH.seq ?_
  refine GoH.seq ?_
  refine GoH.region ?_
  refine GoH.v (Vop.mv rfl rfl rfl rfl) ?_
  refine GoH.v (Vop.mv rfl rfl rfl rfl) ?_
  refine GoH.v (Vop.blt rfl rfl rfl (blt_len_slice Tryd.underlying26) rfl) ?_
  refine GoH.v (Vop.bin rfl rfl rfl rfl bLt rfl) ?_
  refine GoH.regionEnd ?_
  refine GoH.cond rfl (fun hc => ?_) (fun hc => ?_)
  · -- yes
    have hlt : k < c.length := by simpa using hc
    have hord := hno.ord k hlt
    have hdl : (depL c k).length = k := depL_len
    have hdn := depT_node hno hlt
    have hda := depT_at hno hlt
    obtain ⟨bc, rfl⟩ : ∃ bc, qc = some bc := by
      cases qc with
      | none => have := (hqc rfl).1; omega
      | some b => exact ⟨b, rfl⟩
    refine GoH.skip ?_
    refine GoH.seq ?_
    refine GoH.block ?_
    refine GoH.seq ?_
    refine GoH.region ?_
    refine GoH.v (Vop.asg rfl rfl rfl rfl) ?_
    refine GoH.regionEnd ?_
    refine GoH.seq ?_
    refine GoH.seq ?_
    refine GoH.region ?_
    refine GoH.v (Vop.mv rfl rfl rfl rfl) ?_
    refine GoH.v (Vop.mv rfl rfl rfl rfl) ?_
    refine GoH.v (Vop.idxS rfl rfl rfl rfl rfl Tryd.underlying26 Tryd.sizeOf43 (k) ⟨rfl, hlt⟩) ?_
    refine GoH.v (Vop.fldA (a := some ⟨bc, 0, none⟩) (o := (k) * 6) rfl rfl rfl rfl Tryd.underlying43 rfl Tryd.sizeOf3 ((k) * 6 + 0) rfl) ?_
    refine GoH.v (Vop.ld rfl rfl rfl rfl Tryd.isAgg3 (fun w _ hS => Sl.fld (enc := NV.cells) (sz := 6) (a := some ⟨bc, 0, none⟩) (Sl.blk (hS.get (j := 1) rfl)) (fun _ => rfl) hlt rfl)) ?_
    refine GoH.callP rfl rfl rfl rfl rfl (fun _ _ => Tryd.call38 _ _) (fun w _ hS => (by exact usesX_c c[k].op w)) ?_
    refine GoH.regionEnd ?_
    refine GoH.cond rfl (fun hc => ?_) (fun hc => ?_)
    · -- yes
      have hx := hord.1 hc
      rw [if_pos hc] at hdn
      obtain ⟨b, rfl⟩ : ∃ b, q = some b := by
        cases q with
        | none => have := (hq rfl).1; omega
        | some b => exact ⟨b, rfl⟩
      have hgx : (depL c k).getD c[k].x.toNat 0 = depT (treeAt c c[k].x.toNat) := depL_get (by omega)
      refine GoH.region ?_
      refine GoH.v (Vop.mv rfl rfl rfl rfl) ?_
      refine GoH.v (Vop.mv rfl rfl rfl rfl) ?_
      refine GoH.v (Vop.mv rfl rfl rfl rfl) ?_
      refine GoH.v (Vop.idxS rfl rfl rfl rfl rfl Tryd.underlying26 Tryd.sizeOf43 (k) ⟨rfl, hlt⟩) ?_
      refine GoH.v (Vop.fldA (a := some ⟨bc, 0, none⟩) (o := (k) * 6) rfl rfl rfl rfl Tryd.underlying43 rfl Tryd.sizeOf3 ((k) * 6 + 4) rfl) ?_
      refine GoH.v (Vop.ld rfl rfl rfl rfl Tryd.isAgg3 (fun w _ hS => Sl.fld (enc := NV.cells) (sz := 6) (a := some ⟨bc, 0, none⟩) (Sl.blk (hS.get (j := 1) rfl)) (fun _ => rfl) hlt rfl)) ?_
      refine GoH.v (Vop.idxS rfl rfl rfl rfl rfl Tryd.underlying36 Tryd.sizeOf3 (c[k].x.toNat) ⟨(Int.toNat_of_nonneg hx.1).symm, (by rw [hdl]; omega)⟩) ?_
      refine GoH.v (Vop.ldE I64 0 rfl rfl rfl rfl Tryd.isAgg3 0 rfl (by rw [hdl]; omega)) ?_
      refine GoH.v (Vop.asg rfl rfl rfl rfl) ?_
      refine GoH.regionEnd ?_
      refine GoH.seq ?_
      refine GoH.seq ?_
      refine GoH.region ?_
      refine GoH.v (Vop.mv rfl rfl rfl rfl) ?_
      refine GoH.v (Vop.mv rfl rfl rfl rfl) ?_
      refine GoH.v (Vop.idxS rfl rfl rfl rfl rfl Tryd.underlying26 Tryd.sizeOf43 (k) ⟨rfl, hlt⟩) ?_
      refine GoH.v (Vop.fldA (a := some ⟨bc, 0, none⟩) (o := (k) * 6) rfl rfl rfl rfl Tryd.underlying43 rfl Tryd.sizeOf3 ((k) * 6 + 0) rfl) ?_
      refine GoH.v (Vop.ld rfl rfl rfl rfl Tryd.isAgg3 (fun w _ hS => Sl.fld (enc := NV.cells) (sz := 6) (a := some ⟨bc, 0, none⟩) (Sl.blk (hS.get (j := 1) rfl)) (fun _ => rfl) hlt rfl)) ?_
      refine GoH.callP rfl rfl rfl rfl rfl (fun _ _ => Tryd.call39 _ _) (fun w _ hS => (by exact usesY_c c[k].op w)) ?_
      refine GoH.regionEnd ?_
      refine GoH.cond rfl (fun hc => ?_) (fun hc => ?_)
      · -- yes
        rw [hgx]
        have hy := hord.2 hc
        rw [if_pos hc] at hdn
        have hgy : (depL c k).getD c[k].y.toNat 0 = depT (treeAt c c[k].y.toNat) := depL_get (by omega)
        refine GoH.region ?_
        refine GoH.v (Vop.mv rfl rfl rfl rfl) ?_
        refine GoH.v (Vop.mv rfl rfl rfl rfl) ?_
        refine GoH.v (Vop.mv rfl rfl rfl rfl) ?_
        refine GoH.v (Vop.mv rfl rfl rfl rfl) ?_
        refine GoH.v (Vop.idxS rfl rfl rfl rfl rfl Tryd.underlying26 Tryd.sizeOf43 (k) ⟨rfl, hlt⟩) ?_
        refine GoH.v (Vop.fldA (a := some ⟨bc, 0, none⟩) (o := (k) * 6) rfl rfl rfl rfl Tryd.underlying43 rfl Tryd.sizeOf3 ((k) * 6 + 5) rfl) ?_
        refine GoH.v (Vop.ld rfl rfl rfl rfl Tryd.isAgg3 (fun w _ hS => Sl.fld (enc := NV.cells) (sz := 6) (a := some ⟨bc, 0, none⟩) (Sl.blk (hS.get (j := 1) rfl)) (fun _ => rfl) hlt rfl)) ?_
        refine GoH.v (Vop.idxS rfl rfl rfl rfl rfl Tryd.underlying36 Tryd.sizeOf3 (c[k].y.toNat) ⟨(Int.toNat_of_nonneg hy.1).symm, (by rw [hdl]; omega)⟩) ?_
        refine GoH.v (Vop.ldE I64 0 rfl rfl rfl rfl Tryd.isAgg3 0 rfl (by rw [hdl]; omega)) ?_
        refine GoH.v (Vop.blt rfl rfl rfl (blt_max (c := ((max (depT (treeAt c c[k].x.toNat)) (depT (treeAt c c[k].y.toNat)) : Nat) : Int)) (by rw [hgy]; omega)) rfl) ?_
        refine GoH.v (Vop.asg rfl rfl rfl rfl) ?_
        refine GoH.regionEnd ?_
        refine GoH.seq ?_
        refine GoH.seq ?_
        refine GoH.region ?_
        refine GoH.v (Vop.mv rfl rfl rfl rfl) ?_
        refine GoH.v (Vop.mv rfl rfl rfl rfl) ?_
        refine GoH.v (Vop.idxS rfl rfl rfl rfl rfl Tryd.underlying26 Tryd.sizeOf43 (k) ⟨rfl, hlt⟩) ?_
        refine GoH.v (Vop.fldA (a := some ⟨bc, 0, none⟩) (o := (k) * 6) rfl rfl rfl rfl Tryd.underlying43 rfl Tryd.sizeOf3 ((k) * 6 + 0) rfl) ?_
        refine GoH.v (Vop.ld rfl rfl rfl rfl Tryd.isAgg3 (fun w _ hS => Sl.fld (enc := NV.cells) (sz := 6) (a := some ⟨bc, 0, none⟩) (Sl.blk (hS.get (j := 1) rfl)) (fun _ => rfl) hlt rfl)) ?_
        refine GoH.v (Vop.bin rfl rfl rfl rfl bGe rfl) ?_
        refine GoH.v (Vop.mv rfl rfl rfl rfl) ?_
        -- guard on slot 51 (ref.go:176)
        refine GoH.cases (d := 51) rfl (fun hc => ?_) (fun hc => ?_)
        · -- yes
          have h9 : 9 ≤ c[k].op := by simpa using hc
          refine GoH.v (Vop.mv rfl rfl rfl rfl) ?_
          refine GoH.v (Vop.mv rfl rfl rfl rfl) ?_
          refine GoH.v (Vop.idxS rfl rfl rfl rfl rfl Tryd.underlying26 Tryd.sizeOf43 (k) ⟨rfl, hlt⟩) ?_
          refine GoH.v (Vop.fldA (a := some ⟨bc, 0, none⟩) (o := (k) * 6) rfl rfl rfl rfl Tryd.underlying43 rfl Tryd.sizeOf3 ((k) * 6 + 0) rfl) ?_
          refine GoH.v (Vop.ld rfl rfl rfl rfl Tryd.isAgg3 (fun w _ hS => Sl.fld (enc := NV.cells) (sz := 6) (a := some ⟨bc, 0, none⟩) (Sl.blk (hS.get (j := 1) rfl)) (fun _ => rfl) hlt rfl)) ?_
          refine GoH.v (Vop.bin rfl rfl rfl rfl bLe rfl) ?_
          refine GoH.v (Vop.pickT rfl rfl rfl rfl rfl) ?_
          refine GoH.v (Vop.mv rfl rfl rfl rfl) ?_
          -- guard on slot 59 (ref.go:176)
          refine GoH.cases (d := 59) rfl (fun hc => ?_) (fun hc => ?_)
          · -- yes
            have h15 : c[k].op ≤ 15 := by simpa using hc
            have h1 : mdO c[k].op = 1 := if_pos (by omega)
            refine GoH.no rfl rfl rfl rfl ?_
            refine GoH.no rfl rfl rfl rfl ?_
            refine GoH.no rfl rfl rfl rfl ?_
            refine GoH.no rfl rfl rfl rfl ?_
            refine GoH.no rfl rfl rfl rfl ?_
            refine GoH.no rfl rfl rfl rfl ?_
            refine GoH.v (Vop.pickT rfl rfl rfl rfl rfl) ?_
            refine GoH.regionEnd ?_
            refine GoH.condT rfl ?_
            refine GoH.region ?_
            refine GoH.v (Vop.mv rfl rfl rfl rfl) ?_
            refine GoH.v (Vop.bin rfl rfl rfl rfl (bAddE (c := (depT (treeAt c k) : Int)) (by rw [hdn, h1]; rfl) (by omega)) rfl) ?_
            refine GoH.v (Vop.asg rfl rfl rfl rfl) ?_
            refine GoH.regionEnd ?_
            refine GoH.region ?_
            refine GoH.v (Vop.mv rfl rfl rfl rfl) ?_
            refine GoH.v (Vop.mv rfl rfl rfl rfl) ?_
            refine GoH.bsN (c := [_]) rfl rfl rfl rfl Tryd.underlying36 Tryd.sizeOf3 Tryd.zeroValue3 rfl rfl (fun b71 => ?_)
            refine GoH.appE I64 (xs := depL c k) (sp := sp) (q := some b) (news := [(depT (treeAt c k) : Int)]) (spn := []) rfl rfl rfl rfl rfl Tryd.underlying36 hi hz hsz rfl hq 1 rfl 0 rfl hcap rfl (by decide) (fun _ => rfl) (by unfold maxLen; rw [hdl]; omega) (by rw [hby, hdl]; omega) (fun b' sp' cap' hlen2 => ?_)
            rw [← depL_succ] at hlen2 ⊢
            -- heap: b71 b' q
            refine GoH.v (Vop.asg rfl rfl rfl rfl) ?_
            refine GoH.regionEnd ?_
            refine GoH.inBlock ?_
            refine GoH.region ?_
            refine GoH.v (Vop.mv rfl rfl rfl rfl) ?_
            refine GoH.v (Vop.bin rfl rfl rfl rfl (bAdd (by omega)) rfl) ?_
            refine GoH.v (Vop.asg rfl rfl rfl rfl) ?_
            refine GoH.regionEnd ?_
            exact IH (k + 1, some b', cap', sp') _ _ ⟨hlt, (fun e => by cases e), hlen2⟩ (by dsimp only; omega) ⟨rfl, rfl, rfl, trivial⟩ (.cons _ (List.Sublist.refl _))
          · -- no
            have h15 : ¬ c[k].op ≤ 15 := by simpa using hc
            refine GoH.v (Vop.mv rfl rfl rfl rfl) ?_
            refine GoH.v (Vop.mv rfl rfl rfl rfl) ?_
            refine GoH.v (Vop.idxS rfl rfl rfl rfl rfl Tryd.underlying26 Tryd.sizeOf43 (k) ⟨rfl, hlt⟩) ?_
            refine GoH.v (Vop.fldA (a := some ⟨bc, 0, none⟩) (o := (k) * 6) rfl rfl rfl rfl Tryd.underlying43 rfl Tryd.sizeOf3 ((k) * 6 + 0) rfl) ?_
            refine GoH.v (Vop.ld rfl rfl rfl rfl Tryd.isAgg3 (fun w _ hS => Sl.fld (enc := NV.cells) (sz := 6) (a := some ⟨bc, 0, none⟩) (Sl.blk (hS.get (j := 1) rfl)) (fun _ => rfl) hlt rfl)) ?_
            refine GoH.v (Vop.bin rfl rfl rfl rfl bGe rfl) ?_
            refine GoH.v (Vop.pickF rfl rfl rfl rfl rfl) ?_
            refine GoH.regionEnd ?_
            refine GoH.cond rfl (fun hc => ?_) (fun hc => ?_)
            · -- yes
              have h18 : 18 ≤ c[k].op := by simpa using hc
              have h1 : mdO c[k].op = 1 := if_pos (by omega)
              refine GoH.region ?_
              refine GoH.v (Vop.mv rfl rfl rfl rfl) ?_
              refine GoH.v (Vop.bin rfl rfl rfl rfl (bAddE (c := (depT (treeAt c k) : Int)) (by rw [hdn, h1]; rfl) (by omega)) rfl) ?_
              refine GoH.v (Vop.asg rfl rfl rfl rfl) ?_
              refine GoH.regionEnd ?_
              refine GoH.region ?_
              refine GoH.v (Vop.mv rfl rfl rfl rfl) ?_
              refine GoH.v (Vop.mv rfl rfl rfl rfl) ?_
              refine GoH.bsN (c := [_]) rfl rfl rfl rfl Tryd.underlying36 Tryd.sizeOf3 Tryd.zeroValue3 rfl rfl (fun b71 => ?_)
              refine GoH.appE I64 (xs := depL c k) (sp := sp) (q := some b) (news := [(depT (treeAt c k) : Int)]) (spn := []) rfl rfl rfl rfl rfl Tryd.underlying36 hi hz hsz rfl hq 1 rfl 0 rfl hcap rfl (by decide) (fun _ => rfl) (by unfold maxLen; rw [hdl]; omega) (by rw [hby, hdl]; omega) (fun b' sp' cap' hlen2 => ?_)
              rw [← depL_succ] at hlen2 ⊢
              -- heap: b71 b' q
              refine GoH.v (Vop.asg rfl rfl rfl rfl) ?_
              refine GoH.regionEnd ?_
              refine GoH.inBlock ?_
              refine GoH.region ?_
              refine GoH.v (Vop.mv rfl rfl rfl rfl) ?_
              refine GoH.v (Vop.bin rfl rfl rfl rfl (bAdd (by omega)) rfl) ?_
              refine GoH.v (Vop.asg rfl rfl rfl rfl) ?_
              refine GoH.regionEnd ?_
              exact IH (k + 1, some b', cap', sp') _ _ ⟨hlt, (fun e => by cases e), hlen2⟩ (by dsimp only; omega) ⟨rfl, rfl, rfl, trivial⟩ (.cons _ (List.Sublist.refl _))
            · -- no
              have h18 : ¬ 18 ≤ c[k].op := by simpa using hc
              have h1 : mdO c[k].op = 0 := if_neg (by omega)
              have hz2 : ((max (depT (treeAt c c[k].x.toNat)) (depT (treeAt c c[k].y.toNat)) : Nat) : Int) = (depT (treeAt c k) : Int) := by rw [hdn, h1, Nat.add_zero]
              rw [hz2]
              refine GoH.skip ?_
              refine GoH.region ?_
              refine GoH.v (Vop.mv rfl rfl rfl rfl) ?_
              refine GoH.v (Vop.mv rfl rfl rfl rfl) ?_
              refine GoH.bsN (c := [_]) rfl rfl rfl rfl Tryd.underlying36 Tryd.sizeOf3 Tryd.zeroValue3 rfl rfl (fun b71 => ?_)
              refine GoH.appE I64 (xs := depL c k) (sp := sp) (q := some b) (news := [(depT (treeAt c k) : Int)]) (spn := []) rfl rfl rfl rfl rfl Tryd.underlying36 hi hz hsz rfl hq 1 rfl 0 rfl hcap rfl (by decide) (fun _ => rfl) (by unfold maxLen; rw [hdl]; omega) (by rw [hby, hdl]; omega) (fun b' sp' cap' hlen2 => ?_)
              rw [← depL_succ] at hlen2 ⊢
              -- heap: b71 b' q
              refine GoH.v (Vop.asg rfl rfl rfl rfl) ?_
              refine GoH.regionEnd ?_
              refine GoH.inBlock ?_
              refine GoH.region ?_
              refine GoH.v (Vop.mv rfl rfl rfl rfl) ?_
              refine GoH.v (Vop.bin rfl rfl rfl rfl (bAdd (by omega)) rfl) ?_
              refine GoH.v (Vop.asg rfl rfl rfl rfl) ?_
              refine GoH.regionEnd ?_
              exact IH (k + 1, some b', cap', sp') _ _ ⟨hlt, (fun e => by cases e), hlen2⟩ (by dsimp only; omega) ⟨rfl, rfl, rfl, trivial⟩ (.cons _ (List.Sublist.refl _))
        · -- no
          have h9 : ¬ 9 ≤ c[k].op := by simpa using hc
          refine GoH.no rfl rfl rfl rfl ?_
          refine GoH.no rfl rfl rfl rfl ?_
          refine GoH.no rfl rfl rfl rfl ?_
          refine GoH.no rfl rfl rfl rfl ?_
          refine GoH.no rfl rfl rfl rfl ?_
          refine GoH.no rfl rfl rfl rfl ?_
          refine GoH.v (Vop.pickF rfl rfl rfl rfl rfl) ?_
          refine GoH.v (Vop.mv rfl rfl rfl rfl) ?_
          refine GoH.v (Vop.mv rfl rfl rfl rfl) ?_
          refine GoH.v (Vop.mv rfl rfl rfl rfl) ?_
          refine GoH.v (Vop.idxS rfl rfl rfl rfl rfl Tryd.underlying26 Tryd.sizeOf43 (k) ⟨rfl, hlt⟩) ?_
          refine GoH.v (Vop.fldA (a := some ⟨bc, 0, none⟩) (o := (k) * 6) rfl rfl rfl rfl Tryd.underlying43 rfl Tryd.sizeOf3 ((k) * 6 + 0) rfl) ?_
          refine GoH.v (Vop.ld rfl rfl rfl rfl Tryd.isAgg3 (fun w _ hS => Sl.fld (enc := NV.cells) (sz := 6) (a := some ⟨bc, 0, none⟩) (Sl.blk (hS.get (j := 1) rfl)) (fun _ => rfl) hlt rfl)) ?_
          refine GoH.v (Vop.bin rfl rfl rfl rfl bGe rfl) ?_
          refine GoH.v (Vop.pickF rfl rfl rfl rfl rfl) ?_
          refine GoH.regionEnd ?_
          refine GoH.cond rfl (fun hc => ?_) (fun hc => ?_)
          · -- yes
            have h18 : 18 ≤ c[k].op := by simpa using hc
            have h1 : mdO c[k].op = 1 := if_pos (by omega)
            refine GoH.region ?_
            refine GoH.v (Vop.mv rfl rfl rfl rfl) ?_
            refine GoH.v (Vop.bin rfl rfl rfl rfl (bAddE (c := (depT (treeAt c k) : Int)) (by rw [hdn, h1]; rfl) (by omega)) rfl) ?_
            refine GoH.v (Vop.asg rfl rfl rfl rfl) ?_
            refine GoH.regionEnd ?_
            refine GoH.region ?_
            refine GoH.v (Vop.mv rfl rfl rfl rfl) ?_
            refine GoH.v (Vop.mv rfl rfl rfl rfl) ?_
            refine GoH.bsN (c := [_]) rfl rfl rfl rfl Tryd.underlying36 Tryd.sizeOf3 Tryd.zeroValue3 rfl rfl (fun b71 => ?_)
            refine GoH.appE I64 (xs := depL c k) (sp := sp) (q := some b) (news := [(depT (treeAt c k) : Int)]) (spn := []) rfl rfl rfl rfl rfl Tryd.underlying36 hi hz hsz rfl hq 1 rfl 0 rfl hcap rfl (by decide) (fun _ => rfl) (by unfold maxLen; rw [hdl]; omega) (by rw [hby, hdl]; omega) (fun b' sp' cap' hlen2 => ?_)
            rw [← depL_succ] at hlen2 ⊢
            -- heap: b71 b' q
            refine GoH.v (Vop.asg rfl rfl rfl rfl) ?_
            refine GoH.regionEnd ?_
            refine GoH.inBlock ?_
            refine GoH.region ?_
            refine GoH.v (Vop.mv rfl rfl rfl rfl) ?_
            refine GoH.v (Vop.bin rfl rfl rfl rfl (bAdd (by omega)) rfl) ?_
            refine GoH.v (Vop.asg rfl rfl rfl rfl) ?_
            refine GoH.regionEnd ?_
            exact IH (k + 1, some b', cap', sp') _ _ ⟨hlt, (fun e => by cases e), hlen2⟩ (by dsimp only; omega) ⟨rfl, rfl, rfl, trivial⟩ (.cons _ (List.Sublist.refl _))
          · -- no
            have h18 : ¬ 18 ≤ c[k].op := by simpa using hc
            have h1 : mdO c[k].op = 0 := if_neg (by omega)
            have hz2 : ((max (depT (treeAt c c[k].x.toNat)) (depT (treeAt c c[k].y.toNat)) : Nat) : Int) = (depT (treeAt c k) : Int) := by rw [hdn, h1, Nat.add_zero]
            rw [hz2]
            refine GoH.skip ?_
            refine GoH.region ?_
            refine GoH.v (Vop.mv rfl rfl rfl rfl) ?_
            refine GoH.v (Vop.mv rfl rfl rfl rfl) ?_
            refine GoH.bsN (c := [_]) rfl rfl rfl rfl Tryd.underlying36 Tryd.sizeOf3 Tryd.zeroValue3 rfl rfl (fun b71 => ?_)
            refine GoH.appE I64 (xs := depL c k) (sp := sp) (q := some b) (news := [(depT (treeAt c k) : Int)]) (spn := []) rfl rfl rfl rfl rfl Tryd.underlying36 hi hz hsz rfl hq 1 rfl 0 rfl hcap rfl (by decide) (fun _ => rfl) (by unfold maxLen; rw [hdl]; omega) (by rw [hby, hdl]; omega) (fun b' sp' cap' hlen2 => ?_)
            rw [← depL_succ] at hlen2 ⊢
            -- heap: b71 b' q
            refine GoH.v (Vop.asg rfl rfl rfl rfl) ?_
            refine GoH.regionEnd ?_
            refine GoH.inBlock ?_
            refine GoH.region ?_
            refine GoH.v (Vop.mv rfl rfl rfl rfl) ?_
            refine GoH.v (Vop.bin rfl rfl rfl rfl (bAdd (by omega)) rfl) ?_
            refine GoH.v (Vop.asg rfl rfl rfl rfl) ?_
            refine GoH.regionEnd ?_
            exact IH (k + 1, some b', cap', sp') _ _ ⟨hlt, (fun e => by cases e), hlen2⟩ (by dsimp only; omega) ⟨rfl, rfl, rfl, trivial⟩ (.cons _ (List.Sublist.refl _))
      · -- no
        rw [hgx]
        rw [if_neg (by rw [hc]; simp), Nat.max_zero] at hdn
        refine GoH.skip ?_
        refine GoH.seq ?_
        refine GoH.seq ?_
        refine GoH.region ?_
        refine GoH.v (Vop.mv rfl rfl rfl rfl) ?_
        refine GoH.v (Vop.mv rfl rfl rfl rfl) ?_
        refine GoH.v (Vop.idxS rfl rfl rfl rfl rfl Tryd.underlying26 Tryd.sizeOf43 (k) ⟨rfl, hlt⟩) ?_
        refine GoH.v (Vop.fldA (a := some ⟨bc, 0, none⟩) (o := (k) * 6) rfl rfl rfl rfl Tryd.underlying43 rfl Tryd.sizeOf3 ((k) * 6 + 0) rfl) ?_
        refine GoH.v (Vop.ld rfl rfl rfl rfl Tryd.isAgg3 (fun w _ hS => Sl.fld (enc := NV.cells) (sz := 6) (a := some ⟨bc, 0, none⟩) (Sl.blk (hS.get (j := 1) rfl)) (fun _ => rfl) hlt rfl)) ?_
        refine GoH.v (Vop.bin rfl rfl rfl rfl bGe rfl) ?_
        refine GoH.v (Vop.mv rfl rfl rfl rfl) ?_
        -- guard on slot 51 (ref.go:176)
        refine GoH.cases (d := 51) rfl (fun hc => ?_) (fun hc => ?_)
        · -- yes
          have h9 : 9 ≤ c[k].op := by simpa using hc
          refine GoH.v (Vop.mv rfl rfl rfl rfl) ?_
          refine GoH.v (Vop.mv rfl rfl rfl rfl) ?_
          refine GoH.v (Vop.idxS rfl rfl rfl rfl rfl Tryd.underlying26 Tryd.sizeOf43 (k) ⟨rfl, hlt⟩) ?_
          refine GoH.v (Vop.fldA (a := some ⟨bc, 0, none⟩) (o := (k) * 6) rfl rfl rfl rfl Tryd.underlying43 rfl Tryd.sizeOf3 ((k) * 6 + 0) rfl) ?_
          refine GoH.v (Vop.ld rfl rfl rfl rfl Tryd.isAgg3 (fun w _ hS => Sl.fld (enc := NV.cells) (sz := 6) (a := some ⟨bc, 0, none⟩) (Sl.blk (hS.get (j := 1) rfl)) (fun _ => rfl) hlt rfl)) ?_
          refine GoH.v (Vop.bin rfl rfl rfl rfl bLe rfl) ?_
          refine GoH.v (Vop.pickT rfl rfl rfl rfl rfl) ?_
          refine GoH.v (Vop.mv rfl rfl rfl rfl) ?_
          -- guard on slot 59 (ref.go:176)
          refine GoH.cases (d := 59) rfl (fun hc => ?_) (fun hc => ?_)
          · -- yes
            have h15 : c[k].op ≤ 15 := by simpa using hc
            have h1 : mdO c[k].op = 1 := if_pos (by omega)
            refine GoH.no rfl rfl rfl rfl ?_
            refine GoH.no rfl rfl rfl rfl ?_
            refine GoH.no rfl rfl rfl rfl ?_
            refine GoH.no rfl rfl rfl rfl ?_
            refine GoH.no rfl rfl rfl rfl ?_
            refine GoH.no rfl rfl rfl rfl ?_
            refine GoH.v (Vop.pickT rfl rfl rfl rfl rfl) ?_
            refine GoH.regionEnd ?_
            refine GoH.condT rfl ?_
            refine GoH.region ?_
            refine GoH.v (Vop.mv rfl rfl rfl rfl) ?_
            refine GoH.v (Vop.bin rfl rfl rfl rfl (bAddE (c := (depT (treeAt c k) : Int)) (by rw [hdn, h1]; rfl) (by omega)) rfl) ?_
            refine GoH.v (Vop.asg rfl rfl rfl rfl) ?_
            refine GoH.regionEnd ?_
            refine GoH.region ?_
            refine GoH.v (Vop.mv rfl rfl rfl rfl) ?_
            refine GoH.v (Vop.mv rfl rfl rfl rfl) ?_
            refine GoH.bsN (c := [_]) rfl rfl rfl rfl Tryd.underlying36 Tryd.sizeOf3 Tryd.zeroValue3 rfl rfl (fun b71 => ?_)
            refine GoH.appE I64 (xs := depL c k) (sp := sp) (q := some b) (news := [(depT (treeAt c k) : Int)]) (spn := []) rfl rfl rfl rfl rfl Tryd.underlying36 hi hz hsz rfl hq 1 rfl 0 rfl hcap rfl (by decide) (fun _ => rfl) (by unfold maxLen; rw [hdl]; omega) (by rw [hby, hdl]; omega) (fun b' sp' cap' hlen2 => ?_)
            rw [← depL_succ] at hlen2 ⊢
            -- heap: b71 b' q
            refine GoH.v (Vop.asg rfl rfl rfl rfl) ?_
            refine GoH.regionEnd ?_
            refine GoH.inBlock ?_
            refine GoH.region ?_
            refine GoH.v (Vop.mv rfl rfl rfl rfl) ?_
            refine GoH.v (Vop.bin rfl rfl rfl rfl (bAdd (by omega)) rfl) ?_
            refine GoH.v (Vop.asg rfl rfl rfl rfl) ?_
            refine GoH.regionEnd ?_
            exact IH (k + 1, some b', cap', sp') _ _ ⟨hlt, (fun e => by cases e), hlen2⟩ (by dsimp only; omega) ⟨rfl, rfl, rfl, trivial⟩ (.cons _ (List.Sublist.refl _))
          · -- no
            have h15 : ¬ c[k].op ≤ 15 := by simpa using hc
            refine GoH.v (Vop.mv rfl rfl rfl rfl) ?_
            refine GoH.v (Vop.mv rfl rfl rfl rfl) ?_
            refine GoH.v (Vop.idxS rfl rfl rfl rfl rfl Tryd.underlying26 Tryd.sizeOf43 (k) ⟨rfl, hlt⟩) ?_
            refine GoH.v (Vop.fldA (a := some ⟨bc, 0, none⟩) (o := (k) * 6) rfl rfl rfl rfl Tryd.underlying43 rfl Tryd.sizeOf3 ((k) * 6 + 0) rfl) ?_
            refine GoH.v (Vop.ld rfl rfl rfl rfl Tryd.isAgg3 (fun w _ hS => Sl.fld (enc := NV.cells) (sz := 6) (a := some ⟨bc, 0, none⟩) (Sl.blk (hS.get (j := 1) rfl)) (fun _ => rfl) hlt rfl)) ?_
            refine GoH.v (Vop.bin rfl rfl rfl rfl bGe rfl) ?_
            refine GoH.v (Vop.pickF rfl rfl rfl rfl rfl) ?_
            refine GoH.regionEnd ?_
            refine GoH.cond rfl (fun hc => ?_) (fun hc => ?_)
            · -- yes
              have h18 : 18 ≤ c[k].op := by simpa using hc
              have h1 : mdO c[k].op = 1 := if_pos (by omega)
              refine GoH.region ?_
              refine GoH.v (Vop.mv rfl rfl rfl rfl) ?_
              refine GoH.v (Vop.bin rfl rfl rfl rfl (bAddE (c := (depT (treeAt c k) : Int)) (by rw [hdn, h1]; rfl) (by omega)) rfl) ?_
              refine GoH.v (Vop.asg rfl rfl rfl rfl) ?_
              refine GoH.regionEnd ?_
              refine GoH.region ?_
              refine GoH.v (Vop.mv rfl rfl rfl rfl) ?_
              refine GoH.v (Vop.mv rfl rfl rfl rfl) ?_
              refine GoH.bsN (c := [_]) rfl rfl rfl rfl Tryd.underlying36 Tryd.sizeOf3 Tryd.zeroValue3 rfl rfl (fun b71 => ?_)
              refine GoH.appE I64 (xs := depL c k) (sp := sp) (q := some b) (news := [(depT (treeAt c k) : Int)]) (spn := []) rfl rfl rfl rfl rfl Tryd.underlying36 hi hz hsz rfl hq 1 rfl 0 rfl hcap rfl (by decide) (fun _ => rfl) (by unfold maxLen; rw [hdl]; omega) (by rw [hby, hdl]; omega) (fun b' sp' cap' hlen2 => ?_)
              rw [← depL_succ] at hlen2 ⊢
              -- heap: b71 b' q
              refine GoH.v (Vop.asg rfl rfl rfl rfl) ?_
              refine GoH.regionEnd ?_
              refine GoH.inBlock ?_
              refine GoH.region ?_
              refine GoH.v (Vop.mv rfl rfl rfl rfl) ?_
              refine GoH.v (Vop.bin rfl rfl rfl rfl (bAdd (by omega)) rfl) ?_
              refine GoH.v (Vop.asg rfl rfl rfl rfl) ?_
              refine GoH.regionEnd ?_
              exact IH (k + 1, some b', cap', sp') _ _ ⟨hlt, (fun e => by cases e), hlen2⟩ (by dsimp only; omega) ⟨rfl, rfl, rfl, trivial⟩ (.cons _ (List.Sublist.refl _))
            · -- no
              have h18 : ¬ 18 ≤ c[k].op := by simpa using hc
              have h1 : mdO c[k].op = 0 := if_neg (by omega)
              have hz2 : ((depT (treeAt c c[k].x.toNat) : Nat) : Int) = (depT (treeAt c k) : Int) := by rw [hdn, h1, Nat.add_zero]
              rw [hz2]
              refine GoH.skip ?_
              refine GoH.region ?_
              refine GoH.v (Vop.mv rfl rfl rfl rfl) ?_
              refine GoH.v (Vop.mv rfl rfl rfl rfl) ?_
              refine GoH.bsN (c := [_]) rfl rfl rfl rfl Tryd.underlying36 Tryd.sizeOf3 Tryd.zeroValue3 rfl rfl (fun b71 => ?_)
              refine GoH.appE I64 (xs := depL c k) (sp := sp) (q := some b) (news := [(depT (treeAt c k) : Int)]) (spn := []) rfl rfl rfl rfl rfl Tryd.underlying36 hi hz hsz rfl hq 1 rfl 0 rfl hcap rfl (by decide) (fun _ => rfl) (by unfold maxLen; rw [hdl]; omega) (by rw [hby, hdl]; omega) (fun b' sp' cap' hlen2 => ?_)
              rw [← depL_succ] at hlen2 ⊢
              -- heap: b71 b' q
              refine GoH.v (Vop.asg rfl rfl rfl rfl) ?_
              refine GoH.regionEnd ?_
              refine GoH.inBlock ?_
              refine GoH.region ?_
              refine GoH.v (Vop.mv rfl rfl rfl rfl) ?_
              refine GoH.v (Vop.bin rfl rfl rfl rfl (bAdd (by omega)) rfl) ?_
              refine GoH.v (Vop.asg rfl rfl rfl rfl) ?_
              refine GoH.regionEnd ?_
              exact IH (k + 1, some b', cap', sp') _ _ ⟨hlt, (fun e => by cases e), hlen2⟩ (by dsimp only; omega) ⟨rfl, rfl, rfl, trivial⟩ (.cons _ (List.Sublist.refl _))
        · -- no
          have h9 : ¬ 9 ≤ c[k].op := by simpa using hc
          refine GoH.no rfl rfl rfl rfl ?_
          refine GoH.no rfl rfl rfl rfl ?_
          refine GoH.no rfl rfl rfl rfl ?_
          refine GoH.no rfl rfl rfl rfl ?_
          refine GoH.no rfl rfl rfl rfl ?_
          refine GoH.no rfl rfl rfl rfl ?_
          refine GoH.v (Vop.pickF rfl rfl rfl rfl rfl) ?_
          refine GoH.v (Vop.mv rfl rfl rfl rfl) ?_
          refine GoH.v (Vop.mv rfl rfl rfl rfl) ?_
          refine GoH.v (Vop.mv rfl rfl rfl rfl) ?_
          refine GoH.v (Vop.idxS rfl rfl rfl rfl rfl Tryd.underlying26 Tryd.sizeOf43 (k) ⟨rfl, hlt⟩) ?_
          refine GoH.v (Vop.fldA (a := some ⟨bc, 0, none⟩) (o := (k) * 6) rfl rfl rfl rfl Tryd.underlying43 rfl Tryd.sizeOf3 ((k) * 6 + 0) rfl) ?_
          refine GoH.v (Vop.ld rfl rfl rfl rfl Tryd.isAgg3 (fun w _ hS => Sl.fld (enc := NV.cells) (sz := 6) (a := some ⟨bc, 0, none⟩) (Sl.blk (hS.get (j := 1) rfl)) (fun _ => rfl) hlt rfl)) ?_
          refine GoH.v (Vop.bin rfl rfl rfl rfl bGe rfl) ?_
          refine GoH.v (Vop.pickF rfl rfl rfl rfl rfl) ?_
          refine GoH.regionEnd ?_
          refine GoH.cond rfl (fun hc => ?_) (fun hc => ?_)
          · -- yes
            have h18 : 18 ≤ c[k].op := by simpa using hc
            have h1 : mdO c[k].op = 1 := if_pos (by omega)
            refine GoH.region ?_
            refine GoH.v (Vop.mv rfl rfl rfl rfl) ?_
            refine GoH.v (Vop.bin rfl rfl rfl rfl (bAddE (c := (depT (treeAt c k) : Int)) (by rw [hdn, h1]; rfl) (by omega)) rfl) ?_
            refine GoH.v (Vop.asg rfl rfl rfl rfl) ?_
            refine GoH.regionEnd ?_
            refine GoH.region ?_
            refine GoH.v (Vop.mv rfl rfl rfl rfl) ?_
            refine GoH.v (Vop.mv rfl rfl rfl rfl) ?_
            refine GoH.bsN (c := [_]) rfl rfl rfl rfl Tryd.underlying36 Tryd.sizeOf3 Tryd.zeroValue3 rfl rfl (fun b71 => ?_)
            refine GoH.appE I64 (xs := depL c k) (sp := sp) (q := some b) (news := [(depT (treeAt c k) : Int)]) (spn := []) rfl rfl rfl rfl rfl Tryd.underlying36 hi hz hsz rfl hq 1 rfl 0 rfl hcap rfl (by decide) (fun _ => rfl) (by unfold maxLen; rw [hdl]; omega) (by rw [hby, hdl]; omega) (fun b' sp' cap' hlen2 => ?_)
            rw [← depL_succ] at hlen2 ⊢
            -- heap: b71 b' q
            refine GoH.v (Vop.asg rfl rfl rfl rfl) ?_
            refine GoH.regionEnd ?_
            refine GoH.inBlock ?_
            refine GoH.region ?_
            refine GoH.v (Vop.mv rfl rfl rfl rfl) ?_
            refine GoH.v (Vop.bin rfl rfl rfl rfl (bAdd (by omega)) rfl) ?_
            refine GoH.v (Vop.asg rfl rfl rfl rfl) ?_
            refine GoH.regionEnd ?_
            exact IH (k + 1, some b', cap', sp') _ _ ⟨hlt, (fun e => by cases e), hlen2⟩ (by dsimp only; omega) ⟨rfl, rfl, rfl, trivial⟩ (.cons _ (List.Sublist.refl _))
          · -- no
            have h18 : ¬ 18 ≤ c[k].op := by simpa using hc
            have h1 : mdO c[k].op = 0 := if_neg (by omega)
            have hz2 : ((depT (treeAt c c[k].x.toNat) : Nat) : Int) = (depT (treeAt c k) : Int) := by rw [hdn, h1, Nat.add_zero]
            rw [hz2]
            refine GoH.skip ?_
            refine GoH.region ?_
            refine GoH.v (Vop.mv rfl rfl rfl rfl) ?_
            refine GoH.v (Vop.mv rfl rfl rfl rfl) ?_
            refine GoH.bsN (c := [_]) rfl rfl rfl rfl Tryd.underlying36 Tryd.sizeOf3 Tryd.zeroValue3 rfl rfl (fun b71 => ?_)
            refine GoH.appE I64 (xs := depL c k) (sp := sp) (q := some b) (news := [(depT (treeAt c k) : Int)]) (spn := []) rfl rfl rfl rfl rfl Tryd.underlying36 hi hz hsz rfl hq 1 rfl 0 rfl hcap rfl (by decide) (fun _ => rfl) (by unfold maxLen; rw [hdl]; omega) (by rw [hby, hdl]; omega) (fun b' sp' cap' hlen2 => ?_)
            rw [← depL_succ] at hlen2 ⊢
            -- heap: b71 b' q
            refine GoH.v (Vop.asg rfl rfl rfl rfl) ?_
            refine GoH.regionEnd ?_
            refine GoH.inBlock ?_
            refine GoH.region ?_
            refine GoH.v (Vop.mv rfl rfl rfl rfl) ?_
            refine GoH.v (Vop.bin rfl rfl rfl rfl (bAdd (by omega)) rfl) ?_
            refine GoH.v (Vop.asg rfl rfl rfl rfl) ?_
            refine GoH.regionEnd ?_
            exact IH (k + 1, some b', cap', sp') _ _ ⟨hlt, (fun e => by cases e), hlen2⟩ (by dsimp only; omega) ⟨rfl, rfl, rfl, trivial⟩ (.cons _ (List.Sublist.refl _))
    · -- no
      have hc0 := hc
      rw [if_neg (by rw [hc]; simp)] at hdn
      refine GoH.skip ?_
      refine GoH.seq ?_
      refine GoH.seq ?_
      refine GoH.region ?_
      refine GoH.v (Vop.mv rfl rfl rfl rfl) ?_
      refine GoH.v (Vop.mv rfl rfl rfl rfl) ?_
      refine GoH.v (Vop.idxS rfl rfl rfl rfl rfl Tryd.underlying26 Tryd.sizeOf43 (k) ⟨rfl, hlt⟩) ?_
      refine GoH.v (Vop.fldA (a := some ⟨bc, 0, none⟩) (o := (k) * 6) rfl rfl rfl rfl Tryd.underlying43 rfl Tryd.sizeOf3 ((k) * 6 + 0) rfl) ?_
      refine GoH.v (Vop.ld rfl rfl rfl rfl Tryd.isAgg3 (fun w _ hS => Sl.fld (enc := NV.cells) (sz := 6) (a := some ⟨bc, 0, none⟩) (Sl.blk (hS.get (j := 1) rfl)) (fun _ => rfl) hlt rfl)) ?_
      refine GoH.callP rfl rfl rfl rfl rfl (fun _ _ => Tryd.call39 _ _) (fun w _ hS => (by exact usesY_c c[k].op w)) ?_
      refine GoH.regionEnd ?_
      refine GoH.cond rfl (fun hc => ?_) (fun hc => ?_)
      · -- yes
        rw [usY_X hc] at hc0; cases hc0
      · -- no
        rw [if_neg (by rw [hc]; simp)] at hdn
        have hm0 : mdO c[k].op = 0 := by
          have hop := (hno k hlt).op
          unfold mdO
          rw [if_neg]
          intro hh
          rw [show usX c[k].op = true from by simp only [usX, Bool.and_eq_true, decide_eq_true_eq]; omega] at hc0
          cases hc0
        have hop := (hno k hlt).op
        have h4 : c[k].op < 4 := by
          refine Classical.byContradiction (fun h => ?_)
          rw [show usX c[k].op = true from by simp only [usX, Bool.and_eq_true, decide_eq_true_eq]; omega] at hc0
          cases hc0
        have hz2 : (0 : Int) = (depT (treeAt c k) : Int) := by rw [hdn, hm0]; rfl
        refine GoH.skip ?_
        refine GoH.seq ?_
        refine GoH.seq ?_
        refine GoH.region ?_
        refine GoH.v (Vop.mv rfl rfl rfl rfl) ?_
        refine GoH.v (Vop.mv rfl rfl rfl rfl) ?_
        refine GoH.v (Vop.idxS rfl rfl rfl rfl rfl Tryd.underlying26 Tryd.sizeOf43 (k) ⟨rfl, hlt⟩) ?_
        refine GoH.v (Vop.fldA (a := some ⟨bc, 0, none⟩) (o := (k) * 6) rfl rfl rfl rfl Tryd.underlying43 rfl Tryd.sizeOf3 ((k) * 6 + 0) rfl) ?_
        refine GoH.v (Vop.ld rfl rfl rfl rfl Tryd.isAgg3 (fun w _ hS => Sl.fld (enc := NV.cells) (sz := 6) (a := some ⟨bc, 0, none⟩) (Sl.blk (hS.get (j := 1) rfl)) (fun _ => rfl) hlt rfl)) ?_
        refine GoH.v (Vop.bin rfl rfl rfl rfl (bGeV (v := false) (decide_eq_false (by omega))) rfl) ?_
        refine GoH.v (Vop.mv rfl rfl rfl rfl) ?_
        refine GoH.no rfl rfl rfl rfl ?_
        refine GoH.no rfl rfl rfl rfl ?_
        refine GoH.no rfl rfl rfl rfl ?_
        refine GoH.no rfl rfl rfl rfl ?_
        refine GoH.no rfl rfl rfl rfl ?_
        refine GoH.no rfl rfl rfl rfl ?_
        refine GoH.v (Vop.pickF rfl rfl rfl rfl rfl) ?_
        refine GoH.v (Vop.mv rfl rfl rfl rfl) ?_
        refine GoH.v (Vop.mv rfl rfl rfl rfl) ?_
        refine GoH.v (Vop.mv rfl rfl rfl rfl) ?_
        refine GoH.v (Vop.idxS rfl rfl rfl rfl rfl Tryd.underlying26 Tryd.sizeOf43 (k) ⟨rfl, hlt⟩) ?_
        refine GoH.v (Vop.fldA (a := some ⟨bc, 0, none⟩) (o := (k) * 6) rfl rfl rfl rfl Tryd.underlying43 rfl Tryd.sizeOf3 ((k) * 6 + 0) rfl) ?_
        refine GoH.v (Vop.ld rfl rfl rfl rfl Tryd.isAgg3 (fun w _ hS => Sl.fld (enc := NV.cells) (sz := 6) (a := some ⟨bc, 0, none⟩) (Sl.blk (hS.get (j := 1) rfl)) (fun _ => rfl) hlt rfl)) ?_
        refine GoH.v (Vop.bin rfl rfl rfl rfl (bGeV (v := false) (decide_eq_false (by omega))) rfl) ?_
        refine GoH.v (Vop.pickF rfl rfl rfl rfl rfl) ?_
        refine GoH.regionEnd ?_
        refine GoH.condF rfl ?_
        refine GoH.skip ?_
        refine GoH.region ?_
        refine GoH.v (Vop.mv rfl rfl rfl rfl) ?_
        refine GoH.v (Vop.mv rfl rfl rfl rfl) ?_
        refine GoH.bsN (c := [_]) rfl rfl rfl rfl Tryd.underlying36 Tryd.sizeOf3 Tryd.zeroValue3 rfl rfl (fun b71 => ?_)
        refine GoH.appE I64 (xs := depL c k) (sp := sp) (q := q) (news := [0]) (spn := []) rfl rfl rfl rfl rfl Tryd.underlying36 hi hz hsz rfl hq 1 rfl 0 rfl hcap rfl (by decide) (fun _ => rfl) (by unfold maxLen; rw [hdl]; omega) (by rw [hby, hdl]; omega) (fun b' sp' cap' hlen2 => ?_)
        rw [show depL c k ++ [(0 : Int)] = depL c (k + 1) from by rw [depL_succ, ← hz2]] at hlen2 ⊢
        -- heap: b71 b' q
        refine GoH.v (Vop.asg rfl rfl rfl rfl) ?_
        refine GoH.regionEnd ?_
        refine GoH.inBlock ?_
        refine GoH.region ?_
        refine GoH.v (Vop.mv rfl rfl rfl rfl) ?_
        refine GoH.v (Vop.bin rfl rfl rfl rfl (bAdd (by omega)) rfl) ?_
        refine GoH.v (Vop.asg rfl rfl rfl rfl) ?_
        refine GoH.regionEnd ?_
        exact IH (k + 1, some b', cap', sp') _ _ ⟨hlt, (fun e => by cases e), hlen2⟩ (by dsimp only; omega) ⟨rfl, rfl, rfl, trivial⟩ (.cons _ (List.Sublist.refl _))
  · -- no
    have hge : ¬ k < c.length := by simpa using hc
    obtain rfl : k = c.length := by omega
    have hdl : (depL c c.length).length = c.length := depL_len
    refine GoH.exit rfl ?_
    refine GoH.seq ?_
    refine GoH.seq ?_
    refine GoH.region ?_
    refine GoH.v (Vop.mv rfl rfl rfl rfl) ?_
    refine GoH.v (Vop.blt rfl rfl rfl (blt_len_slice Tryd.underlying36) rfl) ?_
    refine GoH.v (Vop.bin rfl rfl rfl rfl bEq rfl) ?_
    refine GoH.regionEnd ?_
    refine GoH.cond rfl (fun hc => ?_) (fun hc => ?_)
    · -- yes
      have h0 : chkF f ≠ 0 := fun h => by
        have := (chkF_zero.1 (CanF.compF h).chk).pos
        rw [← hcE] at this
        rw [hdl] at hc
        have : (c.length : Int) = 0 := eq_of_beq hc
        omega
      refine GoH.seq ?_
      refine GoH.region ?_
      refine GoH.v (Vop.asg rfl rfl rfl rfl) ?_
      refine GoH.regionEnd ?_
      refine GoH.ret Tryd.f16 Tryd.func16 rfl (fun w' hS => ?_)
      exact ⟨hS.ext, by rw [depF, if_neg h0]; rfl⟩
    · -- no
      have h0 : chkF f = 0 := Classical.byContradiction (fun h => by
        rw [hdl, hcE, compF, if_pos h] at hc; cases hc)
      have hpos := (chkF_zero.1 (CanF.compF h0).chk).pos
      rw [← hcE] at hpos
      have hget : (depL c c.length).getD (c.length - 1) 0 = depF f := by
        rw [depL_get (by omega), ← topT_treeAt, depF, if_pos h0, hcE, topT_comp h0]
      obtain ⟨b, rfl⟩ : ∃ b, q = some b := by
        cases q with
        | none => have := (hq rfl).1; omega
        | some b => exact ⟨b, rfl⟩
      refine GoH.skip ?_
      refine GoH.seq ?_
      refine GoH.region ?_
      refine GoH.v (Vop.mv rfl rfl rfl rfl) ?_
      refine GoH.v (Vop.mv rfl rfl rfl rfl) ?_
      refine GoH.v (Vop.blt rfl rfl rfl (blt_len_slice Tryd.underlying36) rfl) ?_
      refine GoH.v (Vop.bin rfl rfl rfl rfl (bSub (by omega)) rfl) ?_
      refine GoH.v (Vop.idxS rfl rfl rfl rfl rfl Tryd.underlying36 Tryd.sizeOf3 (c.length - 1) ⟨(by rw [hdl]; omega), (by rw [hdl]; omega)⟩) ?_
      refine GoH.v (Vop.ldE I64 0 rfl rfl rfl rfl Tryd.isAgg3 0 rfl (by rw [hdl]; omega)) ?_
      refine GoH.v (Vop.asg rfl rfl rfl rfl) ?_
      refine GoH.regionEnd ?_
      refine GoH.ret Tryd.f16 Tryd.func16 rfl (fun w' hS => ?_)
      exact ⟨hS.ext, by rw [← hget]; rfl⟩
end Go.Proofs.YtcljmlnnfdaljaaDoor
