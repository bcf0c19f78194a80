/- Contracts of functions of the program: what each call returns and that nothing else of memory is turned, under the conditions that each theorem states. -/
import Derived.Test.YtcljmlnnfdaljaaDoorS40
import Derived.Test.YtcljmlnnfdaljaaDoorS41
import Derived.Test.YtcljmlnnfdaljaaDoorS24
import Derived.Test.YtcljmlnnfdaljaaDoorS27
import Derived.Test.YtcljmlnnfdaljaaDoorS28
namespace Go.Proofs.YtcljmlnnfdaljaaDoor
open Go.RowKit Go.Proofs.Wit
/-! the law BisimDist -/
set_option maxRecDepth 8000 in
theorem bisimDist_c (m : MV) (a : Option Addr) (ca : Nat) (f : List NV) (w : World) (hT : Tab w) (hm : m.At w) (ha : FA w a f) (hl : f.length ≤ maxLen) : Cn Tryd.prog 4 [m.v, .slice a f.length ca] w (fun v _ => v = .bool true) := by
  obtain ⟨i0, hi, hz, hsz, hby⟩ := info_parts infoI
  have hfl := frgL_lt (compF f)
  have hrl : m.rel.length = m.rows.length := by simp [MV.rel]
  refine Cn.of Tryd.func4 rfl rfl ?_
  refine GoH.seq ?_
  refine GoH.region ?_
  refine GoH.bx rfl rfl rfl rfl (fun b2 => ?_)
  refine GoH.v (Vop.asg rfl rfl rfl rfl) ?_
  refine GoH.regionEnd ?_
  refine GoH.seq ?_
  refine GoH.seq ?_
  refine GoH.region ?_
  refine GoH.v (Vop.ldB rfl rfl rfl rfl Tryd.isAgg25 0 rfl Tryd.sizeOf25 rfl) ?_
  refine GoH.callM _ rfl rfl rfl rfl rfl (fun _ _ => Tryd.call7 _ _) (fun w _ hS => few_c m 10 w (hm.ex0 hS.ext)) ?_
  rintro v w1 w2 Y' hS he ⟨y1, rfl⟩
  refine ⟨_, hS.later he, ?_⟩
  refine GoH.v (Vop.un rfl rfl rfl uNot rfl) ?_
  refine GoH.v (Vop.mv rfl rfl rfl rfl) ?_
  -- guard on slot 17 (law.go:129)
  refine GoH.cases (d := 17) rfl (fun hc => ?_) (fun hc => ?_)
  · -- yes
    refine GoH.no rfl rfl rfl rfl ?_
    refine GoH.no rfl rfl rfl rfl ?_
    refine GoH.no rfl rfl rfl rfl ?_
    refine GoH.v (Vop.pickT rfl rfl rfl rfl rfl) ?_
    refine GoH.v (Vop.mv rfl rfl rfl rfl) ?_
    refine GoH.no rfl rfl rfl rfl ?_
    refine GoH.no rfl rfl rfl rfl ?_
    refine GoH.no rfl rfl rfl rfl ?_
    refine GoH.v (Vop.pickT rfl rfl rfl rfl rfl) ?_
    refine GoH.v (Vop.mv rfl rfl rfl rfl) ?_
    refine GoH.no rfl rfl rfl rfl ?_
    refine GoH.no rfl rfl rfl rfl ?_
    refine GoH.no rfl rfl rfl rfl ?_
    refine GoH.no rfl rfl rfl rfl ?_
    refine GoH.no rfl rfl rfl rfl ?_
    refine GoH.no rfl rfl rfl rfl ?_
    refine GoH.no rfl rfl rfl rfl ?_
    refine GoH.no rfl rfl rfl rfl ?_
    refine GoH.no rfl rfl rfl rfl ?_
    refine GoH.v (Vop.pickT rfl rfl rfl rfl rfl) ?_
    refine GoH.v (Vop.mv rfl rfl rfl rfl) ?_
    refine GoH.no rfl rfl rfl rfl ?_
    refine GoH.no rfl rfl rfl rfl ?_
    refine GoH.no rfl rfl rfl rfl ?_
    refine GoH.no rfl rfl rfl rfl ?_
    refine GoH.v (Vop.pickT rfl rfl rfl rfl rfl) ?_
    refine GoH.regionEnd ?_
    refine GoH.condT rfl ?_
    refine GoH.seq ?_
    refine GoH.region ?_
    refine GoH.callP rfl rfl rfl rfl rfl (fun _ _ => Tryd.call12 _ _) (fun w _ hS => awake19_c w (hT.ex hS.ext)) ?_
    refine GoH.v (Vop.asg rfl rfl rfl rfl) ?_
    refine GoH.regionEnd ?_
    refine GoH.ret Tryd.f4 Tryd.func4 rfl (fun w' hS => ?_)
    exact ⟨hS.ext, rfl⟩
  · -- no
    refine GoH.v (Vop.ldB rfl rfl rfl rfl Tryd.isAgg25 0 rfl Tryd.sizeOf25 rfl) ?_
    refine GoH.callP rfl rfl rfl rfl rfl (fun _ _ => Tryd.call8 _ _) (fun w _ hS => (by exact rmCheck_c m w (hm.ex0 hS.ext))) ?_
    refine GoH.v (Vop.bin rfl rfl rfl rfl bNe rfl) ?_
    refine GoH.v (Vop.pickF rfl rfl rfl rfl rfl) ?_
    refine GoH.v (Vop.mv rfl rfl rfl rfl) ?_
    -- guard on slot 22 (law.go:129)
    refine GoH.cases (d := 22) rfl (fun hc => ?_) (fun hc => ?_)
    · -- yes
      refine GoH.no rfl rfl rfl rfl ?_
      refine GoH.no rfl rfl rfl rfl ?_
      refine GoH.no rfl rfl rfl rfl ?_
      refine GoH.v (Vop.pickT rfl rfl rfl rfl rfl) ?_
      refine GoH.v (Vop.mv rfl rfl rfl rfl) ?_
      refine GoH.no rfl rfl rfl rfl ?_
      refine GoH.no rfl rfl rfl rfl ?_
      refine GoH.no rfl rfl rfl rfl ?_
      refine GoH.no rfl rfl rfl rfl ?_
      refine GoH.no rfl rfl rfl rfl ?_
      refine GoH.no rfl rfl rfl rfl ?_
      refine GoH.no rfl rfl rfl rfl ?_
      refine GoH.no rfl rfl rfl rfl ?_
      refine GoH.no rfl rfl rfl rfl ?_
      refine GoH.v (Vop.pickT rfl rfl rfl rfl rfl) ?_
      refine GoH.v (Vop.mv rfl rfl rfl rfl) ?_
      refine GoH.no rfl rfl rfl rfl ?_
      refine GoH.no rfl rfl rfl rfl ?_
      refine GoH.no rfl rfl rfl rfl ?_
      refine GoH.no rfl rfl rfl rfl ?_
      refine GoH.v (Vop.pickT rfl rfl rfl rfl rfl) ?_
      refine GoH.regionEnd ?_
      refine GoH.condT rfl ?_
      refine GoH.seq ?_
      refine GoH.region ?_
      refine GoH.callP rfl rfl rfl rfl rfl (fun _ _ => Tryd.call12 _ _) (fun w _ hS => awake19_c w (hT.ex hS.ext)) ?_
      refine GoH.v (Vop.asg rfl rfl rfl rfl) ?_
      refine GoH.regionEnd ?_
      refine GoH.ret Tryd.f4 Tryd.func4 rfl (fun w' hS => ?_)
      exact ⟨hS.ext, rfl⟩
    · -- no
      have h1 : checkM m.n m.val m.rel = 0 := by simpa using hc
      have hv := checkM_zero.1 h1
      refine GoH.v (Vop.mv rfl rfl rfl rfl) ?_
      refine GoH.callP rfl rfl rfl rfl rfl (fun _ _ => Tryd.call9 _ _) (fun w _ hS => (by exact rfew_c a ca f 20 w)) ?_
      refine GoH.v (Vop.un rfl rfl rfl uNot rfl) ?_
      refine GoH.v (Vop.pickF rfl rfl rfl rfl rfl) ?_
      refine GoH.v (Vop.mv rfl rfl rfl rfl) ?_
      -- guard on slot 27 (law.go:129)
      refine GoH.cases (d := 27) rfl (fun hc => ?_) (fun hc => ?_)
      · -- yes
        refine GoH.no rfl rfl rfl rfl ?_
        refine GoH.no rfl rfl rfl rfl ?_
        refine GoH.no rfl rfl rfl rfl ?_
        refine GoH.no rfl rfl rfl rfl ?_
        refine GoH.no rfl rfl rfl rfl ?_
        refine GoH.no rfl rfl rfl rfl ?_
        refine GoH.no rfl rfl rfl rfl ?_
        refine GoH.no rfl rfl rfl rfl ?_
        refine GoH.no rfl rfl rfl rfl ?_
        refine GoH.v (Vop.pickT rfl rfl rfl rfl rfl) ?_
        refine GoH.v (Vop.mv rfl rfl rfl rfl) ?_
        refine GoH.no rfl rfl rfl rfl ?_
        refine GoH.no rfl rfl rfl rfl ?_
        refine GoH.no rfl rfl rfl rfl ?_
        refine GoH.no rfl rfl rfl rfl ?_
        refine GoH.v (Vop.pickT rfl rfl rfl rfl rfl) ?_
        refine GoH.regionEnd ?_
        refine GoH.condT rfl ?_
        refine GoH.seq ?_
        refine GoH.region ?_
        refine GoH.callP rfl rfl rfl rfl rfl (fun _ _ => Tryd.call12 _ _) (fun w _ hS => awake19_c w (hT.ex hS.ext)) ?_
        refine GoH.v (Vop.asg rfl rfl rfl rfl) ?_
        refine GoH.regionEnd ?_
        refine GoH.ret Tryd.f4 Tryd.func4 rfl (fun w' hS => ?_)
        exact ⟨hS.ext, rfl⟩
      · -- no
        refine GoH.v (Vop.mv rfl rfl rfl rfl) ?_
        refine GoH.v (Vop.fldP rfl rfl rfl rfl Tryd.underlying25 rfl (by exact Tryd.sizeOf23) 2 rfl) ?_
        refine GoH.v (Vop.ldo (v := .slice m.ra m.rows.length m.rc) rfl rfl rfl rfl Tryd.isAgg23 0 rfl rfl) ?_
        refine GoH.v (Vop.blt rfl rfl rfl (blt_len_slice Tryd.underlying23) rfl) ?_
        refine GoH.v (Vop.fldP rfl rfl rfl rfl Tryd.underlying25 rfl (by exact Tryd.sizeOf22) 1 rfl) ?_
        refine GoH.v (Vop.ldo (v := .slice m.va m.val.length m.vc) rfl rfl rfl rfl Tryd.isAgg22 0 rfl rfl) ?_
        refine GoH.v (Vop.blt rfl rfl rfl (blt_len_slice Tryd.underlying22) rfl) ?_
        refine GoH.callP rfl rfl rfl rfl rfl (fun _ _ => Tryd.call10 _ _) (fun w _ hS => (by exact rfitsF_c a ca f m.rows.length m.val.length w (ha.ex0 hS.ext) hl)) ?_
        refine GoH.v (Vop.un rfl rfl rfl uNot rfl) ?_
        refine GoH.v (Vop.pickF rfl rfl rfl rfl rfl) ?_
        refine GoH.v (Vop.mv rfl rfl rfl rfl) ?_
        -- guard on slot 38 (law.go:129)
        refine GoH.cases (d := 38) rfl (fun hc => ?_) (fun hc => ?_)
        · -- yes
          refine GoH.no rfl rfl rfl rfl ?_
          refine GoH.no rfl rfl rfl rfl ?_
          refine GoH.no rfl rfl rfl rfl ?_
          refine GoH.no rfl rfl rfl rfl ?_
          refine GoH.v (Vop.pickT rfl rfl rfl rfl rfl) ?_
          refine GoH.regionEnd ?_
          refine GoH.condT rfl ?_
          refine GoH.seq ?_
          refine GoH.region ?_
          refine GoH.callP rfl rfl rfl rfl rfl (fun _ _ => Tryd.call12 _ _) (fun w _ hS => awake19_c w (hT.ex hS.ext)) ?_
          refine GoH.v (Vop.asg rfl rfl rfl rfl) ?_
          refine GoH.regionEnd ?_
          refine GoH.ret Tryd.f4 Tryd.func4 rfl (fun w' hS => ?_)
          exact ⟨hS.ext, rfl⟩
        · -- no
          have hfit : fitB f m.rows.length m.val.length = true := by simpa using hc
          obtain ⟨hck, hfl2⟩ := fitB_iff.1 hfit
          have hok := (chkF_zero.1 hck).top
          refine GoH.v (Vop.mv rfl rfl rfl rfl) ?_
          refine GoH.callP rfl rfl rfl rfl rfl (fun _ _ => Tryd.call11 _ _) (fun w _ hS => (by exact rfrags_c a ca f w (ha.ex0 hS.ext) hl)) ?_
          refine GoH.v (Vop.bin rfl rfl rfl rfl (bAndNotI hfl (by omega : (15 : Nat) < 512)) rfl) ?_
          refine GoH.v (Vop.bin rfl rfl rfl rfl bNe rfl) ?_
          refine GoH.v (Vop.pickF rfl rfl rfl rfl rfl) ?_
          refine GoH.regionEnd ?_
          refine GoH.cond rfl (fun hc => ?_) (fun hc => ?_)
          · -- yes
            refine GoH.seq ?_
            refine GoH.region ?_
            refine GoH.callP rfl rfl rfl rfl rfl (fun _ _ => Tryd.call12 _ _) (fun w _ hS => awake19_c w (hT.ex hS.ext)) ?_
            refine GoH.v (Vop.asg rfl rfl rfl rfl) ?_
            refine GoH.regionEnd ?_
            refine GoH.ret Tryd.f4 Tryd.func4 rfl (fun w' hS => ?_)
            exact ⟨hS.ext, rfl⟩
          · -- no
            have h3 : andN (frgL (compF f)) 15 = 0 := by simpa using hc
            have hn1 := hv.n1
            have hn64 := hv.n64
            obtain ⟨n, hn⟩ : ∃ n : Nat, m.n = (n : Int) := ⟨m.n.toNat, by omega⟩
            have h3' := h3
            have hcT := compF_eq hck
            rw [hcT] at h3'
            have hst := allL_and ((frg_has hok frO_15).1 h3') hfl2
            have hst2 : allL (StatL m.rel.length m.val.length) (topT f) := by rw [hrl]; exact hst
            have hE : holdE m.n m.val m.rel f = 0 := holdE_zero.2 ⟨hv, hck, hst2⟩
            have hHS : holdS m n f = semT n m.val m.rel (topT f) := if_pos hE
            obtain ⟨c, hcE⟩ : ∃ c, c = compF f := ⟨_, rfl⟩
            have hcl : c.length ≤ 200 := by rw [hcE]; exact compF_le f
            refine GoH.skip ?_
            refine GoH.seq ?_
            refine GoH.region ?_
            refine GoH.v (Vop.asg rfl rfl rfl rfl) ?_
            refine GoH.regionEnd ?_
            refine GoH.seq ?_
            refine GoH.seq ?_
            refine GoH.region ?_
            refine GoH.v (Vop.mv rfl rfl rfl rfl) ?_
            refine GoH.callM _ rfl rfl rfl rfl rfl (fun _ _ => Tryd.call17 _ _) (fun w _ hS => rcompact_c a ca f w (ha.ex0 hS.ext) hl) ?_
            rintro v w1 w2 Y' hS he ho
            rw [subF_top, ← hcE] at ho
            obtain ⟨qc, capc, spc, rfl, hqc, hcapc, hS'⟩ := gainN hS he ho
            refine ⟨_, hS', ?_⟩
            -- heap: qc b2
            refine GoH.v (Vop.blt rfl rfl rfl (blt_len_slice Tryd.underlying26) rfl) ?_
            refine GoH.v (Vop.mv rfl rfl rfl rfl) ?_
            refine GoH.regionEnd ?_
            refine GoH.block ?_
            refine GoH.addNone (ob I64 3 [] []) ?_
            refine GoH.loop (σ := Nat × List Int × Option Nat × Nat × List Value) (fun z => [(1, .slice a f.length ca), (2, .pointer (some ⟨b2, 0, none⟩)), (5, osv z.2.2.1 z.2.1.length z.2.2.2.1), (46, osv qc c.length capc), (47, .int .i64 c.length), (48, .int .i64 z.1)]) (fun z => [(z.2.2.1, ob I64 3 z.2.1 z.2.2.2.2), (qc, obN 43 c spc), (some b2, .cells m.v.cells 25 (0, 0))])
              (fun z => z.1 ≤ c.length ∧ z.2.1.length ≤ z.1 ∧ Grps c z.1 z.2.1 ∧ (z.2.2.1 = none → z.2.1.length = 0 ∧ z.2.2.2.1 = 0) ∧ (z.2.1.map I64 ++ z.2.2.2.2).length = z.2.2.2.1) (fun z => c.length - z.1) (0, [], none, 0, [])
              ⟨Nat.zero_le _, Nat.le_refl _, .nil, fun _ => ⟨rfl, rfl⟩, rfl⟩ ⟨rfl, rfl, rfl, rfl, rfl, rfl, trivial⟩ (List.Sublist.refl _) (fun z hI IH => ?_)
            obtain ⟨k, gs, q, cap, sp⟩ := z
            obtain ⟨hk, hgl, hG, hq, hcap⟩ := hI
            dsimp only at hk hgl hG hq hcap IH ⊢
            -- heap: q qc b2
            -- ptr: 2=b2
            refine GoH.seq ?_
            refine GoH.region ?_
            refine GoH.v (Vop.bin rfl rfl rfl rfl bLt rfl) ?_
            refine GoH.regionEnd ?_
            refine GoH.seq ?_
            refine GoH.cond rfl (fun hc => ?_) (fun hc => ?_)
            · -- yes
              have hlt : k < c.length := by simpa using hc
              obtain ⟨bc, rfl⟩ : ∃ bc, qc = some bc := by
                cases qc with
                | none => have := (hqc rfl).1; omega
                | some b => exact ⟨b, rfl⟩
              refine GoH.skip ?_
              refine GoH.seq ?_
              refine GoH.block ?_
              refine GoH.seq ?_
              refine GoH.region ?_
              refine GoH.v (Vop.idxS rfl rfl rfl rfl rfl Tryd.underlying26 Tryd.sizeOf43 (k) ⟨rfl, hlt⟩) ?_
              refine GoH.v (Vop.ldN (cs := NV.cells c[k]) rfl rfl rfl rfl Tryd.isAgg43 Tryd.sizeOf43 (fun w _ hS => Sl.many (enc := NV.cells) (sz := 6) (a := some ⟨bc, 0, none⟩) (Sl.blk (hS.get (j := 1) rfl)) (fun _ => rfl) hlt)) ?_
              refine GoH.alc rfl rfl rfl (fun _ => Tryd.zeroValue43 _) (fun b7 => ?_)
              refine GoH.stB rfl rfl rfl rfl Tryd.sizeOf43 0 rfl rfl rfl rfl ?_
              refine GoH.regionEnd ?_
              refine GoH.seq ?_
              refine GoH.region ?_
              refine GoH.v (Vop.fldP rfl rfl rfl rfl Tryd.underlying43 rfl (by exact Tryd.sizeOf3) 0 rfl) ?_
              refine GoH.v (Vop.ldo rfl rfl rfl rfl Tryd.isAgg3 0 rfl rfl) ?_
              refine GoH.v (Vop.bin rfl rfl rfl rfl bEq rfl) ?_
              refine GoH.v (Vop.mv rfl rfl rfl rfl) ?_
              -- guard on slot 55 (law.go:134)
              refine GoH.cases (d := 55) rfl (fun hc => ?_) (fun hc => ?_)
              · -- yes
                have h12 : c[k].op = 12 := by simpa using hc
                refine GoH.v (Vop.mv rfl rfl rfl rfl) ?_
                refine GoH.v (Vop.fldP rfl rfl rfl rfl Tryd.underlying43 rfl (by exact Tryd.sizeOf3) 3 rfl) ?_
                refine GoH.v (Vop.ldo rfl rfl rfl rfl Tryd.isAgg3 0 rfl rfl) ?_
                refine GoH.callP rfl rfl rfl rfl rfl (fun _ _ => Tryd.call18 _ _) (fun w _ hS => (by exact containsI_c (q.map (fun b => ⟨b, 0, none⟩)) cap gs c[k].g w (sliAt hS 1 rfl (fun e => (hq e).1)) (by unfold maxLen; omega))) ?_
                refine GoH.v (Vop.un rfl rfl rfl uNot rfl) ?_
                refine GoH.v (Vop.pickT rfl rfl rfl rfl rfl) ?_
                refine GoH.regionEnd ?_
                refine GoH.cond rfl (fun hc => ?_) (fun hc => ?_)
                · -- yes
                  have hni : c[k].g ∉ gs := by simpa using hc
                  refine GoH.region ?_
                  refine GoH.v (Vop.mv rfl rfl rfl rfl) ?_
                  refine GoH.v (Vop.fldP rfl rfl rfl rfl Tryd.underlying43 rfl (by exact Tryd.sizeOf3) 3 rfl) ?_
                  refine GoH.v (Vop.ldo rfl rfl rfl rfl Tryd.isAgg3 0 rfl rfl) ?_
                  refine GoH.bsN (c := [_]) rfl rfl rfl rfl Tryd.underlying36 Tryd.sizeOf3 Tryd.zeroValue3 rfl rfl (fun b65 => ?_)
                  refine GoH.appE I64 (xs := gs) (sp := sp) (q := q) (news := [c[k].g]) (spn := []) rfl rfl rfl rfl rfl Tryd.underlying36 hi hz hsz rfl hq 2 rfl 0 rfl hcap rfl (by decide) (fun _ => rfl) (by unfold maxLen; omega) (by rw [hby]; omega) (fun b' sp' cap' hlen2 => ?_)
                  -- heap: b65 b7 b' qc b2
                  refine GoH.v (Vop.asg rfl rfl rfl rfl) ?_
                  refine GoH.regionEnd ?_
                  refine GoH.inBlock ?_
                  refine GoH.region ?_
                  refine GoH.v (Vop.bin rfl rfl rfl rfl (bAdd (by omega)) rfl) ?_
                  refine GoH.v (Vop.mv rfl rfl rfl rfl) ?_
                  refine GoH.regionEnd ?_
                  exact IH (k + 1, gs ++ [c[k].g], some b', cap', sp') _ _ ⟨hlt, by simp; omega, hG.add hlt h12 hni, (fun e => by cases e), hlen2⟩ (by dsimp only; omega) ⟨rfl, rfl, rfl, rfl, rfl, rfl, trivial⟩ (.cons _ (.cons _ (List.Sublist.refl _)))
                · -- no
                  have hin : c[k].g ∈ gs := by simpa using hc
                  refine GoH.skip ?_
                  refine GoH.inBlock ?_
                  refine GoH.region ?_
                  refine GoH.v (Vop.bin rfl rfl rfl rfl (bAdd (by omega)) rfl) ?_
                  refine GoH.v (Vop.mv rfl rfl rfl rfl) ?_
                  refine GoH.regionEnd ?_
                  exact IH (k + 1, gs, q, cap, sp) _ _ ⟨hlt, by dsimp only; omega, hG.skip hlt (fun _ => hin), hq, hcap⟩ (by dsimp only; omega) ⟨rfl, rfl, rfl, rfl, rfl, rfl, trivial⟩ (.cons _ (List.Sublist.refl _))
              · -- no
                have h12 : c[k].op ≠ 12 := by simpa using hc
                refine GoH.no rfl rfl rfl rfl ?_
                refine GoH.no rfl rfl rfl rfl ?_
                refine GoH.no rfl rfl rfl rfl ?_
                refine GoH.no rfl rfl rfl rfl ?_
                refine GoH.no rfl rfl rfl rfl ?_
                refine GoH.v (Vop.pickF rfl rfl rfl rfl rfl) ?_
                refine GoH.regionEnd ?_
                refine GoH.condF rfl ?_
                refine GoH.skip ?_
                refine GoH.inBlock ?_
                refine GoH.region ?_
                refine GoH.v (Vop.bin rfl rfl rfl rfl (bAdd (by omega)) rfl) ?_
                refine GoH.v (Vop.mv rfl rfl rfl rfl) ?_
                refine GoH.regionEnd ?_
                exact IH (k + 1, gs, q, cap, sp) _ _ ⟨hlt, by dsimp only; omega, hG.skip hlt (fun e => absurd e h12), hq, hcap⟩ (by dsimp only; omega) ⟨rfl, rfl, rfl, rfl, rfl, rfl, trivial⟩ (.cons _ (List.Sublist.refl _))
            · -- no
              have hge : ¬ k < c.length := by simpa using hc
              obtain rfl : k = c.length := by omega
              have hG2 : Grps (canT (topT f)) (canT (topT f)).length gs := by rw [← hcT, ← hcE]; exact hG
              obtain ⟨hgE, hA⟩ := agr_grp hv hn hok hst2 hG2
              have hPl := hA.len
              refine GoH.exit rfl ?_
              refine GoH.seq ?_
              refine GoH.region ?_
              refine GoH.v (Vop.ldB rfl rfl rfl rfl Tryd.isAgg25 2 rfl Tryd.sizeOf25 rfl) ?_
              refine GoH.v (Vop.mv rfl rfl rfl rfl) ?_
              refine GoH.callP rfl rfl rfl rfl rfl (fun _ _ => Tryd.call13 _ _) (fun w _ hS => (by have := wHolds_c m n a ca f w (hm.ex0 hS.ext) hn (ha.ex0 hS.ext) hl; rw [hHS, hE] at this; exact this)) ?_
              refine GoH.v (Vop.mv rfl rfl rfl rfl) ?_
              refine GoH.v (Vop.ext rfl rfl rfl rfl rfl) ?_
              refine GoH.v (Vop.ext rfl rfl rfl rfl rfl) ?_
              refine GoH.v (Vop.asg rfl rfl rfl rfl) ?_
              refine GoH.v (Vop.asg rfl rfl rfl rfl) ?_
              refine GoH.regionEnd ?_
              refine GoH.seq ?_
              refine GoH.region ?_
              refine GoH.v (Vop.ldB rfl rfl rfl rfl Tryd.isAgg25 2 rfl Tryd.sizeOf25 rfl) ?_
              refine GoH.v (Vop.mv rfl rfl rfl rfl) ?_
              refine GoH.callM _ rfl rfl rfl rfl rfl (fun _ _ => Tryd.call19 _ _) (fun w _ hS => (by exact withGroups_c m (q.map (fun b => ⟨b, 0, none⟩)) cap gs w (hT.ex hS.ext) (hm.ex0 hS.ext) (sliAt hS 0 rfl (fun e => (hq e).1)) (by unfold maxLen; omega))) ?_
              rintro v w1 w2 Y' hS he ⟨sv, rfl, ho⟩
              obtain ⟨q2, cap2, sp2, rfl, hq2, hcap2, hS'⟩ := gainS hS he ho
              refine ⟨_, hS', ?_⟩
              rw [hgE]
              -- heap: q2 q qc b2
              refine GoH.v (Vop.mv rfl rfl rfl rfl) ?_
              refine GoH.v (Vop.ext rfl rfl rfl rfl rfl) ?_
              refine GoH.v (Vop.ext rfl rfl rfl rfl rfl) ?_
              refine GoH.v (Vop.asg rfl rfl rfl rfl) ?_
              refine GoH.v (Vop.asg rfl rfl rfl rfl) ?_
              refine GoH.regionEnd ?_
              refine GoH.seq ?_
              refine GoH.seq ?_
              refine GoH.region ?_
              refine GoH.v (Vop.mv rfl rfl rfl rfl) ?_
              refine GoH.v (Vop.bin rfl rfl rfl rfl (bNeV (v := false) rfl) rfl) ?_
              refine GoH.v (Vop.mv rfl rfl rfl rfl) ?_
              refine GoH.v (Vop.mv rfl rfl rfl rfl) ?_
              refine GoH.v (Vop.bin rfl rfl rfl rfl (bNeV (v := false) rfl) rfl) ?_
              refine GoH.v (Vop.pickF rfl rfl rfl rfl rfl) ?_
              refine GoH.v (Vop.mv rfl rfl rfl rfl) ?_
              refine GoH.v (Vop.mv rfl rfl rfl rfl) ?_
              refine GoH.v (Vop.blt rfl rfl rfl (blt_len_slice Tryd.underlying36) rfl) ?_
              refine GoH.v (Vop.fldP rfl rfl rfl rfl Tryd.underlying25 rfl (by exact Tryd.sizeOf3) 0 rfl) ?_
              refine GoH.v (Vop.ldo (v := .int .i64 m.n) rfl rfl rfl rfl Tryd.isAgg3 3 rfl rfl) ?_
              refine GoH.v (Vop.bin rfl rfl rfl rfl (bNeV (v := false) (by rw [hPl, hn]; simp)) rfl) ?_
              refine GoH.v (Vop.pickF rfl rfl rfl rfl rfl) ?_
              refine GoH.regionEnd ?_
              refine GoH.condF rfl ?_
              refine GoH.skip ?_
              refine GoH.seq ?_
              refine GoH.seq ?_
              refine GoH.region ?_
              refine GoH.v (Vop.mv rfl rfl rfl rfl) ?_
              refine GoH.v (Vop.blt rfl rfl rfl (blt_len_slice Tryd.underlying36) rfl) ?_
              refine GoH.v (Vop.mv rfl rfl rfl rfl) ?_
              refine GoH.regionEnd ?_
              refine GoH.block ?_
              obtain ⟨P, hP⟩ : ∃ P, P = grpP m.n m.val m.rel gs := ⟨_, rfl⟩
              rw [← hP] at hA hPl hq2 hcap2 ⊢
              refine GoH.loop (σ := Nat) (fun k => [(2, .pointer (some ⟨b2, 0, none⟩)), (8, U (semT n m.val m.rel (topT f))), (93, osv q2 P.length cap2), (94, .int .i64 P.length), (95, .int .i64 k)]) (fun _ => [(q2, ob I64 3 P sp2), (some b2, .cells m.v.cells 25 (0, 0))]) (fun k => k ≤ P.length) (fun k => P.length - k) 0 (Nat.zero_le _) ⟨rfl, rfl, rfl, rfl, rfl, trivial⟩ (.cons_cons _ (.cons _ (.cons _ (List.Sublist.refl _)))) (fun k hk IH => ?_)
              -- heap: q2 b2
              -- ptr: 2=b2
              refine GoH.seq ?_
              refine GoH.region ?_
              refine GoH.v (Vop.bin rfl rfl rfl rfl bLt rfl) ?_
              refine GoH.regionEnd ?_
              refine GoH.seq ?_
              refine GoH.cond rfl (fun hc => ?_) (fun hc => ?_)
              · -- yes
                have hlt : k < P.length := by simpa using hc
                obtain ⟨h0, hk2, hbit⟩ := hA.at (by omega : k < n)
                obtain ⟨b, rfl⟩ : ∃ b, q2 = some b := by
                  cases q2 with
                  | none => have := (hq2 rfl).1; omega
                  | some b => exact ⟨b, rfl⟩
                refine GoH.skip ?_
                refine GoH.seq ?_
                refine GoH.block ?_
                refine GoH.seq ?_
                refine GoH.region ?_
                refine GoH.v (Vop.mv rfl rfl rfl rfl) ?_
                refine GoH.v (Vop.idxS rfl rfl rfl rfl rfl Tryd.underlying36 Tryd.sizeOf3 (k) ⟨rfl, hlt⟩) ?_
                refine GoH.v (Vop.ldE I64 0 rfl rfl rfl rfl Tryd.isAgg3 0 rfl hlt) ?_
                refine GoH.v (Vop.asg rfl rfl rfl rfl) ?_
                refine GoH.v (Vop.asg rfl rfl rfl rfl) ?_
                refine GoH.regionEnd ?_
                refine GoH.seq ?_
                refine GoH.draw 18 mixed rfl ?_
                refine RdGo.v (Vop.mv rfl rfl rfl rfl) ?_
                refine RdGo.v (Vop.bin rfl rfl rfl rfl (bLtV (v := false) (decide_eq_false (by omega))) rfl) ?_
                refine RdGo.v (Vop.mv rfl rfl rfl rfl) ?_
                refine RdGo.v (Vop.mv rfl rfl rfl rfl) ?_
                refine RdGo.v (Vop.mv rfl rfl rfl rfl) ?_
                refine RdGo.v (Vop.bin rfl rfl rfl rfl (bGtV (v := false) (decide_eq_false (by omega))) rfl) ?_
                refine RdGo.v (Vop.pickF rfl rfl rfl rfl rfl) ?_
                refine RdGo.v (Vop.mv rfl rfl rfl rfl) ?_
                refine RdGo.v (Vop.mv rfl rfl rfl rfl) ?_
                refine RdGo.v (Vop.mv rfl rfl rfl rfl) ?_
                refine RdGo.v (Vop.bin rfl rfl rfl rfl (bShr k rfl) rfl) ?_
                refine RdGo.v (Vop.bin (b := U 1#64) rfl rfl rfl rfl bAnd rfl) ?_
                refine RdGo.v (Vop.mv rfl rfl rfl rfl) ?_
                refine RdGo.v (Vop.mv rfl rfl rfl rfl) ?_
                refine RdGo.v (Vop.bin rfl rfl rfl rfl (bShr (P.getD k 0).toNat (Int.toNat_of_nonneg h0).symm) rfl) ?_
                refine RdGo.v (Vop.bin (b := U 1#64) rfl rfl rfl rfl bAnd rfl) ?_
                refine RdGo.v (Vop.bin rfl rfl rfl rfl (bNeUV (v := false) (by rw [hbit]; simp)) rfl) ?_
                refine RdGo.v (Vop.pickF rfl rfl rfl rfl rfl) ?_
                refine RdGo.nil ?_
                refine GoH.regionEnd ?_
                refine GoH.condF rfl ?_
                refine GoH.skip ?_
                refine GoH.inBlock ?_
                refine GoH.region ?_
                refine GoH.v (Vop.bin rfl rfl rfl rfl (bAdd (by omega)) rfl) ?_
                refine GoH.v (Vop.mv rfl rfl rfl rfl) ?_
                refine GoH.regionEnd ?_
                exact IH (k + 1) _ _ hlt (by omega) ⟨rfl, rfl, rfl, rfl, rfl, trivial⟩ (List.Sublist.refl _)
              · -- no
                refine GoH.exit rfl ?_
                refine GoH.seq ?_
                refine GoH.region ?_
                refine GoH.callP rfl rfl rfl rfl rfl (fun _ _ => Tryd.call12 _ _) (fun w _ hS => awake19_c w (hT.ex hS.ext)) ?_
                refine GoH.v (Vop.asg rfl rfl rfl rfl) ?_
                refine GoH.regionEnd ?_
                refine GoH.ret Tryd.f4 Tryd.func4 rfl (fun w' hS => ?_)
                exact ⟨hS.ext, rfl⟩
end Go.Proofs.YtcljmlnnfdaljaaDoor
