/- Contracts of functions of the program: what each call returns and that nothing else of memory is turned, under the conditions that each theorem states. -/
import Derived.Test.YtcljmlnnfdaljaaDoorS42
import Derived.Test.YtcljmlnnfdaljaaDoorS24
import Derived.Test.YtcljmlnnfdaljaaDoorS27
namespace Go.Proofs.YtcljmlnnfdaljaaDoor
open Go.RowKit Go.Proofs.Wit
/-! the law BisimSatisfies -/
set_option maxRecDepth 8000 in
theorem bisimSat_c (m : MV) (a : Option Addr) (ca : Nat) (f : List NV) (w : World) (hT : Tab w) (hm : m.At w) (ha : FA w a f) (hl : f.length ≤ maxLen) : Cn Tryd.prog 3 [m.v, .slice a f.length ca] w (fun v _ => v = .bool true) := by
  have hfl := frgL_lt (compF f)
  have hrl : m.rel.length = m.rows.length := by simp [MV.rel]
  refine Cn.of Tryd.func3 rfl rfl ?_
  refine GoH.seq ?_
  refine GoH.region ?_
  refine GoH.bx rfl rfl rfl rfl (fun b2 => ?_)
  refine GoH.v (Vop.asg rfl rfl rfl rfl) ?_
  refine GoH.regionEnd ?_
  refine GoH.seq ?_
  refine GoH.seq ?_
  refine GoH.region ?_
  refine GoH.v (Vop.ldB rfl rfl rfl rfl Tryd.isAgg25 0 rfl Tryd.sizeOf25 rfl) ?_
  refine GoH.callM _ rfl rfl rfl rfl rfl (fun _ _ => Tryd.call7 _ _) (fun w _ hS => few_c m 12 w (hm.ex0 hS.ext)) ?_
  rintro v w1 w2 Y' hS he ⟨y1, rfl⟩
  refine ⟨_, hS.later he, ?_⟩
  refine GoH.v (Vop.un rfl rfl rfl uNot rfl) ?_
  refine GoH.v (Vop.mv rfl rfl rfl rfl) ?_
  -- guard on slot 14 (law.go:108)
  refine GoH.cases (d := 14) rfl (fun hc => ?_) (fun hc => ?_)
  · -- yes
    refine GoH.no rfl rfl rfl rfl ?_
    refine GoH.no rfl rfl rfl rfl ?_
    refine GoH.no rfl rfl rfl rfl ?_
    refine GoH.v (Vop.pickT rfl rfl rfl rfl rfl) ?_
    refine GoH.v (Vop.mv rfl rfl rfl rfl) ?_
    refine GoH.no rfl rfl rfl rfl ?_
    refine GoH.no rfl rfl rfl rfl ?_
    refine GoH.no rfl rfl rfl rfl ?_
    refine GoH.v (Vop.pickT rfl rfl rfl rfl rfl) ?_
    refine GoH.v (Vop.mv rfl rfl rfl rfl) ?_
    refine GoH.no rfl rfl rfl rfl ?_
    refine GoH.no rfl rfl rfl rfl ?_
    refine GoH.no rfl rfl rfl rfl ?_
    refine GoH.no rfl rfl rfl rfl ?_
    refine GoH.no rfl rfl rfl rfl ?_
    refine GoH.no rfl rfl rfl rfl ?_
    refine GoH.no rfl rfl rfl rfl ?_
    refine GoH.no rfl rfl rfl rfl ?_
    refine GoH.no rfl rfl rfl rfl ?_
    refine GoH.v (Vop.pickT rfl rfl rfl rfl rfl) ?_
    refine GoH.v (Vop.mv rfl rfl rfl rfl) ?_
    refine GoH.no rfl rfl rfl rfl ?_
    refine GoH.no rfl rfl rfl rfl ?_
    refine GoH.no rfl rfl rfl rfl ?_
    refine GoH.no rfl rfl rfl rfl ?_
    refine GoH.v (Vop.pickT rfl rfl rfl rfl rfl) ?_
    refine GoH.v (Vop.mv rfl rfl rfl rfl) ?_
    refine GoH.no rfl rfl rfl rfl ?_
    refine GoH.no rfl rfl rfl rfl ?_
    refine GoH.no rfl rfl rfl rfl ?_
    refine GoH.no rfl rfl rfl rfl ?_
    refine GoH.v (Vop.pickT rfl rfl rfl rfl rfl) ?_
    refine GoH.regionEnd ?_
    refine GoH.condT rfl ?_
    refine GoH.seq ?_
    refine GoH.region ?_
    refine GoH.callP rfl rfl rfl rfl rfl (fun _ _ => Tryd.call12 _ _) (fun w _ hS => awake19_c w (hT.ex hS.ext)) ?_
    refine GoH.v (Vop.asg rfl rfl rfl rfl) ?_
    refine GoH.regionEnd ?_
    refine GoH.ret Tryd.f3 Tryd.func3 rfl (fun w' hS => ?_)
    exact ⟨hS.ext, rfl⟩
  · -- no
    refine GoH.v (Vop.ldB rfl rfl rfl rfl Tryd.isAgg25 0 rfl Tryd.sizeOf25 rfl) ?_
    refine GoH.callP rfl rfl rfl rfl rfl (fun _ _ => Tryd.call8 _ _) (fun w _ hS => (by exact rmCheck_c m w (hm.ex0 hS.ext))) ?_
    refine GoH.v (Vop.bin rfl rfl rfl rfl bNe rfl) ?_
    refine GoH.v (Vop.pickF rfl rfl rfl rfl rfl) ?_
    refine GoH.v (Vop.mv rfl rfl rfl rfl) ?_
    -- guard on slot 19 (law.go:108)
    refine GoH.cases (d := 19) rfl (fun hc => ?_) (fun hc => ?_)
    · -- yes
      refine GoH.no rfl rfl rfl rfl ?_
      refine GoH.no rfl rfl rfl rfl ?_
      refine GoH.no rfl rfl rfl rfl ?_
      refine GoH.v (Vop.pickT rfl rfl rfl rfl rfl) ?_
      refine GoH.v (Vop.mv rfl rfl rfl rfl) ?_
      refine GoH.no rfl rfl rfl rfl ?_
      refine GoH.no rfl rfl rfl rfl ?_
      refine GoH.no rfl rfl rfl rfl ?_
      refine GoH.no rfl rfl rfl rfl ?_
      refine GoH.no rfl rfl rfl rfl ?_
      refine GoH.no rfl rfl rfl rfl ?_
      refine GoH.no rfl rfl rfl rfl ?_
      refine GoH.no rfl rfl rfl rfl ?_
      refine GoH.no rfl rfl rfl rfl ?_
      refine GoH.v (Vop.pickT rfl rfl rfl rfl rfl) ?_
      refine GoH.v (Vop.mv rfl rfl rfl rfl) ?_
      refine GoH.no rfl rfl rfl rfl ?_
      refine GoH.no rfl rfl rfl rfl ?_
      refine GoH.no rfl rfl rfl rfl ?_
      refine GoH.no rfl rfl rfl rfl ?_
      refine GoH.v (Vop.pickT rfl rfl rfl rfl rfl) ?_
      refine GoH.v (Vop.mv rfl rfl rfl rfl) ?_
      refine GoH.no rfl rfl rfl rfl ?_
      refine GoH.no rfl rfl rfl rfl ?_
      refine GoH.no rfl rfl rfl rfl ?_
      refine GoH.no rfl rfl rfl rfl ?_
      refine GoH.v (Vop.pickT rfl rfl rfl rfl rfl) ?_
      refine GoH.regionEnd ?_
      refine GoH.condT rfl ?_
      refine GoH.seq ?_
      refine GoH.region ?_
      refine GoH.callP rfl rfl rfl rfl rfl (fun _ _ => Tryd.call12 _ _) (fun w _ hS => awake19_c w (hT.ex hS.ext)) ?_
      refine GoH.v (Vop.asg rfl rfl rfl rfl) ?_
      refine GoH.regionEnd ?_
      refine GoH.ret Tryd.f3 Tryd.func3 rfl (fun w' hS => ?_)
      exact ⟨hS.ext, rfl⟩
    · -- no
      have h1 : checkM m.n m.val m.rel = 0 := by simpa using hc
      have hv := checkM_zero.1 h1
      refine GoH.v (Vop.mv rfl rfl rfl rfl) ?_
      refine GoH.callP rfl rfl rfl rfl rfl (fun _ _ => Tryd.call9 _ _) (fun w _ hS => (by exact rfew_c a ca f 24 w)) ?_
      refine GoH.v (Vop.un rfl rfl rfl uNot rfl) ?_
      refine GoH.v (Vop.pickF rfl rfl rfl rfl rfl) ?_
      refine GoH.v (Vop.mv rfl rfl rfl rfl) ?_
      -- guard on slot 24 (law.go:108)
      refine GoH.cases (d := 24) rfl (fun hc => ?_) (fun hc => ?_)
      · -- yes
        refine GoH.no rfl rfl rfl rfl ?_
        refine GoH.no rfl rfl rfl rfl ?_
        refine GoH.no rfl rfl rfl rfl ?_
        refine GoH.no rfl rfl rfl rfl ?_
        refine GoH.no rfl rfl rfl rfl ?_
        refine GoH.no rfl rfl rfl rfl ?_
        refine GoH.no rfl rfl rfl rfl ?_
        refine GoH.no rfl rfl rfl rfl ?_
        refine GoH.no rfl rfl rfl rfl ?_
        refine GoH.v (Vop.pickT rfl rfl rfl rfl rfl) ?_
        refine GoH.v (Vop.mv rfl rfl rfl rfl) ?_
        refine GoH.no rfl rfl rfl rfl ?_
        refine GoH.no rfl rfl rfl rfl ?_
        refine GoH.no rfl rfl rfl rfl ?_
        refine GoH.no rfl rfl rfl rfl ?_
        refine GoH.v (Vop.pickT rfl rfl rfl rfl rfl) ?_
        refine GoH.v (Vop.mv rfl rfl rfl rfl) ?_
        refine GoH.no rfl rfl rfl rfl ?_
        refine GoH.no rfl rfl rfl rfl ?_
        refine GoH.no rfl rfl rfl rfl ?_
        refine GoH.no rfl rfl rfl rfl ?_
        refine GoH.v (Vop.pickT rfl rfl rfl rfl rfl) ?_
        refine GoH.regionEnd ?_
        refine GoH.condT rfl ?_
        refine GoH.seq ?_
        refine GoH.region ?_
        refine GoH.callP rfl rfl rfl rfl rfl (fun _ _ => Tryd.call12 _ _) (fun w _ hS => awake19_c w (hT.ex hS.ext)) ?_
        refine GoH.v (Vop.asg rfl rfl rfl rfl) ?_
        refine GoH.regionEnd ?_
        refine GoH.ret Tryd.f3 Tryd.func3 rfl (fun w' hS => ?_)
        exact ⟨hS.ext, rfl⟩
      · -- no
        refine GoH.v (Vop.mv rfl rfl rfl rfl) ?_
        refine GoH.v (Vop.fldP rfl rfl rfl rfl Tryd.underlying25 rfl (by exact Tryd.sizeOf23) 2 rfl) ?_
        refine GoH.v (Vop.ldo (v := .slice m.ra m.rows.length m.rc) rfl rfl rfl rfl Tryd.isAgg23 0 rfl rfl) ?_
        refine GoH.v (Vop.blt rfl rfl rfl (blt_len_slice Tryd.underlying23) rfl) ?_
        refine GoH.v (Vop.fldP rfl rfl rfl rfl Tryd.underlying25 rfl (by exact Tryd.sizeOf22) 1 rfl) ?_
        refine GoH.v (Vop.ldo (v := .slice m.va m.val.length m.vc) rfl rfl rfl rfl Tryd.isAgg22 0 rfl rfl) ?_
        refine GoH.v (Vop.blt rfl rfl rfl (blt_len_slice Tryd.underlying22) rfl) ?_
        refine GoH.callP rfl rfl rfl rfl rfl (fun _ _ => Tryd.call10 _ _) (fun w _ hS => (by exact rfitsF_c a ca f m.rows.length m.val.length w (ha.ex0 hS.ext) hl)) ?_
        refine GoH.v (Vop.un rfl rfl rfl uNot rfl) ?_
        refine GoH.v (Vop.pickF rfl rfl rfl rfl rfl) ?_
        refine GoH.v (Vop.mv rfl rfl rfl rfl) ?_
        -- guard on slot 35 (law.go:108)
        refine GoH.cases (d := 35) rfl (fun hc => ?_) (fun hc => ?_)
        · -- yes
          refine GoH.no rfl rfl rfl rfl ?_
          refine GoH.no rfl rfl rfl rfl ?_
          refine GoH.no rfl rfl rfl rfl ?_
          refine GoH.no rfl rfl rfl rfl ?_
          refine GoH.v (Vop.pickT rfl rfl rfl rfl rfl) ?_
          refine GoH.v (Vop.mv rfl rfl rfl rfl) ?_
          refine GoH.no rfl rfl rfl rfl ?_
          refine GoH.no rfl rfl rfl rfl ?_
          refine GoH.no rfl rfl rfl rfl ?_
          refine GoH.no rfl rfl rfl rfl ?_
          refine GoH.v (Vop.pickT rfl rfl rfl rfl rfl) ?_
          refine GoH.regionEnd ?_
          refine GoH.condT rfl ?_
          refine GoH.seq ?_
          refine GoH.region ?_
          refine GoH.callP rfl rfl rfl rfl rfl (fun _ _ => Tryd.call12 _ _) (fun w _ hS => awake19_c w (hT.ex hS.ext)) ?_
          refine GoH.v (Vop.asg rfl rfl rfl rfl) ?_
          refine GoH.regionEnd ?_
          refine GoH.ret Tryd.f3 Tryd.func3 rfl (fun w' hS => ?_)
          exact ⟨hS.ext, rfl⟩
        · -- no
          have hfit : fitB f m.rows.length m.val.length = true := by simpa using hc
          obtain ⟨hck, hfl2⟩ := fitB_iff.1 hfit
          have hok := (chkF_zero.1 hck).top
          refine GoH.v (Vop.mv rfl rfl rfl rfl) ?_
          refine GoH.callP rfl rfl rfl rfl rfl (fun _ _ => Tryd.call11 _ _) (fun w _ hS => (by exact rfrags_c a ca f w (ha.ex0 hS.ext) hl)) ?_
          refine GoH.v (Vop.bin rfl rfl rfl rfl (bAndNotI hfl (by omega : (15 : Nat) < 512)) rfl) ?_
          refine GoH.v (Vop.bin rfl rfl rfl rfl bNe rfl) ?_
          refine GoH.v (Vop.pickF rfl rfl rfl rfl rfl) ?_
          refine GoH.v (Vop.mv rfl rfl rfl rfl) ?_
          -- guard on slot 41 (law.go:108)
          refine GoH.cases (d := 41) rfl (fun hc => ?_) (fun hc => ?_)
          · -- yes
            refine GoH.no rfl rfl rfl rfl ?_
            refine GoH.no rfl rfl rfl rfl ?_
            refine GoH.no rfl rfl rfl rfl ?_
            refine GoH.no rfl rfl rfl rfl ?_
            refine GoH.v (Vop.pickT rfl rfl rfl rfl rfl) ?_
            refine GoH.regionEnd ?_
            refine GoH.condT rfl ?_
            refine GoH.seq ?_
            refine GoH.region ?_
            refine GoH.callP rfl rfl rfl rfl rfl (fun _ _ => Tryd.call12 _ _) (fun w _ hS => awake19_c w (hT.ex hS.ext)) ?_
            refine GoH.v (Vop.asg rfl rfl rfl rfl) ?_
            refine GoH.regionEnd ?_
            refine GoH.ret Tryd.f3 Tryd.func3 rfl (fun w' hS => ?_)
            exact ⟨hS.ext, rfl⟩
          · -- no
            have h3 : andN (frgL (compF f)) 15 = 0 := by simpa using hc
            refine GoH.v (Vop.mv rfl rfl rfl rfl) ?_
            refine GoH.callP rfl rfl rfl rfl rfl (fun _ _ => Tryd.call11 _ _) (fun w _ hS => (by exact rfrags_c a ca f w (ha.ex0 hS.ext) hl)) ?_
            refine GoH.v (Vop.bin rfl rfl rfl rfl (bAndI hfl (by omega : (4 : Nat) < 512)) rfl) ?_
            refine GoH.v (Vop.bin rfl rfl rfl rfl bNe rfl) ?_
            refine GoH.v (Vop.pickF rfl rfl rfl rfl rfl) ?_
            refine GoH.regionEnd ?_
            refine GoH.cond rfl (fun hc => ?_) (fun hc => ?_)
            · -- yes
              refine GoH.seq ?_
              refine GoH.region ?_
              refine GoH.callP rfl rfl rfl rfl rfl (fun _ _ => Tryd.call12 _ _) (fun w _ hS => awake19_c w (hT.ex hS.ext)) ?_
              refine GoH.v (Vop.asg rfl rfl rfl rfl) ?_
              refine GoH.regionEnd ?_
              refine GoH.ret Tryd.f3 Tryd.func3 rfl (fun w' hS => ?_)
              exact ⟨hS.ext, rfl⟩
            · -- no
              have h4 : frgL (compF f) &&& 4 = 0 := by
                have : ((frgL (compF f) &&& 4 : Nat) : Int) = 0 := by simpa using hc
                omega
              have hn1 := hv.n1
              obtain ⟨n, hn⟩ : ∃ n : Nat, m.n = (n : Int) := ⟨m.n.toNat, by omega⟩
              have h3' := h3
              have h4' := h4
              rw [compF_eq hck] at h3' h4'
              have hst := allL_and ((frg_has hok frO_15).1 h3') hfl2
              have hnd := (frg_dist hok).1 h4'
              have hst2 : allL (StatL m.rel.length m.val.length) (topT f) := by rw [hrl]; exact hst
              have hE : holdE m.n m.val m.rel f = 0 := holdE_zero.2 ⟨hv, hck, hst2⟩
              have hHS : holdS m n f = semT n m.val m.rel (topT f) := if_pos hE
              have hA1 := agr_crs hv hn (allL_and hst2 hnd)
              refine GoH.skip ?_
              refine GoH.seq ?_
              refine GoH.region ?_
              refine GoH.v (Vop.ldB rfl rfl rfl rfl Tryd.isAgg25 0 rfl Tryd.sizeOf25 rfl) ?_
              refine GoH.v (Vop.mv rfl rfl rfl rfl) ?_
              refine GoH.callP rfl rfl rfl rfl rfl (fun _ _ => Tryd.call13 _ _) (fun w _ hS => (by have := wHolds_c m n a ca f w (hm.ex0 hS.ext) hn (ha.ex0 hS.ext) hl; rw [hHS, hE] at this; exact this)) ?_
              refine GoH.v (Vop.mv rfl rfl rfl rfl) ?_
              refine GoH.v (Vop.ext rfl rfl rfl rfl rfl) ?_
              refine GoH.v (Vop.ext rfl rfl rfl rfl rfl) ?_
              refine GoH.v (Vop.asg rfl rfl rfl rfl) ?_
              refine GoH.v (Vop.asg rfl rfl rfl rfl) ?_
              refine GoH.regionEnd ?_
              refine GoH.seq ?_
              refine GoH.region ?_
              refine GoH.v (Vop.ldB rfl rfl rfl rfl Tryd.isAgg25 0 rfl Tryd.sizeOf25 rfl) ?_
              refine GoH.callM _ rfl rfl rfl rfl rfl (fun _ _ => Tryd.call14 _ _) (fun w _ hS => (by exact coarsest_c m w (hT.ex hS.ext) (hm.ex0 hS.ext))) ?_
              rintro v w1 w2 Y' hS he ⟨sv, rfl, ho⟩
              obtain ⟨q, cap, sp, rfl, hq, hcap, hS'⟩ := gainS hS he ho
              refine ⟨_, hS', ?_⟩
              rw [h1]
              -- heap: q b2
              refine GoH.v (Vop.mv rfl rfl rfl rfl) ?_
              refine GoH.v (Vop.ext rfl rfl rfl rfl rfl) ?_
              refine GoH.v (Vop.ext rfl rfl rfl rfl rfl) ?_
              refine GoH.v (Vop.asg rfl rfl rfl rfl) ?_
              refine GoH.v (Vop.asg rfl rfl rfl rfl) ?_
              refine GoH.regionEnd ?_
              refine GoH.seq ?_
              refine GoH.seqJ (α := {z : List Int × Option Nat × Nat × List Value // Agr n z.1 (semT n m.val m.rel (topT f)) ∧ (z.2.1 = none → z.1.length = 0 ∧ z.2.2.1 = 0) ∧ (z.1.map I64 ++ z.2.2.2).length = z.2.2.1})
                (fun z => [(2, .pointer (some ⟨b2, 0, none⟩)), (5, U (semT n m.val m.rel (topT f))), (6, .int .i64 0), (7, osv z.1.2.1 z.1.1.length z.1.2.2.1), (8, .int .i64 0)]) (fun z => [(z.1.2.1, ob I64 3 z.1.1 z.1.2.2.2), (some b2, .cells m.v.cells 25 (0, 0))]) (fun z => ?_) (fun K => ?_)
              -- at: law.go:113
              -- heap: q b2
              -- ptr: 2=b2
              · -- what comes behind
                obtain ⟨⟨P, q, cap, sp⟩, hA, hq, hcap⟩ := z
                dsimp only at hA hq hcap ⊢
                have hPl := hA.len
                have hn64 := hv.n64
                refine GoH.seq ?_
                refine GoH.seq ?_
                refine GoH.region ?_
                refine GoH.v (Vop.mv rfl rfl rfl rfl) ?_
                refine GoH.v (Vop.bin rfl rfl rfl rfl (bNeV (v := false) rfl) rfl) ?_
                refine GoH.v (Vop.mv rfl rfl rfl rfl) ?_
                refine GoH.v (Vop.mv rfl rfl rfl rfl) ?_
                refine GoH.v (Vop.bin rfl rfl rfl rfl (bNeV (v := false) rfl) rfl) ?_
                refine GoH.v (Vop.pickF rfl rfl rfl rfl rfl) ?_
                refine GoH.v (Vop.mv rfl rfl rfl rfl) ?_
                refine GoH.v (Vop.mv rfl rfl rfl rfl) ?_
                refine GoH.v (Vop.blt rfl rfl rfl (blt_len_slice Tryd.underlying36) rfl) ?_
                refine GoH.v (Vop.fldP rfl rfl rfl rfl Tryd.underlying25 rfl (by exact Tryd.sizeOf3) 0 rfl) ?_
                refine GoH.v (Vop.ldo (v := .int .i64 m.n) rfl rfl rfl rfl Tryd.isAgg3 1 rfl rfl) ?_
                refine GoH.v (Vop.bin rfl rfl rfl rfl (bNeV (v := false) (by rw [hPl, hn]; simp)) rfl) ?_
                refine GoH.v (Vop.pickF rfl rfl rfl rfl rfl) ?_
                refine GoH.regionEnd ?_
                refine GoH.condF rfl ?_
                refine GoH.skip ?_
                refine GoH.seq ?_
                refine GoH.seq ?_
                refine GoH.region ?_
                refine GoH.v (Vop.mv rfl rfl rfl rfl) ?_
                refine GoH.v (Vop.blt rfl rfl rfl (blt_len_slice Tryd.underlying36) rfl) ?_
                refine GoH.v (Vop.mv rfl rfl rfl rfl) ?_
                refine GoH.regionEnd ?_
                refine GoH.block ?_
                refine GoH.loop (σ := Nat) (fun k => [(2, .pointer (some ⟨b2, 0, none⟩)), (5, U (semT n m.val m.rel (topT f))), (83, osv q P.length cap), (84, .int .i64 P.length), (85, .int .i64 k)]) (fun _ => [(q, ob I64 3 P sp), (some b2, .cells m.v.cells 25 (0, 0))]) (fun k => k ≤ P.length) (fun k => P.length - k) 0 (Nat.zero_le _) ⟨rfl, rfl, rfl, rfl, rfl, trivial⟩ (List.Sublist.refl _) (fun k hk IH => ?_)
                -- heap: q b2
                -- ptr: 2=b2
                refine GoH.seq ?_
                refine GoH.region ?_
                refine GoH.v (Vop.bin rfl rfl rfl rfl bLt rfl) ?_
                refine GoH.regionEnd ?_
                refine GoH.seq ?_
                refine GoH.cond rfl (fun hc => ?_) (fun hc => ?_)
                · -- yes
                  have hlt : k < P.length := by simpa using hc
                  obtain ⟨h0, hk2, hbit⟩ := hA.at (by omega : k < n)
                  obtain ⟨b, rfl⟩ : ∃ b, q = some b := by
                    cases q with
                    | none => have := (hq rfl).1; omega
                    | some b => exact ⟨b, rfl⟩
                  refine GoH.skip ?_
                  refine GoH.seq ?_
                  refine GoH.block ?_
                  refine GoH.seq ?_
                  refine GoH.region ?_
                  refine GoH.v (Vop.mv rfl rfl rfl rfl) ?_
                  refine GoH.v (Vop.idxS rfl rfl rfl rfl rfl Tryd.underlying36 Tryd.sizeOf3 (k) ⟨rfl, hlt⟩) ?_
                  refine GoH.v (Vop.ldE I64 0 rfl rfl rfl rfl Tryd.isAgg3 0 rfl hlt) ?_
                  refine GoH.v (Vop.asg rfl rfl rfl rfl) ?_
                  refine GoH.v (Vop.asg rfl rfl rfl rfl) ?_
                  refine GoH.regionEnd ?_
                  refine GoH.seq ?_
                  refine GoH.draw 18 mixed rfl ?_
                  refine RdGo.v (Vop.mv rfl rfl rfl rfl) ?_
                  refine RdGo.v (Vop.bin rfl rfl rfl rfl (bLtV (v := false) (decide_eq_false (by omega))) rfl) ?_
                  refine RdGo.v (Vop.mv rfl rfl rfl rfl) ?_
                  refine RdGo.v (Vop.mv rfl rfl rfl rfl) ?_
                  refine RdGo.v (Vop.mv rfl rfl rfl rfl) ?_
                  refine RdGo.v (Vop.bin rfl rfl rfl rfl (bGtV (v := false) (decide_eq_false (by omega))) rfl) ?_
                  refine RdGo.v (Vop.pickF rfl rfl rfl rfl rfl) ?_
                  refine RdGo.v (Vop.mv rfl rfl rfl rfl) ?_
                  refine RdGo.v (Vop.mv rfl rfl rfl rfl) ?_
                  refine RdGo.v (Vop.mv rfl rfl rfl rfl) ?_
                  refine RdGo.v (Vop.bin rfl rfl rfl rfl (bShr k rfl) rfl) ?_
                  refine RdGo.v (Vop.bin (b := U 1#64) rfl rfl rfl rfl bAnd rfl) ?_
                  refine RdGo.v (Vop.mv rfl rfl rfl rfl) ?_
                  refine RdGo.v (Vop.mv rfl rfl rfl rfl) ?_
                  refine RdGo.v (Vop.bin rfl rfl rfl rfl (bShr (P.getD k 0).toNat (Int.toNat_of_nonneg h0).symm) rfl) ?_
                  refine RdGo.v (Vop.bin (b := U 1#64) rfl rfl rfl rfl bAnd rfl) ?_
                  refine RdGo.v (Vop.bin rfl rfl rfl rfl (bNeUV (v := false) (by rw [hbit]; simp)) rfl) ?_
                  refine RdGo.v (Vop.pickF rfl rfl rfl rfl rfl) ?_
                  refine RdGo.nil ?_
                  refine GoH.regionEnd ?_
                  refine GoH.condF rfl ?_
                  refine GoH.skip ?_
                  refine GoH.inBlock ?_
                  refine GoH.region ?_
                  refine GoH.v (Vop.bin rfl rfl rfl rfl (bAdd (by omega)) rfl) ?_
                  refine GoH.v (Vop.mv rfl rfl rfl rfl) ?_
                  refine GoH.regionEnd ?_
                  exact IH (k + 1) _ _ hlt (by omega) ⟨rfl, rfl, rfl, rfl, rfl, trivial⟩ (List.Sublist.refl _)
                · -- no
                  refine GoH.exit rfl ?_
                  refine GoH.seq ?_
                  refine GoH.region ?_
                  refine GoH.callP rfl rfl rfl rfl rfl (fun _ _ => Tryd.call12 _ _) (fun w _ hS => awake19_c w (hT.ex hS.ext)) ?_
                  refine GoH.v (Vop.asg rfl rfl rfl rfl) ?_
                  refine GoH.regionEnd ?_
                  refine GoH.ret Tryd.f3 Tryd.func3 rfl (fun w' hS => ?_)
                  exact ⟨hS.ext, rfl⟩
              · -- the first part
                refine GoH.seq ?_
                refine GoH.region ?_
                refine GoH.v (Vop.mv rfl rfl rfl rfl) ?_
                refine GoH.callP rfl rfl rfl rfl rfl (fun _ _ => Tryd.call11 _ _) (fun w _ hS => (by exact rfrags_c a ca f w (ha.ex0 hS.ext) hl)) ?_
                refine GoH.v (Vop.bin rfl rfl rfl rfl (bAndNotI hfl (by omega : (1 : Nat) < 512)) rfl) ?_
                refine GoH.v (Vop.bin rfl rfl rfl rfl bEq rfl) ?_
                refine GoH.regionEnd ?_
                refine GoH.cond rfl (fun hc => ?_) (fun hc => ?_)
                · -- yes
                  have h5 : andN (frgL (compF f)) 1 = 0 := by simpa using hc
                  have h5' := h5
                  rw [compF_eq hck] at h5'
                  have hst10 := allL_and hst2 ((frg_has hok frO_1).1 h5')
                  have hA2 := agr_rnds hv hn hok.wf hst10
                  have hdf : depF f = (depT (topT f) : Int) := if_pos hck
                  have hrE : rndsE m.n m.val m.rel (depT (topT f)) = 0 := by rw [rndsE, if_neg (by simp [h1]), if_neg (by omega)]
                  refine GoH.drawO mixed (os := [[0, 1, 2, 3, 4, 5, 6, 7, 8], [0, 1, 2, 3, 4, 5, 7, 6, 8], [0, 1, 2, 3, 4, 6, 5, 7, 8], [1, 0, 2, 3, 4, 5, 6, 7, 8], [1, 0, 2, 3, 4, 5, 7, 6, 8], [1, 0, 2, 3, 4, 6, 5, 7, 8], [1, 2, 0, 3, 4, 5, 6, 7, 8], [1, 2, 0, 3, 4, 5, 7, 6, 8], [1, 2, 0, 3, 4, 6, 5, 7, 8]]) rfl ?_
                  refine List.forall_mem_cons.2 ⟨?_, ?_⟩
                  · -- order [0, 1, 2, 3, 4, 5, 6, 7, 8]
                    refine GoH.v (Vop.ldB rfl rfl rfl rfl Tryd.isAgg25 1 rfl Tryd.sizeOf25 rfl) ?_
                    refine GoH.v (Vop.mv rfl rfl rfl rfl) ?_
                    refine GoH.callP rfl rfl rfl rfl rfl (fun _ _ => Tryd.call16 _ _) (fun w _ hS => (by exact rdepth05_c a ca f w (ha.ex0 hS.ext) hl)) ?_
                    refine GoH.callM _ rfl rfl rfl rfl rfl (fun _ _ => Tryd.call15 _ _) (fun w _ hS => (by exact roundsX_c m (depF f) w (hT.ex hS.ext) (hm.ex0 hS.ext))) ?_
                    rintro v w1 w2 Y' hS he ⟨sv, rfl, ho⟩
                    rw [hdf] at ho
                    obtain ⟨q2, cap2, sp2, rfl, hq2, hcap2, hS'⟩ := gainS hS he ho
                    refine ⟨_, hS', ?_⟩
                    rw [hdf, hrE]
                    -- heap: q2 q b2
                    refine GoH.v (Vop.mv rfl rfl rfl rfl) ?_
                    refine GoH.v (Vop.ext rfl rfl rfl rfl rfl) ?_
                    refine GoH.v (Vop.ext rfl rfl rfl rfl rfl) ?_
                    refine GoH.v (Vop.asg rfl rfl rfl rfl) ?_
                    refine GoH.v (Vop.asg rfl rfl rfl rfl) ?_
                    refine GoH.regionEnd ?_
                    exact K ⟨(_, q2, cap2, sp2), hA2, hq2, hcap2⟩ _ _ (by repeat (first | exact SubF.nil | refine SubF.cons rfl ?_)) (fun _ _ hS => hS.subH (.cons_cons _ (.cons _ (List.Sublist.refl _))))
                  refine List.forall_mem_cons.2 ⟨?_, ?_⟩
                  · -- order [0, 1, 2, 3, 4, 5, 7, 6, 8]
                    refine GoH.v (Vop.ldB rfl rfl rfl rfl Tryd.isAgg25 1 rfl Tryd.sizeOf25 rfl) ?_
                    refine GoH.v (Vop.mv rfl rfl rfl rfl) ?_
                    refine GoH.callP rfl rfl rfl rfl rfl (fun _ _ => Tryd.call16 _ _) (fun w _ hS => (by exact rdepth05_c a ca f w (ha.ex0 hS.ext) hl)) ?_
                    refine GoH.callM _ rfl rfl rfl rfl rfl (fun _ _ => Tryd.call15 _ _) (fun w _ hS => (by exact roundsX_c m (depF f) w (hT.ex hS.ext) (hm.ex0 hS.ext))) ?_
                    rintro v w1 w2 Y' hS he ⟨sv, rfl, ho⟩
                    rw [hdf] at ho
                    obtain ⟨q2, cap2, sp2, rfl, hq2, hcap2, hS'⟩ := gainS hS he ho
                    refine ⟨_, hS', ?_⟩
                    rw [hdf, hrE]
                    -- heap: q2 q b2
                    refine GoH.v (Vop.mv rfl rfl rfl rfl) ?_
                    refine GoH.v (Vop.ext rfl rfl rfl rfl rfl) ?_
                    refine GoH.v (Vop.asg rfl rfl rfl rfl) ?_
                    refine GoH.v (Vop.ext rfl rfl rfl rfl rfl) ?_
                    refine GoH.v (Vop.asg rfl rfl rfl rfl) ?_
                    refine GoH.regionEnd ?_
                    exact K ⟨(_, q2, cap2, sp2), hA2, hq2, hcap2⟩ _ _ (by repeat (first | exact SubF.nil | refine SubF.cons rfl ?_)) (fun _ _ hS => hS.subH (.cons_cons _ (.cons _ (List.Sublist.refl _))))
                  refine List.forall_mem_cons.2 ⟨?_, ?_⟩
                  · -- order [0, 1, 2, 3, 4, 6, 5, 7, 8]
                    refine GoH.v (Vop.ldB rfl rfl rfl rfl Tryd.isAgg25 1 rfl Tryd.sizeOf25 rfl) ?_
                    refine GoH.v (Vop.mv rfl rfl rfl rfl) ?_
                    refine GoH.callP rfl rfl rfl rfl rfl (fun _ _ => Tryd.call16 _ _) (fun w _ hS => (by exact rdepth05_c a ca f w (ha.ex0 hS.ext) hl)) ?_
                    refine GoH.callM _ rfl rfl rfl rfl rfl (fun _ _ => Tryd.call15 _ _) (fun w _ hS => (by exact roundsX_c m (depF f) w (hT.ex hS.ext) (hm.ex0 hS.ext))) ?_
                    rintro v w1 w2 Y' hS he ⟨sv, rfl, ho⟩
                    rw [hdf] at ho
                    obtain ⟨q2, cap2, sp2, rfl, hq2, hcap2, hS'⟩ := gainS hS he ho
                    refine ⟨_, hS', ?_⟩
                    rw [hdf, hrE]
                    -- heap: q2 q b2
                    refine GoH.v (Vop.mv rfl rfl rfl rfl) ?_
                    refine GoH.v (Vop.ext rfl rfl rfl rfl rfl) ?_
                    refine GoH.v (Vop.ext rfl rfl rfl rfl rfl) ?_
                    refine GoH.v (Vop.asg rfl rfl rfl rfl) ?_
                    refine GoH.v (Vop.asg rfl rfl rfl rfl) ?_
                    refine GoH.regionEnd ?_
                    exact K ⟨(_, q2, cap2, sp2), hA2, hq2, hcap2⟩ _ _ (by repeat (first | exact SubF.nil | refine SubF.cons rfl ?_)) (fun _ _ hS => hS.subH (.cons_cons _ (.cons _ (List.Sublist.refl _))))
                  refine List.forall_mem_cons.2 ⟨?_, ?_⟩
                  · -- order [1, 0, 2, 3, 4, 5, 6, 7, 8]
                    refine GoH.v (Vop.mv rfl rfl rfl rfl) ?_
                    refine GoH.v (Vop.ldB rfl rfl rfl rfl Tryd.isAgg25 1 rfl Tryd.sizeOf25 rfl) ?_
                    refine GoH.callP rfl rfl rfl rfl rfl (fun _ _ => Tryd.call16 _ _) (fun w _ hS => (by exact rdepth05_c a ca f w (ha.ex0 hS.ext) hl)) ?_
                    refine GoH.callM _ rfl rfl rfl rfl rfl (fun _ _ => Tryd.call15 _ _) (fun w _ hS => (by exact roundsX_c m (depF f) w (hT.ex hS.ext) (hm.ex0 hS.ext))) ?_
                    rintro v w1 w2 Y' hS he ⟨sv, rfl, ho⟩
                    rw [hdf] at ho
                    obtain ⟨q2, cap2, sp2, rfl, hq2, hcap2, hS'⟩ := gainS hS he ho
                    refine ⟨_, hS', ?_⟩
                    rw [hdf, hrE]
                    -- heap: q2 q b2
                    refine GoH.v (Vop.mv rfl rfl rfl rfl) ?_
                    refine GoH.v (Vop.ext rfl rfl rfl rfl rfl) ?_
                    refine GoH.v (Vop.ext rfl rfl rfl rfl rfl) ?_
                    refine GoH.v (Vop.asg rfl rfl rfl rfl) ?_
                    refine GoH.v (Vop.asg rfl rfl rfl rfl) ?_
                    refine GoH.regionEnd ?_
                    exact K ⟨(_, q2, cap2, sp2), hA2, hq2, hcap2⟩ _ _ (by repeat (first | exact SubF.nil | refine SubF.cons rfl ?_)) (fun _ _ hS => hS.subH (.cons_cons _ (.cons _ (List.Sublist.refl _))))
                  refine List.forall_mem_cons.2 ⟨?_, ?_⟩
                  · -- order [1, 0, 2, 3, 4, 5, 7, 6, 8]
                    refine GoH.v (Vop.mv rfl rfl rfl rfl) ?_
                    refine GoH.v (Vop.ldB rfl rfl rfl rfl Tryd.isAgg25 1 rfl Tryd.sizeOf25 rfl) ?_
                    refine GoH.callP rfl rfl rfl rfl rfl (fun _ _ => Tryd.call16 _ _) (fun w _ hS => (by exact rdepth05_c a ca f w (ha.ex0 hS.ext) hl)) ?_
                    refine GoH.callM _ rfl rfl rfl rfl rfl (fun _ _ => Tryd.call15 _ _) (fun w _ hS => (by exact roundsX_c m (depF f) w (hT.ex hS.ext) (hm.ex0 hS.ext))) ?_
                    rintro v w1 w2 Y' hS he ⟨sv, rfl, ho⟩
                    rw [hdf] at ho
                    obtain ⟨q2, cap2, sp2, rfl, hq2, hcap2, hS'⟩ := gainS hS he ho
                    refine ⟨_, hS', ?_⟩
                    rw [hdf, hrE]
                    -- heap: q2 q b2
                    refine GoH.v (Vop.mv rfl rfl rfl rfl) ?_
                    refine GoH.v (Vop.ext rfl rfl rfl rfl rfl) ?_
                    refine GoH.v (Vop.asg rfl rfl rfl rfl) ?_
                    refine GoH.v (Vop.ext rfl rfl rfl rfl rfl) ?_
                    refine GoH.v (Vop.asg rfl rfl rfl rfl) ?_
                    refine GoH.regionEnd ?_
                    exact K ⟨(_, q2, cap2, sp2), hA2, hq2, hcap2⟩ _ _ (by repeat (first | exact SubF.nil | refine SubF.cons rfl ?_)) (fun _ _ hS => hS.subH (.cons_cons _ (.cons _ (List.Sublist.refl _))))
                  refine List.forall_mem_cons.2 ⟨?_, ?_⟩
                  · -- order [1, 0, 2, 3, 4, 6, 5, 7, 8]
                    refine GoH.v (Vop.mv rfl rfl rfl rfl) ?_
                    refine GoH.v (Vop.ldB rfl rfl rfl rfl Tryd.isAgg25 1 rfl Tryd.sizeOf25 rfl) ?_
                    refine GoH.callP rfl rfl rfl rfl rfl (fun _ _ => Tryd.call16 _ _) (fun w _ hS => (by exact rdepth05_c a ca f w (ha.ex0 hS.ext) hl)) ?_
                    refine GoH.callM _ rfl rfl rfl rfl rfl (fun _ _ => Tryd.call15 _ _) (fun w _ hS => (by exact roundsX_c m (depF f) w (hT.ex hS.ext) (hm.ex0 hS.ext))) ?_
                    rintro v w1 w2 Y' hS he ⟨sv, rfl, ho⟩
                    rw [hdf] at ho
                    obtain ⟨q2, cap2, sp2, rfl, hq2, hcap2, hS'⟩ := gainS hS he ho
                    refine ⟨_, hS', ?_⟩
                    rw [hdf, hrE]
                    -- heap: q2 q b2
                    refine GoH.v (Vop.mv rfl rfl rfl rfl) ?_
                    refine GoH.v (Vop.ext rfl rfl rfl rfl rfl) ?_
                    refine GoH.v (Vop.ext rfl rfl rfl rfl rfl) ?_
                    refine GoH.v (Vop.asg rfl rfl rfl rfl) ?_
                    refine GoH.v (Vop.asg rfl rfl rfl rfl) ?_
                    refine GoH.regionEnd ?_
                    exact K ⟨(_, q2, cap2, sp2), hA2, hq2, hcap2⟩ _ _ (by repeat (first | exact SubF.nil | refine SubF.cons rfl ?_)) (fun _ _ hS => hS.subH (.cons_cons _ (.cons _ (List.Sublist.refl _))))
                  refine List.forall_mem_cons.2 ⟨?_, ?_⟩
                  · -- order [1, 2, 0, 3, 4, 5, 6, 7, 8]
                    refine GoH.v (Vop.mv rfl rfl rfl rfl) ?_
                    refine GoH.callP rfl rfl rfl rfl rfl (fun _ _ => Tryd.call16 _ _) (fun w _ hS => (by exact rdepth05_c a ca f w (ha.ex0 hS.ext) hl)) ?_
                    refine GoH.v (Vop.ldB rfl rfl rfl rfl Tryd.isAgg25 1 rfl Tryd.sizeOf25 rfl) ?_
                    refine GoH.callM _ rfl rfl rfl rfl rfl (fun _ _ => Tryd.call15 _ _) (fun w _ hS => (by exact roundsX_c m (depF f) w (hT.ex hS.ext) (hm.ex0 hS.ext))) ?_
                    rintro v w1 w2 Y' hS he ⟨sv, rfl, ho⟩
                    rw [hdf] at ho
                    obtain ⟨q2, cap2, sp2, rfl, hq2, hcap2, hS'⟩ := gainS hS he ho
                    refine ⟨_, hS', ?_⟩
                    rw [hdf, hrE]
                    -- heap: q2 q b2
                    refine GoH.v (Vop.mv rfl rfl rfl rfl) ?_
                    refine GoH.v (Vop.ext rfl rfl rfl rfl rfl) ?_
                    refine GoH.v (Vop.ext rfl rfl rfl rfl rfl) ?_
                    refine GoH.v (Vop.asg rfl rfl rfl rfl) ?_
                    refine GoH.v (Vop.asg rfl rfl rfl rfl) ?_
                    refine GoH.regionEnd ?_
                    exact K ⟨(_, q2, cap2, sp2), hA2, hq2, hcap2⟩ _ _ (by repeat (first | exact SubF.nil | refine SubF.cons rfl ?_)) (fun _ _ hS => hS.subH (.cons_cons _ (.cons _ (List.Sublist.refl _))))
                  refine List.forall_mem_cons.2 ⟨?_, ?_⟩
                  · -- order [1, 2, 0, 3, 4, 5, 7, 6, 8]
                    refine GoH.v (Vop.mv rfl rfl rfl rfl) ?_
                    refine GoH.callP rfl rfl rfl rfl rfl (fun _ _ => Tryd.call16 _ _) (fun w _ hS => (by exact rdepth05_c a ca f w (ha.ex0 hS.ext) hl)) ?_
                    refine GoH.v (Vop.ldB rfl rfl rfl rfl Tryd.isAgg25 1 rfl Tryd.sizeOf25 rfl) ?_
                    refine GoH.callM _ rfl rfl rfl rfl rfl (fun _ _ => Tryd.call15 _ _) (fun w _ hS => (by exact roundsX_c m (depF f) w (hT.ex hS.ext) (hm.ex0 hS.ext))) ?_
                    rintro v w1 w2 Y' hS he ⟨sv, rfl, ho⟩
                    rw [hdf] at ho
                    obtain ⟨q2, cap2, sp2, rfl, hq2, hcap2, hS'⟩ := gainS hS he ho
                    refine ⟨_, hS', ?_⟩
                    rw [hdf, hrE]
                    -- heap: q2 q b2
                    refine GoH.v (Vop.mv rfl rfl rfl rfl) ?_
                    refine GoH.v (Vop.ext rfl rfl rfl rfl rfl) ?_
                    refine GoH.v (Vop.asg rfl rfl rfl rfl) ?_
                    refine GoH.v (Vop.ext rfl rfl rfl rfl rfl) ?_
                    refine GoH.v (Vop.asg rfl rfl rfl rfl) ?_
                    refine GoH.regionEnd ?_
                    exact K ⟨(_, q2, cap2, sp2), hA2, hq2, hcap2⟩ _ _ (by repeat (first | exact SubF.nil | refine SubF.cons rfl ?_)) (fun _ _ hS => hS.subH (.cons_cons _ (.cons _ (List.Sublist.refl _))))
                  refine List.forall_mem_cons.2 ⟨?_, ?_⟩
                  · -- order [1, 2, 0, 3, 4, 6, 5, 7, 8]
                    refine GoH.v (Vop.mv rfl rfl rfl rfl) ?_
                    refine GoH.callP rfl rfl rfl rfl rfl (fun _ _ => Tryd.call16 _ _) (fun w _ hS => (by exact rdepth05_c a ca f w (ha.ex0 hS.ext) hl)) ?_
                    refine GoH.v (Vop.ldB rfl rfl rfl rfl Tryd.isAgg25 1 rfl Tryd.sizeOf25 rfl) ?_
                    refine GoH.callM _ rfl rfl rfl rfl rfl (fun _ _ => Tryd.call15 _ _) (fun w _ hS => (by exact roundsX_c m (depF f) w (hT.ex hS.ext) (hm.ex0 hS.ext))) ?_
                    rintro v w1 w2 Y' hS he ⟨sv, rfl, ho⟩
                    rw [hdf] at ho
                    obtain ⟨q2, cap2, sp2, rfl, hq2, hcap2, hS'⟩ := gainS hS he ho
                    refine ⟨_, hS', ?_⟩
                    rw [hdf, hrE]
                    -- heap: q2 q b2
                    refine GoH.v (Vop.mv rfl rfl rfl rfl) ?_
                    refine GoH.v (Vop.ext rfl rfl rfl rfl rfl) ?_
                    refine GoH.v (Vop.ext rfl rfl rfl rfl rfl) ?_
                    refine GoH.v (Vop.asg rfl rfl rfl rfl) ?_
                    refine GoH.v (Vop.asg rfl rfl rfl rfl) ?_
                    refine GoH.regionEnd ?_
                    exact K ⟨(_, q2, cap2, sp2), hA2, hq2, hcap2⟩ _ _ (by repeat (first | exact SubF.nil | refine SubF.cons rfl ?_)) (fun _ _ hS => hS.subH (.cons_cons _ (.cons _ (List.Sublist.refl _))))
                  intro _ hx; cases hx
                · -- no
                  refine GoH.skip ?_
                  exact K ⟨(_, q, cap, sp), hA1, hq, hcap⟩ _ _ (by repeat (first | exact SubF.nil | refine SubF.cons rfl ?_)) (fun _ _ hS => hS)
end Go.Proofs.YtcljmlnnfdaljaaDoor
