/- Contracts of functions of the program: what each call returns and that nothing else of memory is turned, under the conditions that each theorem states. -/
import Derived.Test.YtbjopkllkoomkaaDoorE11
namespace Go.Proofs.YtbjopkllkoomkaaDoor
open Go.RowKit Go.Proofs.Wit
/-! the reference's axioms -/
set_option maxRecDepth 8000 in
theorem raxiom_c (p i : Int) (a : Option Addr) (ca : Nat) (f : List NV) (w : World) (ha : FA w a f) (hl : f.length ≤ 60) :
    Cn Tryd.prog 7 [.int .i64 p, .int .i64 i, .slice a f.length ca] w (fun v w' => ∃ sv, v = .tuple #[sv, .int .i64 (axE p i f)] ∧ OwnN 58 w w' sv (axF p i f)) := by
  obtain ⟨iN, hiN, hzN, hszN, hbyN⟩ := info_parts infoN
  refine Cn.of Tryd.func7 rfl rfl ?_
  refine GoH.seq ?_
  refine GoH.region ?_
  refine GoH.v (Vop.asg rfl rfl rfl rfl) ?_
  refine GoH.v (Vop.asg rfl rfl rfl rfl) ?_
  refine GoH.regionEnd ?_
  refine GoH.seq ?_
  refine GoH.seq ?_
  refine GoH.region ?_
  refine GoH.v (Vop.mv rfl rfl rfl rfl) ?_
  refine GoH.callP rfl rfl rfl rfl rfl (fun _ _ => Tryd.call26 _ _) (fun w _ hS => (by exact rchk_c a ca f w (ha.ex0 hS.ext) (by unfold maxLen; omega))) ?_
  refine GoH.v (Vop.asg rfl rfl rfl rfl) ?_
  refine GoH.regionEnd ?_
  refine GoH.seq ?_
  refine GoH.region ?_
  refine GoH.v (Vop.mv rfl rfl rfl rfl) ?_
  refine GoH.v (Vop.bin rfl rfl rfl rfl bNe rfl) ?_
  refine GoH.regionEnd ?_
  refine GoH.cond rfl (fun hc => ?_) (fun hc => ?_)
  · -- yes
    have h1 : chkF f ≠ 0 := by simpa using hc
    refine GoH.seq ?_
    refine GoH.region ?_
    refine GoH.v (Vop.mv rfl rfl rfl rfl) ?_
    refine GoH.v (Vop.asg rfl rfl rfl rfl) ?_
    refine GoH.v (Vop.asg rfl rfl rfl rfl) ?_
    refine GoH.regionEnd ?_
    refine GoH.ret Tryd.f7 Tryd.func7 rfl (fun w' hS => ?_)
    have he := axE_chk (p := p) (a := i) h1
    exact ⟨hS.ext, _, by rw [he]; rfl, by rw [axF_bad (by rw [he]; exact h1)]; exact OwnN.nil0⟩
  · -- no
    have h1 : chkF f = 0 := by simpa using hc
    refine GoH.skip ?_
    refine GoH.seq ?_
    refine GoH.seq ?_
    refine GoH.region ?_
    refine GoH.v (Vop.mv rfl rfl rfl rfl) ?_
    refine GoH.callP rfl rfl rfl rfl rfl (fun _ _ => Tryd.call27 _ _) (fun w _ hS => (by exact rWorlds_c p w)) ?_
    refine GoH.v (Vop.bin rfl rfl rfl rfl bEq rfl) ?_
    refine GoH.regionEnd ?_
    refine GoH.cond rfl (fun hc => ?_) (fun hc => ?_)
    · -- yes
      have h2 : cnt p = 0 := by simp at hc; omega
      have h4 : p < 1 ∨ 5 < p := by
        unfold cnt at h2
        split at h2
        · cases h2
        · split at h2
          · cases h2
          · split at h2
            · cases h2
            · omega
      refine GoH.seq ?_
      refine GoH.region ?_
      refine GoH.v (Vop.asg rfl rfl rfl rfl) ?_
      refine GoH.v (Vop.asg rfl rfl rfl rfl) ?_
      refine GoH.regionEnd ?_
      refine GoH.ret Tryd.f7 Tryd.func7 rfl (fun w' hS => ?_)
      have he := axE_p (p := p) (a := i) h1 h4
      exact ⟨hS.ext, _, by rw [he]; rfl, by rw [axF_bad (by rw [he]; decide)]; exact OwnN.nil0⟩
    · -- no
      have h2 : cnt p ≠ 0 := by simp at hc; omega
      have h3 : ¬ (p < 1 ∨ 5 < p) := fun h => h2 (by unfold cnt; rw [if_neg (by omega), if_neg (by omega), if_neg (by omega)])
      refine GoH.skip ?_
      refine GoH.seq ?_
      refine GoH.seq ?_
      refine GoH.region ?_
      refine GoH.v (Vop.mv rfl rfl rfl rfl) ?_
      refine GoH.v (Vop.bin rfl rfl rfl rfl bLt rfl) ?_
      refine GoH.v (Vop.mv rfl rfl rfl rfl) ?_
      -- guard on slot 23 (ref.go:189)
      refine GoH.cases (d := 23) rfl (fun hc => ?_) (fun hc => ?_)
      · -- yes
        have h4 : i < 0 := by simpa using hc
        refine GoH.no rfl rfl rfl rfl ?_
        refine GoH.no rfl rfl rfl rfl ?_
        refine GoH.v (Vop.pickT rfl rfl rfl rfl rfl) ?_
        refine GoH.regionEnd ?_
        refine GoH.condT rfl ?_
        refine GoH.seq ?_
        refine GoH.region ?_
        refine GoH.v (Vop.asg rfl rfl rfl rfl) ?_
        refine GoH.v (Vop.asg rfl rfl rfl rfl) ?_
        refine GoH.regionEnd ?_
        refine GoH.ret Tryd.f7 Tryd.func7 rfl (fun w' hS => ?_)
        have he := axE_a (p := p) (a := i) h1 (by omega) (.inl h4)
        exact ⟨hS.ext, _, by rw [he]; rfl, by rw [axF_bad (by rw [he]; decide)]; exact OwnN.nil0⟩
      · -- no
        have h4 : ¬ i < 0 := by simpa using hc
        refine GoH.v (Vop.mv rfl rfl rfl rfl) ?_
        refine GoH.v (Vop.bin rfl rfl rfl rfl bGe rfl) ?_
        refine GoH.v (Vop.pickF rfl rfl rfl rfl rfl) ?_
        refine GoH.regionEnd ?_
        refine GoH.cond rfl (fun hc => ?_) (fun hc => ?_)
        · -- yes
          have h5 : 4 ≤ i := by simpa using hc
          refine GoH.seq ?_
          refine GoH.region ?_
          refine GoH.v (Vop.asg rfl rfl rfl rfl) ?_
          refine GoH.v (Vop.asg rfl rfl rfl rfl) ?_
          refine GoH.regionEnd ?_
          refine GoH.ret Tryd.f7 Tryd.func7 rfl (fun w' hS => ?_)
          have he := axE_a (p := p) (a := i) h1 (by omega) (.inr h5)
          exact ⟨hS.ext, _, by rw [he]; rfl, by rw [axF_bad (by rw [he]; decide)]; exact OwnN.nil0⟩
        · -- no
          have h5 : ¬ 4 ≤ i := by simpa using hc
          have hF : FmT f (topT f) := ⟨h1, rfl⟩
          have hT := hF.ok
          have hTl := hF.len
          have hTp := canT_pos (topT f)
          have h4' : 0 ≤ i := by omega
          have h5' : i < 4 := by omega
          have hE0 := axE_0 (p := p) (a := i) h1 (by omega) (by omega)
          have hax := axF_0 hE0
          refine GoH.skip ?_
          refine GoH.seq ?_
          refine GoH.region ?_
          refine GoH.v (Vop.mv rfl rfl rfl rfl) ?_
          refine GoH.callM _ rfl rfl rfl rfl rfl (fun _ _ => Tryd.call28 _ _) (fun w _ hS => (by exact rcompact_c a ca f w (ha.ex0 hS.ext) (by unfold maxLen; omega))) ?_
          rintro v w1 w2 Y' hS he ho
          rw [subF_top, compF_eq h1] at ho
          obtain ⟨q, cap, sp, rfl, hq, hcap, hS'⟩ := gainN hS he ho
          refine ⟨_, hS', ?_⟩
          -- heap: q
          refine GoH.v (Vop.asg rfl rfl rfl rfl) ?_
          refine GoH.regionEnd ?_
          refine GoH.seq ?_
          refine GoH.region ?_
          refine GoH.v (Vop.mv rfl rfl rfl rfl) ?_
          refine GoH.v (Vop.blt rfl rfl rfl (blt_len_slice Tryd.underlying24) rfl) ?_
          refine GoH.v (Vop.bin rfl rfl rfl rfl (bSub (by omega)) rfl) ?_
          refine GoH.v (Vop.asg rfl rfl rfl rfl) ?_
          refine GoH.regionEnd ?_
          refine GoH.seq ?_
          refine GoH.region ?_
          refine GoH.v (Vop.mv rfl rfl rfl rfl) ?_
          refine GoH.v (Vop.mv rfl rfl rfl rfl) ?_
          refine GoH.v (Vop.asg rfl rfl rfl rfl) ?_
          refine GoH.v (Vop.asg rfl rfl rfl rfl) ?_
          refine GoH.regionEnd ?_
          refine GoH.seq ?_
          refine GoH.seqJ (α := {z : List NV × Int × Int × Option Nat × Nat × List Value // (∃ ts, LT (z.1 ++ [im z.2.1 z.2.2.1]) (ts ++ [axT p i (topT f)])) ∧ z.1.length ≤ 63 ∧ (z.2.2.2.1 = none → z.1.length = 0 ∧ z.2.2.2.2.1 = 0) ∧ (z.1.flatMap NV.cells ++ z.2.2.2.2.2).length = z.2.2.2.2.1 * 6})
            (fun z => [(9, osv z.1.2.2.2.1 z.1.1.length z.1.2.2.2.2.1), (11, .int .i64 z.1.2.1), (12, .int .i64 z.1.2.2.1)]) (fun z => [(z.1.2.2.2.1, obN 58 z.1.1 z.1.2.2.2.2.2)]) (fun z => ?_) (fun K => ?_)
          -- at: ref.go:195
          -- heap: q
          · -- what comes behind
            obtain ⟨⟨ns, X, Y, q, cap, sp⟩, ⟨ts, hLT⟩, hnl, hq, hcap⟩ := z
            dsimp only at hLT hnl hq hcap ⊢
            have e1 : ns.flatMap NV.cells ++ NV.cells (im X Y) = (ns ++ [im X Y]).flatMap NV.cells := by rw [List.flatMap_append]; simp
            have e2 : ns.length + 1 = (ns ++ [im X Y]).length := by simp
            have hchk := hLT.chk (by simp) (by simp; omega)
            have htop := hLT.top
            refine GoH.seq ?_
            refine GoH.region ?_
            refine GoH.v (Vop.mv rfl rfl rfl rfl) ?_
            refine GoH.v (Vop.mv rfl rfl rfl rfl) ?_
            refine GoH.v (Vop.mv rfl rfl rfl rfl) ?_
            refine GoH.v (Vop.bld rfl rfl rfl rfl (bld (c := [_, _, _, _, _, _]) Tryd.underlying58 (Szs.cons Tryd.sizeOf3 (Szs.cons Tryd.sizeOf3 (Szs.cons Tryd.sizeOf3 (Szs.cons Tryd.sizeOf3 (Szs.cons Tryd.sizeOf3 (Szs.cons Tryd.sizeOf3 Szs.nil)))))) Tryd.zeroValue58 rfl)) ?_
            refine GoH.bsN (c := [_, _, _, _, _, _]) rfl rfl rfl rfl Tryd.underlying24 Tryd.sizeOf58 Tryd.zeroValue58 rfl rfl (fun b102 => ?_)
            refine GoH.app 6 (xs := ns.flatMap NV.cells) (sp := sp) (nx := ns.length) (q := q) (news := NV.cells (im X Y)) (spn := []) rfl rfl rfl rfl rfl Tryd.underlying24 hiN hzN hszN rfl hq 1 rfl 0 rfl flatN hcap rfl (by decide) (fun u hu => by
              simp only [NV.cells, List.mem_cons, List.not_mem_nil, or_false] at hu
              rcases hu with rfl | rfl | rfl | rfl | rfl | rfl <;> rfl) (by unfold maxLen; omega) (by rw [hbyN]; omega) (fun b' sp' cap' hlen => ?_)
            rw [e1] at hlen ⊢
            rw [e2]
            -- heap: b102 b'
            refine GoH.v (Vop.asg rfl rfl rfl rfl) ?_
            refine GoH.regionEnd ?_
            refine GoH.seq ?_
            refine GoH.seq ?_
            refine GoH.region ?_
            refine GoH.v (Vop.mv rfl rfl rfl rfl) ?_
            refine GoH.v (Vop.blt rfl rfl rfl (blt_len_slice Tryd.underlying24) rfl) ?_
            refine GoH.v (Vop.bin rfl rfl rfl rfl bGt rfl) ?_
            refine GoH.regionEnd ?_
            
            refine GoH.cond rfl (fun hc => by exfalso; (have := of_decide_eq_true hc; simp at this; omega)) (fun _ => ?_)
            refine GoH.skip ?_
            refine GoH.seq ?_
            refine GoH.region ?_
            refine GoH.v (Vop.mv rfl rfl rfl rfl) ?_
            refine GoH.callM _ rfl rfl rfl rfl rfl (fun _ _ => Tryd.call28 _ _) (fun w _ hS => (by exact rcompact_c (some ⟨b', 0, none⟩) cap' (ns ++ [im X Y]) w ⟨Sl.blk (hS.get (j := 1) rfl)⟩ (by unfold maxLen; simp; omega))) ?_
            rintro v w1 w2 Y' hS he ho
            rw [subF_top, compF_eq hchk, htop] at ho
            obtain ⟨qr, capr, spr, rfl, hqr, hcapr, hS'⟩ := gainN hS he ho
            refine ⟨_, hS', ?_⟩
            -- heap: qr b102 b'
            refine GoH.v (Vop.asg rfl rfl rfl rfl) ?_
            refine GoH.v (Vop.asg rfl rfl rfl rfl) ?_
            refine GoH.regionEnd ?_
            refine GoH.ret Tryd.f7 Tryd.func7 rfl (fun w' hS => ?_)
            exact ⟨hS.ext, _, by rw [hE0]; rfl, by rw [hax]; exact OwnN.mk hS 0 rfl rfl hqr hcapr⟩
          · -- the first part
            refine GoH.seq ?_
            refine GoH.region ?_
            refine GoH.v (Vop.mv rfl rfl rfl rfl) ?_
            refine GoH.regionEnd ?_
            refine GoH.block ?_
            refine GoH.seq ?_
            refine GoH.region ?_
            refine GoH.v (Vop.bin rfl rfl rfl rfl bEq rfl) ?_
            refine GoH.v (Vop.asg rfl rfl rfl rfl) ?_
            refine GoH.regionEnd ?_
            refine GoH.cond rfl (fun hc => ?_) (fun hc => ?_)
            · -- yes
              have hp1 : p = 1 := by simpa using hc
              refine GoH.seq ?_
              refine GoH.region ?_
              refine GoH.v (Vop.mv rfl rfl rfl rfl) ?_
              refine GoH.v (Vop.mv rfl rfl rfl rfl) ?_
              refine GoH.v (Vop.mv rfl rfl rfl rfl) ?_
              refine GoH.callS (h := [(q, obN 58 (canT (topT f)) sp)]) (hF := []) (fs := []) (cs := []) (fun _ v h' => ∃ b' cap' sp', h' = [(some b', obN 58 (canT (topT f) ++ [kn 9 i (((canT (topT f)).length : Int) - 1)]) sp')] ∧ v = osv (some b') (canT (topT f) ++ [kn 9 i (((canT (topT f)).length : Int) - 1)]).length cap' ∧ ((canT (topT f) ++ [kn 9 i (((canT (topT f)).length : Int) - 1)]).flatMap NV.cells ++ sp').length = cap' * 6) rfl rfl rfl rfl rfl (fun _ _ => Tryd.call29 _ _) (fun w1 Y' hS => ?_) (fun w1 v h1 hR => ?_)
              · exact rknow_c (q) cap (canT (topT f)) sp 9 i (((canT (topT f)).length : Int) - 1) w1 hS.has hq hcap (by omega)
              obtain ⟨b_1, cap_1, sp_1, rfl, rfl, hcap_1⟩ := hR
              -- heap: b_1
              refine GoH.v (Vop.asg rfl rfl rfl rfl) ?_
              refine GoH.regionEnd ?_
              refine GoH.seq ?_
              refine GoH.region ?_
              refine GoH.v (Vop.mv rfl rfl rfl rfl) ?_
              refine GoH.v (Vop.mv rfl rfl rfl rfl) ?_
              refine GoH.v (Vop.mv rfl rfl rfl rfl) ?_
              refine GoH.callS (h := [(some b_1, obN 58 (canT (topT f) ++ [kn 9 i (((canT (topT f)).length : Int) - 1)]) sp_1)]) (hF := []) (fs := []) (cs := []) (fun _ v h' => ∃ b' cap' sp', h' = [(some b', obN 58 (canT (topT f) ++ [kn 9 i (((canT (topT f)).length : Int) - 1)] ++ [kn 10 i (((canT (topT f)).length : Int) - 1)]) sp')] ∧ v = osv (some b') (canT (topT f) ++ [kn 9 i (((canT (topT f)).length : Int) - 1)] ++ [kn 10 i (((canT (topT f)).length : Int) - 1)]).length cap' ∧ ((canT (topT f) ++ [kn 9 i (((canT (topT f)).length : Int) - 1)] ++ [kn 10 i (((canT (topT f)).length : Int) - 1)]).flatMap NV.cells ++ sp').length = cap' * 6) rfl rfl rfl rfl rfl (fun _ _ => Tryd.call29 _ _) (fun w1 Y' hS => ?_) (fun w1 v h1 hR => ?_)
              · exact rknow_c (some b_1) cap_1 (canT (topT f) ++ [kn 9 i (((canT (topT f)).length : Int) - 1)]) sp_1 10 i (((canT (topT f)).length : Int) - 1) w1 hS.has (fun e => by cases e) hcap_1 (by simp only [List.length_append, List.length_singleton]; omega)
              obtain ⟨b_2, cap_2, sp_2, rfl, rfl, hcap_2⟩ := hR
              -- heap: b_2
              refine GoH.v (Vop.asg rfl rfl rfl rfl) ?_
              refine GoH.regionEnd ?_
              refine GoH.region ?_
              refine GoH.v (Vop.mv rfl rfl rfl rfl) ?_
              refine GoH.v (Vop.bin rfl rfl rfl rfl (bAdd (by omega)) rfl) ?_
              refine GoH.v (Vop.mv rfl rfl rfl rfl) ?_
              refine GoH.v (Vop.bin rfl rfl rfl rfl (bAdd (by omega)) rfl) ?_
              refine GoH.v (Vop.asg rfl rfl rfl rfl) ?_
              refine GoH.v (Vop.asg rfl rfl rfl rfl) ?_
              refine GoH.regionEnd ?_
              refine GoH.inBlock ?_
              exact K ⟨(canT (topT f) ++ [kn 9 i (((canT (topT f)).length : Int) - 1)] ++ [kn 10 i (((canT (topT f)).length : Int) - 1)], ((canT (topT f)).length : Int) - 1 + 1, ((canT (topT f)).length : Int) - 1 + 2, some b_2, cap_2, sp_2), ⟨_, by subst hp1; exact rax1 hT h4' h5' rfl rfl rfl⟩, by simp; omega, (fun e => by cases e), hcap_2⟩ _ _ (by repeat (first | exact SubF.nil | refine SubF.cons rfl ?_)) (fun _ _ hS => hS)
            · -- no
              have hp1 : p ≠ 1 := by simpa using hc
              refine GoH.seq ?_
              refine GoH.region ?_
              refine GoH.v (Vop.bin rfl rfl rfl rfl bEq rfl) ?_
              refine GoH.v (Vop.asg rfl rfl rfl rfl) ?_
              refine GoH.regionEnd ?_
              refine GoH.cond rfl (fun hc => ?_) (fun hc => ?_)
              · -- yes
                have hp2 : p = 2 := by simpa using hc
                refine GoH.seq ?_
                refine GoH.region ?_
                refine GoH.v (Vop.mv rfl rfl rfl rfl) ?_
                refine GoH.v (Vop.mv rfl rfl rfl rfl) ?_
                refine GoH.v (Vop.mv rfl rfl rfl rfl) ?_
                refine GoH.callS (h := [(q, obN 58 (canT (topT f)) sp)]) (hF := []) (fs := []) (cs := []) (fun _ v h' => ∃ b' cap' sp', h' = [(some b', obN 58 (canT (topT f) ++ [kn 9 i (((canT (topT f)).length : Int) - 1)]) sp')] ∧ v = osv (some b') (canT (topT f) ++ [kn 9 i (((canT (topT f)).length : Int) - 1)]).length cap' ∧ ((canT (topT f) ++ [kn 9 i (((canT (topT f)).length : Int) - 1)]).flatMap NV.cells ++ sp').length = cap' * 6) rfl rfl rfl rfl rfl (fun _ _ => Tryd.call29 _ _) (fun w1 Y' hS => ?_) (fun w1 v h1 hR => ?_)
                · exact rknow_c (q) cap (canT (topT f)) sp 9 i (((canT (topT f)).length : Int) - 1) w1 hS.has hq hcap (by omega)
                obtain ⟨b_3, cap_3, sp_3, rfl, rfl, hcap_3⟩ := hR
                -- heap: b_3
                refine GoH.v (Vop.asg rfl rfl rfl rfl) ?_
                refine GoH.regionEnd ?_
                refine GoH.region ?_
                refine GoH.v (Vop.mv rfl rfl rfl rfl) ?_
                refine GoH.v (Vop.bin rfl rfl rfl rfl (bAdd (by omega)) rfl) ?_
                refine GoH.v (Vop.asg rfl rfl rfl rfl) ?_
                refine GoH.regionEnd ?_
                refine GoH.inBlock ?_
                exact K ⟨(canT (topT f) ++ [kn 9 i (((canT (topT f)).length : Int) - 1)], ((canT (topT f)).length : Int) - 1 + 1, ((canT (topT f)).length : Int) - 1, some b_3, cap_3, sp_3), ⟨_, by subst hp2; exact rax2 hT h4' h5' rfl rfl⟩, by simp; omega, (fun e => by cases e), hcap_3⟩ _ _ (by repeat (first | exact SubF.nil | refine SubF.cons rfl ?_)) (fun _ _ hS => hS)
              · -- no
                have hp2 : p ≠ 2 := by simpa using hc
                refine GoH.seq ?_
                refine GoH.region ?_
                refine GoH.v (Vop.bin rfl rfl rfl rfl bEq rfl) ?_
                refine GoH.v (Vop.asg rfl rfl rfl rfl) ?_
                refine GoH.regionEnd ?_
                refine GoH.cond rfl (fun hc => ?_) (fun hc => ?_)
                · -- yes
                  have hp3 : p = 3 := by simpa using hc
                  refine GoH.seq ?_
                  refine GoH.region ?_
                  refine GoH.v (Vop.mv rfl rfl rfl rfl) ?_
                  refine GoH.v (Vop.mv rfl rfl rfl rfl) ?_
                  refine GoH.v (Vop.mv rfl rfl rfl rfl) ?_
                  refine GoH.callS (h := [(q, obN 58 (canT (topT f)) sp)]) (hF := []) (fs := []) (cs := []) (fun _ v h' => ∃ b' cap' sp', h' = [(some b', obN 58 (canT (topT f) ++ [kn 10 i (((canT (topT f)).length : Int) - 1)]) sp')] ∧ v = osv (some b') (canT (topT f) ++ [kn 10 i (((canT (topT f)).length : Int) - 1)]).length cap' ∧ ((canT (topT f) ++ [kn 10 i (((canT (topT f)).length : Int) - 1)]).flatMap NV.cells ++ sp').length = cap' * 6) rfl rfl rfl rfl rfl (fun _ _ => Tryd.call29 _ _) (fun w1 Y' hS => ?_) (fun w1 v h1 hR => ?_)
                  · exact rknow_c (q) cap (canT (topT f)) sp 10 i (((canT (topT f)).length : Int) - 1) w1 hS.has hq hcap (by omega)
                  obtain ⟨b_4, cap_4, sp_4, rfl, rfl, hcap_4⟩ := hR
                  -- heap: b_4
                  refine GoH.v (Vop.asg rfl rfl rfl rfl) ?_
                  refine GoH.regionEnd ?_
                  refine GoH.seq ?_
                  refine GoH.region ?_
                  refine GoH.v (Vop.mv rfl rfl rfl rfl) ?_
                  refine GoH.v (Vop.mv rfl rfl rfl rfl) ?_
                  refine GoH.v (Vop.mv rfl rfl rfl rfl) ?_
                  refine GoH.v (Vop.bin rfl rfl rfl rfl (bAdd (by omega)) rfl) ?_
                  refine GoH.callS (h := [(some b_4, obN 58 (canT (topT f) ++ [kn 10 i (((canT (topT f)).length : Int) - 1)]) sp_4)]) (hF := []) (fs := []) (cs := []) (fun _ v h' => ∃ b' cap' sp', h' = [(some b', obN 58 (canT (topT f) ++ [kn 10 i (((canT (topT f)).length : Int) - 1)] ++ [kn 9 i (((canT (topT f)).length : Int) - 1 + 1)]) sp')] ∧ v = osv (some b') (canT (topT f) ++ [kn 10 i (((canT (topT f)).length : Int) - 1)] ++ [kn 9 i (((canT (topT f)).length : Int) - 1 + 1)]).length cap' ∧ ((canT (topT f) ++ [kn 10 i (((canT (topT f)).length : Int) - 1)] ++ [kn 9 i (((canT (topT f)).length : Int) - 1 + 1)]).flatMap NV.cells ++ sp').length = cap' * 6) rfl rfl rfl rfl rfl (fun _ _ => Tryd.call29 _ _) (fun w1 Y' hS => ?_) (fun w1 v h1 hR => ?_)
                  · exact rknow_c (some b_4) cap_4 (canT (topT f) ++ [kn 10 i (((canT (topT f)).length : Int) - 1)]) sp_4 9 i (((canT (topT f)).length : Int) - 1 + 1) w1 hS.has (fun e => by cases e) hcap_4 (by simp only [List.length_append, List.length_singleton]; omega)
                  obtain ⟨b_5, cap_5, sp_5, rfl, rfl, hcap_5⟩ := hR
                  -- heap: b_5
                  refine GoH.v (Vop.asg rfl rfl rfl rfl) ?_
                  refine GoH.regionEnd ?_
                  refine GoH.region ?_
                  refine GoH.v (Vop.mv rfl rfl rfl rfl) ?_
                  refine GoH.v (Vop.bin rfl rfl rfl rfl (bAdd (by omega)) rfl) ?_
                  refine GoH.v (Vop.asg rfl rfl rfl rfl) ?_
                  refine GoH.regionEnd ?_
                  refine GoH.inBlock ?_
                  exact K ⟨(canT (topT f) ++ [kn 10 i (((canT (topT f)).length : Int) - 1)] ++ [kn 9 i (((canT (topT f)).length : Int) - 1 + 1)], ((canT (topT f)).length : Int) - 1, ((canT (topT f)).length : Int) - 1 + 2, some b_5, cap_5, sp_5), ⟨_, by subst hp3; exact rax3 hT h4' h5' rfl rfl rfl⟩, by simp; omega, (fun e => by cases e), hcap_5⟩ _ _ (by repeat (first | exact SubF.nil | refine SubF.cons rfl ?_)) (fun _ _ hS => hS)
                · -- no
                  have hp3 : p ≠ 3 := by simpa using hc
                  refine GoH.seq ?_
                  refine GoH.region ?_
                  refine GoH.v (Vop.bin rfl rfl rfl rfl bEq rfl) ?_
                  refine GoH.v (Vop.asg rfl rfl rfl rfl) ?_
                  refine GoH.regionEnd ?_
                  refine GoH.cond rfl (fun hc => ?_) (fun hc => ?_)
                  · -- yes
                    have hp4 : p = 4 := by simpa using hc
                    refine GoH.seq ?_
                    refine GoH.region ?_
                    refine GoH.v (Vop.mv rfl rfl rfl rfl) ?_
                    refine GoH.v (Vop.mv rfl rfl rfl rfl) ?_
                    refine GoH.v (Vop.mv rfl rfl rfl rfl) ?_
                    refine GoH.callS (h := [(q, obN 58 (canT (topT f)) sp)]) (hF := []) (fs := []) (cs := []) (fun _ v h' => ∃ b' cap' sp', h' = [(some b', obN 58 (canT (topT f) ++ [kn 9 i (((canT (topT f)).length : Int) - 1)]) sp')] ∧ v = osv (some b') (canT (topT f) ++ [kn 9 i (((canT (topT f)).length : Int) - 1)]).length cap' ∧ ((canT (topT f) ++ [kn 9 i (((canT (topT f)).length : Int) - 1)]).flatMap NV.cells ++ sp').length = cap' * 6) rfl rfl rfl rfl rfl (fun _ _ => Tryd.call29 _ _) (fun w1 Y' hS => ?_) (fun w1 v h1 hR => ?_)
                    · exact rknow_c (q) cap (canT (topT f)) sp 9 i (((canT (topT f)).length : Int) - 1) w1 hS.has hq hcap (by omega)
                    obtain ⟨b_6, cap_6, sp_6, rfl, rfl, hcap_6⟩ := hR
                    -- heap: b_6
                    refine GoH.v (Vop.asg rfl rfl rfl rfl) ?_
                    refine GoH.regionEnd ?_
                    refine GoH.seq ?_
                    refine GoH.region ?_
                    refine GoH.v (Vop.mv rfl rfl rfl rfl) ?_
                    refine GoH.v (Vop.mv rfl rfl rfl rfl) ?_
                    refine GoH.v (Vop.mv rfl rfl rfl rfl) ?_
                    refine GoH.v (Vop.bin rfl rfl rfl rfl (bAdd (by omega)) rfl) ?_
                    refine GoH.callS (h := [(some b_6, obN 58 (canT (topT f) ++ [kn 9 i (((canT (topT f)).length : Int) - 1)]) sp_6)]) (hF := []) (fs := []) (cs := []) (fun _ v h' => ∃ b' cap' sp', h' = [(some b', obN 58 (canT (topT f) ++ [kn 9 i (((canT (topT f)).length : Int) - 1)] ++ [kn 9 i (((canT (topT f)).length : Int) - 1 + 1)]) sp')] ∧ v = osv (some b') (canT (topT f) ++ [kn 9 i (((canT (topT f)).length : Int) - 1)] ++ [kn 9 i (((canT (topT f)).length : Int) - 1 + 1)]).length cap' ∧ ((canT (topT f) ++ [kn 9 i (((canT (topT f)).length : Int) - 1)] ++ [kn 9 i (((canT (topT f)).length : Int) - 1 + 1)]).flatMap NV.cells ++ sp').length = cap' * 6) rfl rfl rfl rfl rfl (fun _ _ => Tryd.call29 _ _) (fun w1 Y' hS => ?_) (fun w1 v h1 hR => ?_)
                    · exact rknow_c (some b_6) cap_6 (canT (topT f) ++ [kn 9 i (((canT (topT f)).length : Int) - 1)]) sp_6 9 i (((canT (topT f)).length : Int) - 1 + 1) w1 hS.has (fun e => by cases e) hcap_6 (by simp only [List.length_append, List.length_singleton]; omega)
                    obtain ⟨b_7, cap_7, sp_7, rfl, rfl, hcap_7⟩ := hR
                    -- heap: b_7
                    refine GoH.v (Vop.asg rfl rfl rfl rfl) ?_
                    refine GoH.regionEnd ?_
                    refine GoH.region ?_
                    refine GoH.v (Vop.mv rfl rfl rfl rfl) ?_
                    refine GoH.v (Vop.bin rfl rfl rfl rfl (bAdd (by omega)) rfl) ?_
                    refine GoH.v (Vop.mv rfl rfl rfl rfl) ?_
                    refine GoH.v (Vop.bin rfl rfl rfl rfl (bAdd (by omega)) rfl) ?_
                    refine GoH.v (Vop.asg rfl rfl rfl rfl) ?_
                    refine GoH.v (Vop.asg rfl rfl rfl rfl) ?_
                    refine GoH.regionEnd ?_
                    refine GoH.inBlock ?_
                    exact K ⟨(canT (topT f) ++ [kn 9 i (((canT (topT f)).length : Int) - 1)] ++ [kn 9 i (((canT (topT f)).length : Int) - 1 + 1)], ((canT (topT f)).length : Int) - 1 + 1, ((canT (topT f)).length : Int) - 1 + 2, some b_7, cap_7, sp_7), ⟨_, by subst hp4; exact rax4 hT h4' h5' rfl rfl rfl⟩, by simp; omega, (fun e => by cases e), hcap_7⟩ _ _ (by repeat (first | exact SubF.nil | refine SubF.cons rfl ?_)) (fun _ _ hS => hS)
                  · -- no
                    have hp4 : p ≠ 4 := by simpa using hc
                    refine GoH.seq ?_
                    refine GoH.region ?_
                    refine GoH.v (Vop.mv rfl rfl rfl rfl) ?_
                    refine GoH.v (Vop.mv rfl rfl rfl rfl) ?_
                    refine GoH.v (Vop.mv rfl rfl rfl rfl) ?_
                    refine GoH.callS (h := [(q, obN 58 (canT (topT f)) sp)]) (hF := []) (fs := []) (cs := []) (fun _ v h' => ∃ b' cap' sp', h' = [(some b', obN 58 (canT (topT f) ++ [kn 10 i (((canT (topT f)).length : Int) - 1)]) sp')] ∧ v = osv (some b') (canT (topT f) ++ [kn 10 i (((canT (topT f)).length : Int) - 1)]).length cap' ∧ ((canT (topT f) ++ [kn 10 i (((canT (topT f)).length : Int) - 1)]).flatMap NV.cells ++ sp').length = cap' * 6) rfl rfl rfl rfl rfl (fun _ _ => Tryd.call29 _ _) (fun w1 Y' hS => ?_) (fun w1 v h1 hR => ?_)
                    · exact rknow_c (q) cap (canT (topT f)) sp 10 i (((canT (topT f)).length : Int) - 1) w1 hS.has hq hcap (by omega)
                    obtain ⟨b_8, cap_8, sp_8, rfl, rfl, hcap_8⟩ := hR
                    -- heap: b_8
                    refine GoH.v (Vop.asg rfl rfl rfl rfl) ?_
                    refine GoH.regionEnd ?_
                    refine GoH.seq ?_
                    refine GoH.region ?_
                    refine GoH.v (Vop.mv rfl rfl rfl rfl) ?_
                    refine GoH.v (Vop.mv rfl rfl rfl rfl) ?_
                    refine GoH.v (Vop.mv rfl rfl rfl rfl) ?_
                    refine GoH.v (Vop.bin rfl rfl rfl rfl (bAdd (by omega)) rfl) ?_
                    refine GoH.callS (h := [(some b_8, obN 58 (canT (topT f) ++ [kn 10 i (((canT (topT f)).length : Int) - 1)]) sp_8)]) (hF := []) (fs := []) (cs := []) (fun _ v h' => ∃ b' cap' sp', h' = [(some b', obN 58 (canT (topT f) ++ [kn 10 i (((canT (topT f)).length : Int) - 1)] ++ [kn 9 i (((canT (topT f)).length : Int) - 1 + 1)]) sp')] ∧ v = osv (some b') (canT (topT f) ++ [kn 10 i (((canT (topT f)).length : Int) - 1)] ++ [kn 9 i (((canT (topT f)).length : Int) - 1 + 1)]).length cap' ∧ ((canT (topT f) ++ [kn 10 i (((canT (topT f)).length : Int) - 1)] ++ [kn 9 i (((canT (topT f)).length : Int) - 1 + 1)]).flatMap NV.cells ++ sp').length = cap' * 6) rfl rfl rfl rfl rfl (fun _ _ => Tryd.call29 _ _) (fun w1 Y' hS => ?_) (fun w1 v h1 hR => ?_)
                    · exact rknow_c (some b_8) cap_8 (canT (topT f) ++ [kn 10 i (((canT (topT f)).length : Int) - 1)]) sp_8 9 i (((canT (topT f)).length : Int) - 1 + 1) w1 hS.has (fun e => by cases e) hcap_8 (by simp only [List.length_append, List.length_singleton]; omega)
                    obtain ⟨b_9, cap_9, sp_9, rfl, rfl, hcap_9⟩ := hR
                    -- heap: b_9
                    refine GoH.v (Vop.asg rfl rfl rfl rfl) ?_
                    refine GoH.regionEnd ?_
                    refine GoH.region ?_
                    refine GoH.v (Vop.mv rfl rfl rfl rfl) ?_
                    refine GoH.v (Vop.bin rfl rfl rfl rfl (bAdd (by omega)) rfl) ?_
                    refine GoH.v (Vop.mv rfl rfl rfl rfl) ?_
                    refine GoH.v (Vop.bin rfl rfl rfl rfl (bAdd (by omega)) rfl) ?_
                    refine GoH.v (Vop.asg rfl rfl rfl rfl) ?_
                    refine GoH.v (Vop.asg rfl rfl rfl rfl) ?_
                    refine GoH.regionEnd ?_
                    refine GoH.inBlock ?_
                    exact K ⟨(canT (topT f) ++ [kn 10 i (((canT (topT f)).length : Int) - 1)] ++ [kn 9 i (((canT (topT f)).length : Int) - 1 + 1)], ((canT (topT f)).length : Int) - 1 + 1, ((canT (topT f)).length : Int) - 1 + 2, some b_9, cap_9, sp_9), ⟨_, rax5 hT h4' h5' hp1 hp2 hp3 hp4 rfl rfl rfl⟩, by simp; omega, (fun e => by cases e), hcap_9⟩ _ _ (by repeat (first | exact SubF.nil | refine SubF.cons rfl ?_)) (fun _ _ hS => hS)
end Go.Proofs.YtbjopkllkoomkaaDoor
