/- Contracts of functions of the program: what each call returns and that nothing else of memory is turned, under the conditions that each theorem states. -/
import Derived.Test.YtoiafcoaeomnlaaDoorR2
namespace Go.Proofs.YtoiafcoaeomnlaaDoor
open Go.RowKit Go.Proofs.Wit
/-! the reference, 3 -/
theorem rTransitive_c (a : Option Addr) (ca : Nat) (r : List W64) (w : World) (ha : SlU w a r) (hl : r.length ≤ maxLen) :
    Cn Tryd.prog 32 [.slice a r.length ca] w (fun v w' => ∃ p, OwnE w w' v p ∧ Grown tranR r p) := by
  refine Cn.of Tryd.func32 rfl rfl ?_
  refine GoH.seq ?_
  refine GoH.region ?_
  refine GoH.v (Vop.asg rfl rfl rfl rfl) ?_
  refine GoH.v (Vop.asg rfl rfl rfl rfl) ?_
  refine GoH.regionEnd ?_
  refine GoH.seq ?_
  refine GoH.seq ?_
  refine GoH.region ?_
  refine GoH.v (Vop.mv rfl rfl rfl rfl) ?_
  refine GoH.v (Vop.blt rfl rfl rfl (blt_len_slice Tryd.underlying22) rfl) ?_
  refine GoH.v (Vop.mv rfl rfl rfl rfl) ?_
  refine GoH.callP rfl rfl rfl rfl rfl (fun _ _ => Tryd.call14 _ _) (fun w _ hS => rCheck_c _ a ca r w (ha.ex0 hS.ext) hl) ?_
  refine GoH.v (Vop.asg rfl rfl rfl rfl) ?_
  refine GoH.regionEnd ?_
  refine GoH.seq ?_
  refine GoH.region ?_
  refine GoH.v (Vop.mv rfl rfl rfl rfl) ?_
  refine GoH.v (Vop.bin rfl rfl rfl rfl bNe rfl) ?_
  refine GoH.regionEnd ?_
  refine GoH.cond rfl (fun hc => ?_) (fun hc => ?_)
  · -- yes
    have h1 : checkR r.length r ≠ 0 := by simpa using hc
    refine GoH.seq ?_
    refine GoH.region ?_
    refine GoH.v (Vop.mv rfl rfl rfl rfl) ?_
    refine GoH.v (Vop.asg rfl rfl rfl rfl) ?_
    refine GoH.v (Vop.asg rfl rfl rfl rfl) ?_
    refine GoH.regionEnd ?_
    refine GoH.ret Tryd.f32 Tryd.func32 rfl (fun w' hS => ?_)
    exact ⟨hS.ext, ([], checkR r.length r), ⟨_, rfl, own_nil _ _⟩, by rw [Grown, if_pos h1]⟩
  · -- no
    have h1 : ¬ checkR r.length r ≠ 0 := by simpa using hc
    have hv := check_zero.1 (by simpa using h1)
    refine GoH.skip ?_
    refine GoH.seq ?_
    refine GoH.region ?_
    refine GoH.v (Vop.mv rfl rfl rfl rfl) ?_
    refine GoH.callM _ rfl rfl rfl rfl rfl (fun _ _ => Tryd.call57 _ _) (fun w _ hS => rGrow_c a ca r false w (ha.ex0 hS.ext) hv) ?_
    rintro v w1 w2 Y' hS he ⟨out, ho, hlst⟩
    obtain ⟨q, cap, sp, rfl, hq, hcap, hS'⟩ := gainO hS he ho
    refine ⟨_, hS', ?_⟩
    -- heap: q
    refine GoH.v (Vop.asg rfl rfl rfl rfl) ?_
    refine GoH.v (Vop.asg rfl rfl rfl rfl) ?_
    refine GoH.regionEnd ?_
    refine GoH.ret Tryd.f32 Tryd.func32 rfl (fun w' hS => ?_)
    exact ⟨hS.ext, (out, 0), ⟨_, rfl, ownAt hS 0 rfl rfl hq hcap⟩, by rw [Grown, if_neg h1]; exact ⟨rfl, hlst⟩⟩
theorem rEuclidean_c (a : Option Addr) (ca : Nat) (r : List W64) (w : World) (ha : SlU w a r) (hl : r.length ≤ maxLen) :
    Cn Tryd.prog 33 [.slice a r.length ca] w (fun v w' => ∃ p, OwnE w w' v p ∧ Grown euclR r p) := by
  refine Cn.of Tryd.func33 rfl rfl ?_
  refine GoH.seq ?_
  refine GoH.region ?_
  refine GoH.v (Vop.asg rfl rfl rfl rfl) ?_
  refine GoH.v (Vop.asg rfl rfl rfl rfl) ?_
  refine GoH.regionEnd ?_
  refine GoH.seq ?_
  refine GoH.seq ?_
  refine GoH.region ?_
  refine GoH.v (Vop.mv rfl rfl rfl rfl) ?_
  refine GoH.v (Vop.blt rfl rfl rfl (blt_len_slice Tryd.underlying22) rfl) ?_
  refine GoH.v (Vop.mv rfl rfl rfl rfl) ?_
  refine GoH.callP rfl rfl rfl rfl rfl (fun _ _ => Tryd.call14 _ _) (fun w _ hS => rCheck_c _ a ca r w (ha.ex0 hS.ext) hl) ?_
  refine GoH.v (Vop.asg rfl rfl rfl rfl) ?_
  refine GoH.regionEnd ?_
  refine GoH.seq ?_
  refine GoH.region ?_
  refine GoH.v (Vop.mv rfl rfl rfl rfl) ?_
  refine GoH.v (Vop.bin rfl rfl rfl rfl bNe rfl) ?_
  refine GoH.regionEnd ?_
  refine GoH.cond rfl (fun hc => ?_) (fun hc => ?_)
  · -- yes
    have h1 : checkR r.length r ≠ 0 := by simpa using hc
    refine GoH.seq ?_
    refine GoH.region ?_
    refine GoH.v (Vop.mv rfl rfl rfl rfl) ?_
    refine GoH.v (Vop.asg rfl rfl rfl rfl) ?_
    refine GoH.v (Vop.asg rfl rfl rfl rfl) ?_
    refine GoH.regionEnd ?_
    refine GoH.ret Tryd.f33 Tryd.func33 rfl (fun w' hS => ?_)
    exact ⟨hS.ext, ([], checkR r.length r), ⟨_, rfl, own_nil _ _⟩, by rw [Grown, if_pos h1]⟩
  · -- no
    have h1 : ¬ checkR r.length r ≠ 0 := by simpa using hc
    have hv := check_zero.1 (by simpa using h1)
    refine GoH.skip ?_
    refine GoH.seq ?_
    refine GoH.region ?_
    refine GoH.v (Vop.mv rfl rfl rfl rfl) ?_
    refine GoH.callM _ rfl rfl rfl rfl rfl (fun _ _ => Tryd.call57 _ _) (fun w _ hS => rGrow_c a ca r true w (ha.ex0 hS.ext) hv) ?_
    rintro v w1 w2 Y' hS he ⟨out, ho, hlst⟩
    obtain ⟨q, cap, sp, rfl, hq, hcap, hS'⟩ := gainO hS he ho
    refine ⟨_, hS', ?_⟩
    -- heap: q
    refine GoH.v (Vop.asg rfl rfl rfl rfl) ?_
    refine GoH.v (Vop.asg rfl rfl rfl rfl) ?_
    refine GoH.regionEnd ?_
    refine GoH.ret Tryd.f33 Tryd.func33 rfl (fun w' hS => ?_)
    exact ⟨hS.ext, (out, 0), ⟨_, rfl, ownAt hS 0 rfl rfl hq hcap⟩, by rw [Grown, if_neg h1]; exact ⟨rfl, hlst⟩⟩
theorem rHas_c (a : Option Addr) (ca : Nat) (r : List W64) (p : Int) (w : World) (ha : SlU w a r) (hl : r.length ≤ maxLen) :
    Cn Tryd.prog 16 [.slice a r.length ca, .int .i64 p] w (fun v _ => v = .bool (hasB r p)) := by
  obtain ⟨i0, hi, hz, hsz, hby⟩ := info_parts infoU
  refine Cn.of Tryd.func16 rfl rfl ?_
  refine GoH.seq ?_
  refine GoH.region ?_
  refine GoH.v (Vop.asg rfl rfl rfl rfl) ?_
  refine GoH.regionEnd ?_
  refine GoH.seq ?_
  refine GoH.seq ?_
  refine GoH.region ?_
  refine GoH.v (Vop.mv rfl rfl rfl rfl) ?_
  refine GoH.callP rfl rfl rfl rfl rfl (fun _ _ => Tryd.call51 _ _) (fun w _ hS => rValid_c a ca r w (ha.ex0 hS.ext) hl) ?_
  refine GoH.v (Vop.un rfl rfl rfl uNot rfl) ?_
  refine GoH.regionEnd ?_
  refine GoH.cond rfl (fun hc => ?_) (fun hc => ?_)
  · -- yes
    have h1 : checkR r.length r ≠ 0 := by simpa using hc
    refine GoH.seq ?_
    refine GoH.region ?_
    refine GoH.v (Vop.asg rfl rfl rfl rfl) ?_
    refine GoH.regionEnd ?_
    refine GoH.ret Tryd.f16 Tryd.func16 rfl (fun w' hS => ?_)
    exact ⟨hS.ext, congrArg Value.bool (hasB_iff (by simp [HasR, h1])).symm⟩
  · -- no
    have h1 : checkR r.length r = 0 := by simpa using hc
    have hv := check_zero.1 h1
    have hlen := hv.len
    have key : ∀ {b : Bool} {F : List W64 → Prop}, PropR p r = F r → (b = true ↔ F r) → hasB r p = b := fun e h => hasB_iff (by rw [HasR, e, h]; simp [h1])
    refine GoH.skip ?_
    refine GoH.seq ?_
    refine GoH.region ?_
    refine GoH.bs0 U rfl rfl rfl Tryd.underlying22 hi (fun b0 => ?_)
    -- heap: b0
    refine GoH.v (Vop.mv rfl rfl rfl rfl) ?_
    refine GoH.appZ U r rfl rfl rfl rfl rfl Tryd.underlying22 hi hz hsz rfl 0 rfl (fun w Y' hS => ha.ex0 hS.ext) rfl rfl (fun _ => rfl) (by simp [maxLen]; omega) (by simp [hby]; omega) (fun b sp cap hcap => ?_)
    rw [List.nil_append] at *
    -- heap: b
    refine GoH.v (Vop.asg rfl rfl rfl rfl) ?_
    refine GoH.regionEnd ?_
    refine GoH.seq ?_
    refine GoH.seq ?_
    refine GoH.region ?_
    refine GoH.v (Vop.mv rfl rfl rfl rfl) ?_
    refine GoH.regionEnd ?_
    refine GoH.block ?_
    refine GoH.seq ?_
    refine GoH.region ?_
    refine GoH.v (Vop.bin rfl rfl rfl rfl bEq rfl) ?_
    refine GoH.v (Vop.asg rfl rfl rfl rfl) ?_
    refine GoH.regionEnd ?_
    refine GoH.cond rfl (fun hc => ?_) (fun hc => ?_)
    · -- yes
      have e1 : p = 1 := by simpa using hc
      subst e1
      refine GoH.seq ?_
      refine GoH.region ?_
      refine GoH.v (Vop.asg rfl rfl rfl rfl) ?_
      refine GoH.regionEnd ?_
      refine GoH.block ?_
      refine GoH.loop (σ := Nat) (fun k => [(0, .slice a r.length ca), (5, osv (some b) r.length cap), (6, .int .i64 k)]) (fun k => [(some b, ob U 27 r sp)])
        (fun k => k ≤ r.length ∧ ∀ j, j < k → r.getD j 0#64 ≠ 0#64) (fun k => r.length - k) 0 ⟨Nat.zero_le _, fun j hj => by omega⟩ ⟨rfl, rfl, rfl, trivial⟩ (List.Sublist.refl _) (fun k hI IH => ?_)
      obtain ⟨hk, hall⟩ := hI
      -- heap: b
      refine GoH.seq ?_
      refine GoH.seq ?_
      refine GoH.region ?_
      refine GoH.v (Vop.mv rfl rfl rfl rfl) ?_
      refine GoH.v (Vop.mv rfl rfl rfl rfl) ?_
      refine GoH.v (Vop.blt rfl rfl rfl (blt_len_slice Tryd.underlying22) rfl) ?_
      refine GoH.v (Vop.bin rfl rfl rfl rfl bLt rfl) ?_
      refine GoH.regionEnd ?_
      refine GoH.cond rfl (fun hc => ?_) (fun hc => ?_)
      · -- yes
        have hlt : k < r.length := by simpa using hc
        refine GoH.skip ?_
        refine GoH.seq ?_
        refine GoH.block ?_
        refine GoH.seq ?_
        refine GoH.region ?_
        refine GoH.v (Vop.mv rfl rfl rfl rfl) ?_
        refine GoH.v (Vop.mv rfl rfl rfl rfl) ?_
        refine GoH.v (Vop.idx rfl rfl rfl rfl rfl Tryd.underlying22 Tryd.sizeOf27 ⟨_, ha⟩ (by simp) (k) ⟨rfl, by simpa using hlt⟩) ?_
        refine GoH.v (Vop.ld rfl rfl rfl rfl Tryd.isAgg27 (fun w _ hS => (SlU.ex0 ha hS.ext).at (k) hlt)) ?_
        refine GoH.v (Vop.bin (b := U 0#64) rfl rfl rfl rfl bEqU rfl) ?_
        refine GoH.regionEnd ?_
        refine GoH.cond rfl (fun hc => ?_) (fun hc => ?_)
        · -- yes
          refine GoH.seq ?_
          refine GoH.region ?_
          refine GoH.v (Vop.asg rfl rfl rfl rfl) ?_
          refine GoH.regionEnd ?_
          refine GoH.ret Tryd.f16 Tryd.func16 rfl (fun w' hS => ?_)
          exact ⟨hS.ext, congrArg Value.bool (key (b := false) (F := serR) (by simp [PropR]) ⟨fun h => (by cases h), fun h => by
          exfalso; apply h
          rw [← show r.getD k 0#64 = 0#64 from by simpa using hc, List.getD_eq_getElem?_getD, List.getElem?_eq_getElem hlt]
          exact List.getElem_mem hlt⟩).symm⟩
        · -- no
          refine GoH.skip ?_
          refine GoH.inBlock ?_
          refine GoH.region ?_
          refine GoH.v (Vop.mv rfl rfl rfl rfl) ?_
          refine GoH.v (Vop.bin rfl rfl rfl rfl (bAdd (by omega)) rfl) ?_
          refine GoH.v (Vop.asg rfl rfl rfl rfl) ?_
          refine GoH.regionEnd ?_
          exact IH (k + 1) _ _ ⟨hlt, fun j hj => by
          by_cases e : j = k
          · subst e; simpa using hc
          · exact hall j (by omega)⟩ (by omega) ⟨rfl, rfl, rfl, trivial⟩ (List.Sublist.refl _)
      · -- no
        have hge : ¬ k < r.length := by simpa using hc
        obtain rfl : k = r.length := by omega
        refine GoH.exit rfl ?_
        refine GoH.inBlock ?_
        refine GoH.seq ?_
        refine GoH.region ?_
        refine GoH.v (Vop.mv rfl rfl rfl rfl) ?_
        refine GoH.v (Vop.mv rfl rfl rfl rfl) ?_
        refine GoH.callP rfl rfl rfl rfl rfl (fun _ _ => Tryd.call28 _ _) (fun w _ hS => rSame_c (some ⟨b, 0, none⟩) cap r a ca r w (sluAt (q := some b) (c := cap) hS 0 rfl (fun h => by cases h)) (ha.ex0 hS.ext) hl) ?_
        refine GoH.v (Vop.asg rfl rfl rfl rfl) ?_
        refine GoH.regionEnd ?_
        refine GoH.ret Tryd.f16 Tryd.func16 rfl (fun w' hS => ?_)
        exact ⟨hS.ext, congrArg Value.bool (key (b := r == r) (F := serR) (by simp [PropR]) (by
        simp only [beq_self_eq_true, true_iff]
        intro h
        obtain ⟨j, hj, e⟩ := List.mem_iff_getElem.1 h
        exact hall j hj (by rw [List.getD_eq_getElem?_getD, List.getElem?_eq_getElem hj, Option.getD_some, e]))).symm⟩
    · -- no
      have e1 : p ≠ 1 := by simpa using hc
      refine GoH.seq ?_
      refine GoH.region ?_
      refine GoH.v (Vop.bin rfl rfl rfl rfl bEq rfl) ?_
      refine GoH.v (Vop.asg rfl rfl rfl rfl) ?_
      refine GoH.regionEnd ?_
      refine GoH.cond rfl (fun hc => ?_) (fun hc => ?_)
      · -- yes
        have e2 : p = 2 := by simpa using hc
        subst e2
        refine GoH.region ?_
        refine GoH.v (Vop.mv rfl rfl rfl rfl) ?_
        refine GoH.callM _ rfl rfl rfl rfl rfl (fun _ _ => Tryd.call30 _ _) (fun w _ hS => rReflexive_c a ca r w (ha.ex0 hS.ext) hl) ?_
        rintro v w1 w2 Y' hS he ⟨⟨out, e⟩, ⟨sv, rfl, ho⟩, hg⟩
        rw [Grown, if_neg (by simp [h1])] at hg
        obtain ⟨he0, hlst⟩ := hg
        obtain ⟨q, cap2, sp2, rfl, hq, hcap2, hS'⟩ := gainO hS he ho
        refine ⟨_, hS', ?_⟩
        -- heap: q b
        refine GoH.v (Vop.mv rfl rfl rfl rfl) ?_
        refine GoH.v (Vop.ext rfl rfl rfl rfl rfl) ?_
        refine GoH.v (Vop.ext rfl rfl rfl rfl rfl) ?_
        refine GoH.v (Vop.asg rfl rfl rfl rfl) ?_
        refine GoH.regionEnd ?_
        refine GoH.inBlock ?_
        refine GoH.seq ?_
        refine GoH.region ?_
        refine GoH.v (Vop.mv rfl rfl rfl rfl) ?_
        refine GoH.v (Vop.mv rfl rfl rfl rfl) ?_
        refine GoH.callP rfl rfl rfl rfl rfl (fun _ _ => Tryd.call28 _ _) (fun w _ hS => rSame_c (q.map (fun b => ⟨b, 0, none⟩)) cap2 out a ca r w (sluAt hS 0 rfl hq) (ha.ex0 hS.ext) (by have h : r.length = out.length := hlst.le.len; unfold maxLen at *; omega)) ?_
        refine GoH.v (Vop.asg rfl rfl rfl rfl) ?_
        refine GoH.regionEnd ?_
        refine GoH.ret Tryd.f16 Tryd.func16 rfl (fun w' hS => ?_)
        exact ⟨hS.ext, congrArg Value.bool (key (b := out == r) (F := reflR) (by simp [PropR]) (by rw [beq_iff_eq]; exact hlst.self hv)).symm⟩
      · -- no
        have e2 : p ≠ 2 := by simpa using hc
        refine GoH.seq ?_
        refine GoH.region ?_
        refine GoH.v (Vop.bin rfl rfl rfl rfl bEq rfl) ?_
        refine GoH.v (Vop.asg rfl rfl rfl rfl) ?_
        refine GoH.regionEnd ?_
        refine GoH.cond rfl (fun hc => ?_) (fun hc => ?_)
        · -- yes
          have e3 : p = 3 := by simpa using hc
          subst e3
          refine GoH.region ?_
          refine GoH.v (Vop.mv rfl rfl rfl rfl) ?_
          refine GoH.callM _ rfl rfl rfl rfl rfl (fun _ _ => Tryd.call31 _ _) (fun w _ hS => rSymmetric_c a ca r w (ha.ex0 hS.ext) hl) ?_
          rintro v w1 w2 Y' hS he ⟨⟨out, e⟩, ⟨sv, rfl, ho⟩, hg⟩
          rw [Grown, if_neg (by simp [h1])] at hg
          obtain ⟨he0, hlst⟩ := hg
          obtain ⟨q, cap2, sp2, rfl, hq, hcap2, hS'⟩ := gainO hS he ho
          refine ⟨_, hS', ?_⟩
          -- heap: q b
          refine GoH.v (Vop.mv rfl rfl rfl rfl) ?_
          refine GoH.v (Vop.ext rfl rfl rfl rfl rfl) ?_
          refine GoH.v (Vop.ext rfl rfl rfl rfl rfl) ?_
          refine GoH.v (Vop.asg rfl rfl rfl rfl) ?_
          refine GoH.regionEnd ?_
          refine GoH.inBlock ?_
          refine GoH.seq ?_
          refine GoH.region ?_
          refine GoH.v (Vop.mv rfl rfl rfl rfl) ?_
          refine GoH.v (Vop.mv rfl rfl rfl rfl) ?_
          refine GoH.callP rfl rfl rfl rfl rfl (fun _ _ => Tryd.call28 _ _) (fun w _ hS => rSame_c (q.map (fun b => ⟨b, 0, none⟩)) cap2 out a ca r w (sluAt hS 0 rfl hq) (ha.ex0 hS.ext) (by have h : r.length = out.length := hlst.le.len; unfold maxLen at *; omega)) ?_
          refine GoH.v (Vop.asg rfl rfl rfl rfl) ?_
          refine GoH.regionEnd ?_
          refine GoH.ret Tryd.f16 Tryd.func16 rfl (fun w' hS => ?_)
          exact ⟨hS.ext, congrArg Value.bool (key (b := out == r) (F := symmR) (by simp [PropR]) (by rw [beq_iff_eq]; exact hlst.self hv)).symm⟩
        · -- no
          have e3 : p ≠ 3 := by simpa using hc
          refine GoH.seq ?_
          refine GoH.region ?_
          refine GoH.v (Vop.bin rfl rfl rfl rfl bEq rfl) ?_
          refine GoH.v (Vop.asg rfl rfl rfl rfl) ?_
          refine GoH.regionEnd ?_
          refine GoH.cond rfl (fun hc => ?_) (fun hc => ?_)
          · -- yes
            have e4 : p = 4 := by simpa using hc
            subst e4
            refine GoH.region ?_
            refine GoH.v (Vop.mv rfl rfl rfl rfl) ?_
            refine GoH.callM _ rfl rfl rfl rfl rfl (fun _ _ => Tryd.call32 _ _) (fun w _ hS => rTransitive_c a ca r w (ha.ex0 hS.ext) hl) ?_
            rintro v w1 w2 Y' hS he ⟨⟨out, e⟩, ⟨sv, rfl, ho⟩, hg⟩
            rw [Grown, if_neg (by simp [h1])] at hg
            obtain ⟨he0, hlst⟩ := hg
            obtain ⟨q, cap2, sp2, rfl, hq, hcap2, hS'⟩ := gainO hS he ho
            refine ⟨_, hS', ?_⟩
            -- heap: q b
            refine GoH.v (Vop.mv rfl rfl rfl rfl) ?_
            refine GoH.v (Vop.ext rfl rfl rfl rfl rfl) ?_
            refine GoH.v (Vop.ext rfl rfl rfl rfl rfl) ?_
            refine GoH.v (Vop.asg rfl rfl rfl rfl) ?_
            refine GoH.regionEnd ?_
            refine GoH.inBlock ?_
            refine GoH.seq ?_
            refine GoH.region ?_
            refine GoH.v (Vop.mv rfl rfl rfl rfl) ?_
            refine GoH.v (Vop.mv rfl rfl rfl rfl) ?_
            refine GoH.callP rfl rfl rfl rfl rfl (fun _ _ => Tryd.call28 _ _) (fun w _ hS => rSame_c (q.map (fun b => ⟨b, 0, none⟩)) cap2 out a ca r w (sluAt hS 0 rfl hq) (ha.ex0 hS.ext) (by have h : r.length = out.length := hlst.le.len; unfold maxLen at *; omega)) ?_
            refine GoH.v (Vop.asg rfl rfl rfl rfl) ?_
            refine GoH.regionEnd ?_
            refine GoH.ret Tryd.f16 Tryd.func16 rfl (fun w' hS => ?_)
            exact ⟨hS.ext, congrArg Value.bool (key (b := out == r) (F := tranR) (by simp [PropR]) (by rw [beq_iff_eq]; exact hlst.self hv)).symm⟩
          · -- no
            have e4 : p ≠ 4 := by simpa using hc
            refine GoH.seq ?_
            refine GoH.region ?_
            refine GoH.v (Vop.bin rfl rfl rfl rfl bEq rfl) ?_
            refine GoH.v (Vop.asg rfl rfl rfl rfl) ?_
            refine GoH.regionEnd ?_
            refine GoH.cond rfl (fun hc => ?_) (fun hc => ?_)
            · -- yes
              have e5 : p = 5 := by simpa using hc
              subst e5
              refine GoH.region ?_
              refine GoH.v (Vop.mv rfl rfl rfl rfl) ?_
              refine GoH.callM _ rfl rfl rfl rfl rfl (fun _ _ => Tryd.call33 _ _) (fun w _ hS => rEuclidean_c a ca r w (ha.ex0 hS.ext) hl) ?_
              rintro v w1 w2 Y' hS he ⟨⟨out, e⟩, ⟨sv, rfl, ho⟩, hg⟩
              rw [Grown, if_neg (by simp [h1])] at hg
              obtain ⟨he0, hlst⟩ := hg
              obtain ⟨q, cap2, sp2, rfl, hq, hcap2, hS'⟩ := gainO hS he ho
              refine ⟨_, hS', ?_⟩
              -- heap: q b
              refine GoH.v (Vop.mv rfl rfl rfl rfl) ?_
              refine GoH.v (Vop.ext rfl rfl rfl rfl rfl) ?_
              refine GoH.v (Vop.ext rfl rfl rfl rfl rfl) ?_
              refine GoH.v (Vop.asg rfl rfl rfl rfl) ?_
              refine GoH.regionEnd ?_
              refine GoH.inBlock ?_
              refine GoH.seq ?_
              refine GoH.region ?_
              refine GoH.v (Vop.mv rfl rfl rfl rfl) ?_
              refine GoH.v (Vop.mv rfl rfl rfl rfl) ?_
              refine GoH.callP rfl rfl rfl rfl rfl (fun _ _ => Tryd.call28 _ _) (fun w _ hS => rSame_c (q.map (fun b => ⟨b, 0, none⟩)) cap2 out a ca r w (sluAt hS 0 rfl hq) (ha.ex0 hS.ext) (by have h : r.length = out.length := hlst.le.len; unfold maxLen at *; omega)) ?_
              refine GoH.v (Vop.asg rfl rfl rfl rfl) ?_
              refine GoH.regionEnd ?_
              refine GoH.ret Tryd.f16 Tryd.func16 rfl (fun w' hS => ?_)
              exact ⟨hS.ext, congrArg Value.bool (key (b := out == r) (F := euclR) (by simp [PropR]) (by rw [beq_iff_eq]; exact hlst.self hv)).symm⟩
            · -- no
              have e5 : p ≠ 5 := by simpa using hc
              refine GoH.seq ?_
              refine GoH.region ?_
              refine GoH.v (Vop.asg rfl rfl rfl rfl) ?_
              refine GoH.regionEnd ?_
              refine GoH.ret Tryd.f16 Tryd.func16 rfl (fun w' hS => ?_)
              exact ⟨hS.ext, congrArg Value.bool (key (b := false) (F := fun _ => False) (by simp [PropR, e1, e2, e3, e4, e5]) (by simp)).symm⟩
theorem rBox_c (a : Option Addr) (ca : Nat) (r : List W64) (s : W64) (w : World) (ha : SlU w a r) (hl : r.length ≤ maxLen) :
    Cn Tryd.prog 18 [.slice a r.length ca, U s] w (fun v _ => v = U (boxR r s)) := by
  have hl' := hl
  unfold maxLen at hl'
  refine Cn.of Tryd.func18 rfl rfl ?_
  refine GoH.seq ?_
  refine GoH.region ?_
  refine GoH.v (Vop.asg (v := U 0#64) rfl rfl rfl rfl) ?_
  refine GoH.regionEnd ?_
  refine GoH.seq ?_
  refine GoH.region ?_
  refine GoH.v (Vop.asg (v := U 0#64) rfl rfl rfl rfl) ?_
  refine GoH.regionEnd ?_
  refine GoH.seq ?_
  refine GoH.seq ?_
  refine GoH.region ?_
  refine GoH.v (Vop.asg rfl rfl rfl rfl) ?_
  refine GoH.regionEnd ?_
  refine GoH.block ?_
  refine GoH.loop (σ := Nat) (fun k => [(0, .slice a r.length ca), (1, U s), (5, U (boxU r s k)), (6, .int .i64 k)]) (fun _ => [])
    (fun k => k ≤ r.length ∧ (checkR r.length r ≠ 0 → k = 0)) (fun k => r.length - k) 0 ⟨Nat.zero_le _, fun _ => rfl⟩ ⟨rfl, rfl, rfl, rfl, trivial⟩ .slnil (fun k hI IH => ?_)
  obtain ⟨hk, hbad⟩ := hI
  refine GoH.seq ?_
  refine GoH.seq ?_
  refine GoH.region ?_
  refine GoH.v (Vop.mv rfl rfl rfl rfl) ?_
  refine GoH.v (Vop.mv rfl rfl rfl rfl) ?_
  refine GoH.v (Vop.blt rfl rfl rfl (blt_len_slice Tryd.underlying22) rfl) ?_
  refine GoH.v (Vop.bin rfl rfl rfl rfl bLt rfl) ?_
  refine GoH.v (Vop.mv rfl rfl rfl rfl) ?_
  -- guard on slot 11 (ref.go:210)
  refine GoH.cases (d := 11) rfl (fun hc => ?_) (fun hc => ?_)
  · -- yes
    have hlt : k < r.length := by simpa using hc
    refine GoH.v (Vop.mv rfl rfl rfl rfl) ?_
    refine GoH.callP rfl rfl rfl rfl rfl (fun _ _ => Tryd.call51 _ _) (fun w _ hS => rValid_c a ca r w (ha.ex0 hS.ext) hl) ?_
    refine GoH.v (Vop.pickT rfl rfl rfl rfl rfl) ?_
    refine GoH.regionEnd ?_
    refine GoH.cond rfl (fun hc => ?_) (fun hc => ?_)
    · -- yes
      have hvl : checkR r.length r = 0 := by simpa using hc
      refine GoH.skip ?_
      refine GoH.seq ?_
      refine GoH.block ?_
      refine GoH.seq ?_
      refine GoH.region ?_
      refine GoH.v (Vop.mv rfl rfl rfl rfl) ?_
      refine GoH.v (Vop.mv rfl rfl rfl rfl) ?_
      refine GoH.v (Vop.idx rfl rfl rfl rfl rfl Tryd.underlying22 Tryd.sizeOf27 ⟨_, ha⟩ (by simp) (k) ⟨rfl, by simpa using hlt⟩) ?_
      refine GoH.v (Vop.ld rfl rfl rfl rfl Tryd.isAgg27 (fun w _ hS => (SlU.ex0 ha hS.ext).at (k) hlt)) ?_
      refine GoH.v (Vop.mv rfl rfl rfl rfl) ?_
      refine GoH.v (Vop.bin rfl rfl rfl rfl bAndNot rfl) ?_
      refine GoH.v (Vop.bin (b := U 0#64) rfl rfl rfl rfl bEqU rfl) ?_
      refine GoH.regionEnd ?_
      refine GoH.cond rfl (fun hc => ?_) (fun hc => ?_)
      · -- yes
        refine GoH.region ?_
        refine GoH.v (Vop.mv rfl rfl rfl rfl) ?_
        refine GoH.v (Vop.mv rfl rfl rfl rfl) ?_
        refine GoH.v (Vop.conv rfl rfl rfl (cInt (k := .u64) Tryd.underlying3 Tryd.underlying33 (wrapN64 (by omega))) rfl) ?_
        refine GoH.v (Vop.bin (a := U 1#64) rfl rfl rfl rfl (bShl _ rfl) rfl) ?_
        refine GoH.v (Vop.bin rfl rfl rfl rfl bOr rfl) ?_
        refine GoH.v (Vop.asg rfl rfl rfl rfl) ?_
        refine GoH.regionEnd ?_
        refine GoH.inBlock ?_
        refine GoH.region ?_
        refine GoH.v (Vop.mv rfl rfl rfl rfl) ?_
        refine GoH.v (Vop.bin rfl rfl rfl rfl (bAdd (by omega)) rfl) ?_
        refine GoH.v (Vop.asg rfl rfl rfl rfl) ?_
        refine GoH.regionEnd ?_
        exact IH (k + 1) _ _ ⟨hlt, fun h => absurd hvl h⟩ (by omega) ⟨rfl, rfl, by rw [show boxU r s (k + 1) = boxU r s k ||| 1#64 <<< k from if_pos hc]; rfl, rfl, trivial⟩ .slnil
      · -- no
        refine GoH.skip ?_
        refine GoH.inBlock ?_
        refine GoH.region ?_
        refine GoH.v (Vop.mv rfl rfl rfl rfl) ?_
        refine GoH.v (Vop.bin rfl rfl rfl rfl (bAdd (by omega)) rfl) ?_
        refine GoH.v (Vop.asg rfl rfl rfl rfl) ?_
        refine GoH.regionEnd ?_
        exact IH (k + 1) _ _ ⟨hlt, fun h => absurd hvl h⟩ (by omega) ⟨rfl, rfl, by rw [show boxU r s (k + 1) = boxU r s k from if_neg (by rw [hc]; exact Bool.false_ne_true)]; rfl, rfl, trivial⟩ .slnil
    · -- no
      have h1 : checkR r.length r ≠ 0 := by simpa using hc
      obtain rfl := hbad h1
      refine GoH.exit rfl ?_
      refine GoH.seq ?_
      refine GoH.region ?_
      refine GoH.v (Vop.mv rfl rfl rfl rfl) ?_
      refine GoH.v (Vop.asg rfl rfl rfl rfl) ?_
      refine GoH.regionEnd ?_
      refine GoH.ret Tryd.f18 Tryd.func18 rfl (fun w' hS => ?_)
      exact ⟨hS.ext, by rw [boxR, if_pos h1]; rfl⟩
  · -- no
    have hge : ¬ k < r.length := by simpa using hc
    obtain rfl : k = r.length := by omega
    refine GoH.no rfl rfl rfl rfl ?_
    refine GoH.no rfl rfl rfl rfl ?_
    refine GoH.v (Vop.pickF rfl rfl rfl rfl rfl) ?_
    refine GoH.regionEnd ?_
    refine GoH.condF rfl ?_
    refine GoH.exit rfl ?_
    refine GoH.seq ?_
    refine GoH.region ?_
    refine GoH.v (Vop.mv rfl rfl rfl rfl) ?_
    refine GoH.v (Vop.asg rfl rfl rfl rfl) ?_
    refine GoH.regionEnd ?_
    refine GoH.ret Tryd.f18 Tryd.func18 rfl (fun w' hS => ?_)
    refine ⟨hS.ext, ?_⟩
    by_cases hvl : checkR r.length r = 0
    · exact by rw [boxR, if_neg (by simpa using hvl)]; rfl
    · have h1 := hvl
      have h0 := hbad h1
      rw [h0]
      exact by rw [boxR, if_pos h1]; rfl
theorem rDiamond_c (a : Option Addr) (ca : Nat) (r : List W64) (s : W64) (w : World) (ha : SlU w a r) (hl : r.length ≤ maxLen) :
    Cn Tryd.prog 20 [.slice a r.length ca, U s] w (fun v _ => v = U (diaR r s)) := by
  have hl' := hl
  unfold maxLen at hl'
  refine Cn.of Tryd.func20 rfl rfl ?_
  refine GoH.seq ?_
  refine GoH.region ?_
  refine GoH.v (Vop.asg (v := U 0#64) rfl rfl rfl rfl) ?_
  refine GoH.regionEnd ?_
  refine GoH.seq ?_
  refine GoH.region ?_
  refine GoH.v (Vop.asg (v := U 0#64) rfl rfl rfl rfl) ?_
  refine GoH.regionEnd ?_
  refine GoH.seq ?_
  refine GoH.seq ?_
  refine GoH.region ?_
  refine GoH.v (Vop.asg rfl rfl rfl rfl) ?_
  refine GoH.regionEnd ?_
  refine GoH.block ?_
  refine GoH.loop (σ := Nat) (fun k => [(0, .slice a r.length ca), (1, U s), (5, U (diaU r s k)), (6, .int .i64 k)]) (fun _ => [])
    (fun k => k ≤ r.length ∧ (checkR r.length r ≠ 0 → k = 0)) (fun k => r.length - k) 0 ⟨Nat.zero_le _, fun _ => rfl⟩ ⟨rfl, rfl, rfl, rfl, trivial⟩ .slnil (fun k hI IH => ?_)
  obtain ⟨hk, hbad⟩ := hI
  refine GoH.seq ?_
  refine GoH.seq ?_
  refine GoH.region ?_
  refine GoH.v (Vop.mv rfl rfl rfl rfl) ?_
  refine GoH.v (Vop.mv rfl rfl rfl rfl) ?_
  refine GoH.v (Vop.blt rfl rfl rfl (blt_len_slice Tryd.underlying22) rfl) ?_
  refine GoH.v (Vop.bin rfl rfl rfl rfl bLt rfl) ?_
  refine GoH.v (Vop.mv rfl rfl rfl rfl) ?_
  -- guard on slot 11 (ref.go:221)
  refine GoH.cases (d := 11) rfl (fun hc => ?_) (fun hc => ?_)
  · -- yes
    have hlt : k < r.length := by simpa using hc
    refine GoH.v (Vop.mv rfl rfl rfl rfl) ?_
    refine GoH.callP rfl rfl rfl rfl rfl (fun _ _ => Tryd.call51 _ _) (fun w _ hS => rValid_c a ca r w (ha.ex0 hS.ext) hl) ?_
    refine GoH.v (Vop.pickT rfl rfl rfl rfl rfl) ?_
    refine GoH.regionEnd ?_
    refine GoH.cond rfl (fun hc => ?_) (fun hc => ?_)
    · -- yes
      have hvl : checkR r.length r = 0 := by simpa using hc
      refine GoH.skip ?_
      refine GoH.seq ?_
      refine GoH.block ?_
      refine GoH.seq ?_
      refine GoH.region ?_
      refine GoH.v (Vop.mv rfl rfl rfl rfl) ?_
      refine GoH.v (Vop.mv rfl rfl rfl rfl) ?_
      refine GoH.v (Vop.idx rfl rfl rfl rfl rfl Tryd.underlying22 Tryd.sizeOf27 ⟨_, ha⟩ (by simp) (k) ⟨rfl, by simpa using hlt⟩) ?_
      refine GoH.v (Vop.ld rfl rfl rfl rfl Tryd.isAgg27 (fun w _ hS => (SlU.ex0 ha hS.ext).at (k) hlt)) ?_
      refine GoH.v (Vop.mv rfl rfl rfl rfl) ?_
      refine GoH.v (Vop.bin rfl rfl rfl rfl bAnd rfl) ?_
      refine GoH.v (Vop.bin (b := U 0#64) rfl rfl rfl rfl bNeU rfl) ?_
      refine GoH.regionEnd ?_
      refine GoH.cond rfl (fun hc => ?_) (fun hc => ?_)
      · -- yes
        refine GoH.region ?_
        refine GoH.v (Vop.mv rfl rfl rfl rfl) ?_
        refine GoH.v (Vop.mv rfl rfl rfl rfl) ?_
        refine GoH.v (Vop.conv rfl rfl rfl (cInt (k := .u64) Tryd.underlying3 Tryd.underlying33 (wrapN64 (by omega))) rfl) ?_
        refine GoH.v (Vop.bin (a := U 1#64) rfl rfl rfl rfl (bShl _ rfl) rfl) ?_
        refine GoH.v (Vop.bin rfl rfl rfl rfl bOr rfl) ?_
        refine GoH.v (Vop.asg rfl rfl rfl rfl) ?_
        refine GoH.regionEnd ?_
        refine GoH.inBlock ?_
        refine GoH.region ?_
        refine GoH.v (Vop.mv rfl rfl rfl rfl) ?_
        refine GoH.v (Vop.bin rfl rfl rfl rfl (bAdd (by omega)) rfl) ?_
        refine GoH.v (Vop.asg rfl rfl rfl rfl) ?_
        refine GoH.regionEnd ?_
        exact IH (k + 1) _ _ ⟨hlt, fun h => absurd hvl h⟩ (by omega) ⟨rfl, rfl, by rw [show diaU r s (k + 1) = diaU r s k ||| 1#64 <<< k from if_pos hc]; rfl, rfl, trivial⟩ .slnil
      · -- no
        refine GoH.skip ?_
        refine GoH.inBlock ?_
        refine GoH.region ?_
        refine GoH.v (Vop.mv rfl rfl rfl rfl) ?_
        refine GoH.v (Vop.bin rfl rfl rfl rfl (bAdd (by omega)) rfl) ?_
        refine GoH.v (Vop.asg rfl rfl rfl rfl) ?_
        refine GoH.regionEnd ?_
        exact IH (k + 1) _ _ ⟨hlt, fun h => absurd hvl h⟩ (by omega) ⟨rfl, rfl, by rw [show diaU r s (k + 1) = diaU r s k from if_neg (by rw [hc]; exact Bool.false_ne_true)]; rfl, rfl, trivial⟩ .slnil
    · -- no
      have h1 : checkR r.length r ≠ 0 := by simpa using hc
      obtain rfl := hbad h1
      refine GoH.exit rfl ?_
      refine GoH.seq ?_
      refine GoH.region ?_
      refine GoH.v (Vop.mv rfl rfl rfl rfl) ?_
      refine GoH.v (Vop.asg rfl rfl rfl rfl) ?_
      refine GoH.regionEnd ?_
      refine GoH.ret Tryd.f20 Tryd.func20 rfl (fun w' hS => ?_)
      exact ⟨hS.ext, by rw [diaR, if_pos h1]; rfl⟩
  · -- no
    have hge : ¬ k < r.length := by simpa using hc
    obtain rfl : k = r.length := by omega
    refine GoH.no rfl rfl rfl rfl ?_
    refine GoH.no rfl rfl rfl rfl ?_
    refine GoH.v (Vop.pickF rfl rfl rfl rfl rfl) ?_
    refine GoH.regionEnd ?_
    refine GoH.condF rfl ?_
    refine GoH.exit rfl ?_
    refine GoH.seq ?_
    refine GoH.region ?_
    refine GoH.v (Vop.mv rfl rfl rfl rfl) ?_
    refine GoH.v (Vop.asg rfl rfl rfl rfl) ?_
    refine GoH.regionEnd ?_
    refine GoH.ret Tryd.f20 Tryd.func20 rfl (fun w' hS => ?_)
    refine ⟨hS.ext, ?_⟩
    by_cases hvl : checkR r.length r = 0
    · exact by rw [diaR, if_neg (by simpa using hvl), boxR, if_neg (by simpa using hvl)]; exact congrArg U (dia_eq (check_zero.1 hvl)).symm
    · have h1 := hvl
      have h0 := hbad h1
      rw [h0]
      exact by rw [diaR, if_pos h1]; rfl
theorem rReach_c (a : Option Addr) (ca : Nat) (r : List W64) (s : W64) (w : World) (ha : SlU w a r) (hl : r.length ≤ maxLen) :
    Cn Tryd.prog 22 [.slice a r.length ca, U s] w (fun v _ => ∃ o, v = U o ∧ ReachIs r s o) := by
  refine Cn.of Tryd.func22 rfl rfl ?_
  refine GoH.seq ?_
  refine GoH.region ?_
  refine GoH.v (Vop.asg (v := U 0#64) rfl rfl rfl rfl) ?_
  refine GoH.regionEnd ?_
  refine GoH.seq ?_
  refine GoH.seq ?_
  refine GoH.region ?_
  refine GoH.v (Vop.mv rfl rfl rfl rfl) ?_
  refine GoH.callP rfl rfl rfl rfl rfl (fun _ _ => Tryd.call51 _ _) (fun w _ hS => rValid_c a ca r w (ha.ex0 hS.ext) hl) ?_
  refine GoH.v (Vop.un rfl rfl rfl uNot rfl) ?_
  refine GoH.regionEnd ?_
  refine GoH.cond rfl (fun hc => ?_) (fun hc => ?_)
  · -- yes
    have h1 : checkR r.length r ≠ 0 := by simpa using hc
    refine GoH.seq ?_
    refine GoH.region ?_
    refine GoH.v (Vop.asg (v := U 0#64) rfl rfl rfl rfl) ?_
    refine GoH.regionEnd ?_
    refine GoH.ret Tryd.f22 Tryd.func22 rfl (fun w' hS => ?_)
    exact ⟨hS.ext, _, rfl, by rw [ReachIs, if_pos h1]⟩
  · -- no
    have h1 : checkR r.length r = 0 := by simpa using hc
    have hv := check_zero.1 h1
    have hlen := hv.len
    refine GoH.skip ?_
    refine GoH.seq ?_
    refine GoH.region ?_
    refine GoH.v (Vop.mv rfl rfl rfl rfl) ?_
    refine GoH.v (Vop.mv rfl rfl rfl rfl) ?_
    refine GoH.callP rfl rfl rfl rfl rfl (fun _ _ => Tryd.call52 _ _) (fun w _ hS => rImage_c a ca r s w (ha.ex0 hS.ext) (by omega)) ?_
    refine GoH.v (Vop.asg rfl rfl rfl rfl) ?_
    refine GoH.regionEnd ?_
    refine GoH.seq ?_
    refine GoH.seq ?_
    refine GoH.region ?_
    refine GoH.v (Vop.asg rfl rfl rfl rfl) ?_
    refine GoH.regionEnd ?_
    refine GoH.block ?_
    refine GoH.loop (σ := Nat) (fun k => [(0, .slice a r.length ca), (5, U (reachU r s k)), (6, .int .i64 k)]) (fun _ => [])
      (fun k => k ≤ r.length) (fun k => r.length - k) 0 (Nat.zero_le _) ⟨rfl, rfl, rfl, trivial⟩ .slnil (fun k hk IH => ?_)
    refine GoH.seq ?_
    refine GoH.seq ?_
    refine GoH.region ?_
    refine GoH.v (Vop.mv rfl rfl rfl rfl) ?_
    refine GoH.v (Vop.mv rfl rfl rfl rfl) ?_
    refine GoH.v (Vop.blt rfl rfl rfl (blt_len_slice Tryd.underlying22) rfl) ?_
    refine GoH.v (Vop.bin rfl rfl rfl rfl bLt rfl) ?_
    refine GoH.regionEnd ?_
    refine GoH.cond rfl (fun hc => ?_) (fun hc => ?_)
    · -- yes
      have hlt : k < r.length := by simpa using hc
      refine GoH.skip ?_
      refine GoH.seq ?_
      refine GoH.block ?_
      refine GoH.region ?_
      refine GoH.v (Vop.mv rfl rfl rfl rfl) ?_
      refine GoH.v (Vop.mv rfl rfl rfl rfl) ?_
      refine GoH.v (Vop.mv rfl rfl rfl rfl) ?_
      refine GoH.callP rfl rfl rfl rfl rfl (fun _ _ => Tryd.call52 _ _) (fun w _ hS => rImage_c a ca r _ w (ha.ex0 hS.ext) (by omega)) ?_
      refine GoH.v (Vop.bin rfl rfl rfl rfl bOr rfl) ?_
      refine GoH.v (Vop.asg rfl rfl rfl rfl) ?_
      refine GoH.regionEnd ?_
      refine GoH.inBlock ?_
      refine GoH.region ?_
      refine GoH.v (Vop.mv rfl rfl rfl rfl) ?_
      refine GoH.v (Vop.bin rfl rfl rfl rfl (bAdd (by omega)) rfl) ?_
      refine GoH.v (Vop.asg rfl rfl rfl rfl) ?_
      refine GoH.regionEnd ?_
      exact IH (k + 1) _ _ hlt (by omega) ⟨rfl, rfl, rfl, trivial⟩ .slnil
    · -- no
      have hge : ¬ k < r.length := by simpa using hc
      obtain rfl : k = r.length := by omega
      refine GoH.exit rfl ?_
      refine GoH.seq ?_
      refine GoH.region ?_
      refine GoH.v (Vop.mv rfl rfl rfl rfl) ?_
      refine GoH.v (Vop.asg rfl rfl rfl rfl) ?_
      refine GoH.regionEnd ?_
      refine GoH.ret Tryd.f22 Tryd.func22 rfl (fun w' hS => ?_)
      exact ⟨hS.ext, _, rfl, by
      obtain ⟨e1, e2, e3⟩ := reachU_least (s := s) hv
      rw [ReachIs, if_neg (by simp [h1])]
      exact ⟨by rw [mapR_all hv]; exact e1, e2, by rw [mapR_all hv]; exact e3⟩⟩
end Go.Proofs.YtoiafcoaeomnlaaDoor
