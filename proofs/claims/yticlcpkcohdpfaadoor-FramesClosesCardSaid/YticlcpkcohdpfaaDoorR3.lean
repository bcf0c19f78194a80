/- Contracts of functions of the program: what each call returns and that nothing else of memory is turned, under the conditions that each theorem states. -/
import Derived.Test.YticlcpkcohdpfaaDoorR2
namespace Go.Proofs.YticlcpkcohdpfaaDoor
open Go.RowKit Go.Proofs.Wit
/-! the reference, 3 -/
theorem rTransitive_c (a : Option Addr) (ca : Nat) (r : List W64) (w : World) (ha : SlU w a r) (hl : r.length ≤ maxLen) :
    Cn Tryd.prog 66 [.slice a r.length ca] w (fun v w' => ∃ p, OwnE w w' v p ∧ Grown tranR r p) := by
  refine Cn.of Tryd.func66 rfl rfl ?_
  refine GoH.seq ?_
  refine GoH.region ?_
  refine GoH.v (Vop.asg rfl rfl rfl rfl) ?_
  refine GoH.v (Vop.asg rfl rfl rfl rfl) ?_
  refine GoH.regionEnd ?_
  refine GoH.seq ?_
  refine GoH.seq ?_
  refine GoH.region ?_
  refine GoH.v (Vop.mv rfl rfl rfl rfl) ?_
  refine GoH.v (Vop.blt rfl rfl rfl (blt_len_slice Tryd.underlying22) rfl) ?_
  refine GoH.v (Vop.mv rfl rfl rfl rfl) ?_
  refine GoH.callP rfl rfl rfl rfl rfl (fun _ _ => Tryd.call74 _ _) (fun w _ hS => rCheck_c _ a ca r w (ha.ex0 hS.ext) hl) ?_
  refine GoH.v (Vop.asg rfl rfl rfl rfl) ?_
  refine GoH.regionEnd ?_
  refine GoH.seq ?_
  refine GoH.region ?_
  refine GoH.v (Vop.mv rfl rfl rfl rfl) ?_
  refine GoH.v (Vop.bin rfl rfl rfl rfl bNe rfl) ?_
  refine GoH.regionEnd ?_
  refine GoH.cond rfl (fun hc => ?_) (fun hc => ?_)
  · -- yes
    have h1 : checkR r.length r ≠ 0 := by simpa using hc
    refine GoH.seq ?_
    refine GoH.region ?_
    refine GoH.v (Vop.mv rfl rfl rfl rfl) ?_
    refine GoH.v (Vop.asg rfl rfl rfl rfl) ?_
    refine GoH.v (Vop.asg rfl rfl rfl rfl) ?_
    refine GoH.regionEnd ?_
    refine GoH.ret Tryd.f66 Tryd.func66 rfl (fun w' hS => ?_)
    exact ⟨hS.ext, ([], checkR r.length r), ⟨_, rfl, own_nil _ _⟩, by rw [Grown, if_pos h1]⟩
  · -- no
    have h1 : ¬ checkR r.length r ≠ 0 := by simpa using hc
    have hv := check_zero.1 (by simpa using h1)
    refine GoH.skip ?_
    refine GoH.seq ?_
    refine GoH.region ?_
    refine GoH.v (Vop.mv rfl rfl rfl rfl) ?_
    refine GoH.callM _ rfl rfl rfl rfl rfl (fun _ _ => Tryd.call88 _ _) (fun w _ hS => rGrow_c a ca r false w (ha.ex0 hS.ext) hv) ?_
    rintro v w1 w2 Y' hS he ⟨out, ho, hlst⟩
    obtain ⟨q, cap, sp, rfl, hq, hcap, hS'⟩ := gainO hS he ho
    refine ⟨_, hS', ?_⟩
    -- heap: q
    refine GoH.v (Vop.asg rfl rfl rfl rfl) ?_
    refine GoH.v (Vop.asg rfl rfl rfl rfl) ?_
    refine GoH.regionEnd ?_
    refine GoH.ret Tryd.f66 Tryd.func66 rfl (fun w' hS => ?_)
    exact ⟨hS.ext, (out, 0), ⟨_, rfl, ownAt hS 0 rfl rfl hq hcap⟩, by rw [Grown, if_neg h1]; exact ⟨rfl, hlst⟩⟩
theorem rEuclidean_c (a : Option Addr) (ca : Nat) (r : List W64) (w : World) (ha : SlU w a r) (hl : r.length ≤ maxLen) :
    Cn Tryd.prog 67 [.slice a r.length ca] w (fun v w' => ∃ p, OwnE w w' v p ∧ Grown euclR r p) := by
  refine Cn.of Tryd.func67 rfl rfl ?_
  refine GoH.seq ?_
  refine GoH.region ?_
  refine GoH.v (Vop.asg rfl rfl rfl rfl) ?_
  refine GoH.v (Vop.asg rfl rfl rfl rfl) ?_
  refine GoH.regionEnd ?_
  refine GoH.seq ?_
  refine GoH.seq ?_
  refine GoH.region ?_
  refine GoH.v (Vop.mv rfl rfl rfl rfl) ?_
  refine GoH.v (Vop.blt rfl rfl rfl (blt_len_slice Tryd.underlying22) rfl) ?_
  refine GoH.v (Vop.mv rfl rfl rfl rfl) ?_
  refine GoH.callP rfl rfl rfl rfl rfl (fun _ _ => Tryd.call74 _ _) (fun w _ hS => rCheck_c _ a ca r w (ha.ex0 hS.ext) hl) ?_
  refine GoH.v (Vop.asg rfl rfl rfl rfl) ?_
  refine GoH.regionEnd ?_
  refine GoH.seq ?_
  refine GoH.region ?_
  refine GoH.v (Vop.mv rfl rfl rfl rfl) ?_
  refine GoH.v (Vop.bin rfl rfl rfl rfl bNe rfl) ?_
  refine GoH.regionEnd ?_
  refine GoH.cond rfl (fun hc => ?_) (fun hc => ?_)
  · -- yes
    have h1 : checkR r.length r ≠ 0 := by simpa using hc
    refine GoH.seq ?_
    refine GoH.region ?_
    refine GoH.v (Vop.mv rfl rfl rfl rfl) ?_
    refine GoH.v (Vop.asg rfl rfl rfl rfl) ?_
    refine GoH.v (Vop.asg rfl rfl rfl rfl) ?_
    refine GoH.regionEnd ?_
    refine GoH.ret Tryd.f67 Tryd.func67 rfl (fun w' hS => ?_)
    exact ⟨hS.ext, ([], checkR r.length r), ⟨_, rfl, own_nil _ _⟩, by rw [Grown, if_pos h1]⟩
  · -- no
    have h1 : ¬ checkR r.length r ≠ 0 := by simpa using hc
    have hv := check_zero.1 (by simpa using h1)
    refine GoH.skip ?_
    refine GoH.seq ?_
    refine GoH.region ?_
    refine GoH.v (Vop.mv rfl rfl rfl rfl) ?_
    refine GoH.callM _ rfl rfl rfl rfl rfl (fun _ _ => Tryd.call88 _ _) (fun w _ hS => rGrow_c a ca r true w (ha.ex0 hS.ext) hv) ?_
    rintro v w1 w2 Y' hS he ⟨out, ho, hlst⟩
    obtain ⟨q, cap, sp, rfl, hq, hcap, hS'⟩ := gainO hS he ho
    refine ⟨_, hS', ?_⟩
    -- heap: q
    refine GoH.v (Vop.asg rfl rfl rfl rfl) ?_
    refine GoH.v (Vop.asg rfl rfl rfl rfl) ?_
    refine GoH.regionEnd ?_
    refine GoH.ret Tryd.f67 Tryd.func67 rfl (fun w' hS => ?_)
    exact ⟨hS.ext, (out, 0), ⟨_, rfl, ownAt hS 0 rfl rfl hq hcap⟩, by rw [Grown, if_neg h1]; exact ⟨rfl, hlst⟩⟩
theorem rHas_c (a : Option Addr) (ca : Nat) (r : List W64) (p : Int) (w : World) (ha : SlU w a r) (hl : r.length ≤ maxLen) :
    Cn Tryd.prog 47 [.slice a r.length ca, .int .i64 p] w (fun v _ => v = .bool (hasB r p)) := by
  obtain ⟨i0, hi, hz, hsz, hby⟩ := info_parts infoU
  refine Cn.of Tryd.func47 rfl rfl ?_
  refine GoH.seq ?_
  refine GoH.region ?_
  refine GoH.v (Vop.asg rfl rfl rfl rfl) ?_
  refine GoH.regionEnd ?_
  refine GoH.seq ?_
  refine GoH.seq ?_
  refine GoH.region ?_
  refine GoH.v (Vop.mv rfl rfl rfl rfl) ?_
  refine GoH.callP rfl rfl rfl rfl rfl (fun _ _ => Tryd.call46 _ _) (fun w _ hS => rValid_c a ca r w (ha.ex0 hS.ext) hl) ?_
  refine GoH.v (Vop.un rfl rfl rfl uNot rfl) ?_
  refine GoH.regionEnd ?_
  refine GoH.cond rfl (fun hc => ?_) (fun hc => ?_)
  · -- yes
    have h1 : checkR r.length r ≠ 0 := by simpa using hc
    refine GoH.seq ?_
    refine GoH.region ?_
    refine GoH.v (Vop.asg rfl rfl rfl rfl) ?_
    refine GoH.regionEnd ?_
    refine GoH.ret Tryd.f47 Tryd.func47 rfl (fun w' hS => ?_)
    exact ⟨hS.ext, congrArg Value.bool (hasB_iff (by simp [HasR, h1])).symm⟩
  · -- no
    have h1 : checkR r.length r = 0 := by simpa using hc
    have hv := check_zero.1 h1
    have hlen := hv.len
    have key : ∀ {b : Bool} {F : List W64 → Prop}, PropR p r = F r → (b = true ↔ F r) → hasB r p = b := fun e h => hasB_iff (by rw [HasR, e, h]; simp [h1])
    refine GoH.skip ?_
    refine GoH.seq ?_
    refine GoH.region ?_
    refine GoH.bs0 U rfl rfl rfl Tryd.underlying22 hi (fun b0 => ?_)
    -- heap: b0
    refine GoH.v (Vop.mv rfl rfl rfl rfl) ?_
    refine GoH.appZ U r rfl rfl rfl rfl rfl Tryd.underlying22 hi hz hsz rfl 0 rfl (fun w Y' hS => ha.ex0 hS.ext) rfl rfl (fun _ => rfl) (by simp [maxLen]; omega) (by simp [hby]; omega) (fun b sp cap hcap => ?_)
    rw [List.nil_append] at *
    -- heap: b
    refine GoH.v (Vop.asg rfl rfl rfl rfl) ?_
    refine GoH.regionEnd ?_
    refine GoH.seq ?_
    refine GoH.seq ?_
    refine GoH.region ?_
    refine GoH.v (Vop.mv rfl rfl rfl rfl) ?_
    refine GoH.regionEnd ?_
    refine GoH.block ?_
    refine GoH.seq ?_
    refine GoH.region ?_
    refine GoH.v (Vop.bin rfl rfl rfl rfl bEq rfl) ?_
    refine GoH.v (Vop.asg rfl rfl rfl rfl) ?_
    refine GoH.regionEnd ?_
    refine GoH.cond rfl (fun hc => ?_) (fun hc => ?_)
    · -- yes
      have e1 : p = 1 := by simpa using hc
      subst e1
      refine GoH.seq ?_
      refine GoH.region ?_
      refine GoH.v (Vop.asg rfl rfl rfl rfl) ?_
      refine GoH.regionEnd ?_
      refine GoH.block ?_
      refine GoH.loop (σ := Nat) (fun k => [(0, .slice a r.length ca), (5, osv (some b) r.length cap), (6, .int .i64 k)]) (fun k => [(some b, ob U 41 r sp)])
        (fun k => k ≤ r.length ∧ ∀ j, j < k → r.getD j 0#64 ≠ 0#64) (fun k => r.length - k) 0 ⟨Nat.zero_le _, fun j hj => by omega⟩ ⟨rfl, rfl, rfl, trivial⟩ (List.Sublist.refl _) (fun k hI IH => ?_)
      obtain ⟨hk, hall⟩ := hI
      -- heap: b
      refine GoH.seq ?_
      refine GoH.seq ?_
      refine GoH.region ?_
      refine GoH.v (Vop.mv rfl rfl rfl rfl) ?_
      refine GoH.v (Vop.mv rfl rfl rfl rfl) ?_
      refine GoH.v (Vop.blt rfl rfl rfl (blt_len_slice Tryd.underlying22) rfl) ?_
      refine GoH.v (Vop.bin rfl rfl rfl rfl bLt rfl) ?_
      refine GoH.regionEnd ?_
      refine GoH.cond rfl (fun hc => ?_) (fun hc => ?_)
      · -- yes
        have hlt : k < r.length := by simpa using hc
        refine GoH.skip ?_
        refine GoH.seq ?_
        refine GoH.block ?_
        refine GoH.seq ?_
        refine GoH.region ?_
        refine GoH.v (Vop.mv rfl rfl rfl rfl) ?_
        refine GoH.v (Vop.mv rfl rfl rfl rfl) ?_
        refine GoH.v (Vop.idx rfl rfl rfl rfl rfl Tryd.underlying22 Tryd.sizeOf41 ⟨_, ha⟩ (by simp) (k) ⟨rfl, by simpa using hlt⟩) ?_
        refine GoH.v (Vop.ld rfl rfl rfl rfl Tryd.isAgg41 (fun w _ hS => (SlU.ex0 ha hS.ext).at (k) hlt)) ?_
        refine GoH.v (Vop.bin (b := U 0#64) rfl rfl rfl rfl bEqU rfl) ?_
        refine GoH.regionEnd ?_
        refine GoH.cond rfl (fun hc => ?_) (fun hc => ?_)
        · -- yes
          refine GoH.seq ?_
          refine GoH.region ?_
          refine GoH.v (Vop.asg rfl rfl rfl rfl) ?_
          refine GoH.regionEnd ?_
          refine GoH.ret Tryd.f47 Tryd.func47 rfl (fun w' hS => ?_)
          exact ⟨hS.ext, congrArg Value.bool (key (b := false) (F := serR) (by simp [PropR]) ⟨fun h => (by cases h), fun h => by
          exfalso; apply h
          rw [← show r.getD k 0#64 = 0#64 from by simpa using hc, List.getD_eq_getElem?_getD, List.getElem?_eq_getElem hlt]
          exact List.getElem_mem hlt⟩).symm⟩
        · -- no
          refine GoH.skip ?_
          refine GoH.inBlock ?_
          refine GoH.region ?_
          refine GoH.v (Vop.mv rfl rfl rfl rfl) ?_
          refine GoH.v (Vop.bin rfl rfl rfl rfl (bAdd (by omega)) rfl) ?_
          refine GoH.v (Vop.asg rfl rfl rfl rfl) ?_
          refine GoH.regionEnd ?_
          exact IH (k + 1) _ _ ⟨hlt, fun j hj => by
          by_cases e : j = k
          · subst e; simpa using hc
          · exact hall j (by omega)⟩ (by omega) ⟨rfl, rfl, rfl, trivial⟩ (List.Sublist.refl _)
      · -- no
        have hge : ¬ k < r.length := by simpa using hc
        obtain rfl : k = r.length := by omega
        refine GoH.exit rfl ?_
        refine GoH.inBlock ?_
        refine GoH.seq ?_
        refine GoH.region ?_
        refine GoH.v (Vop.mv rfl rfl rfl rfl) ?_
        refine GoH.v (Vop.mv rfl rfl rfl rfl) ?_
        refine GoH.callP rfl rfl rfl rfl rfl (fun _ _ => Tryd.call24 _ _) (fun w _ hS => rSame_c (some ⟨b, 0, none⟩) cap r a ca r w (sluAt (q := some b) (c := cap) hS 0 rfl (fun h => by cases h)) (ha.ex0 hS.ext) hl) ?_
        refine GoH.v (Vop.asg rfl rfl rfl rfl) ?_
        refine GoH.regionEnd ?_
        refine GoH.ret Tryd.f47 Tryd.func47 rfl (fun w' hS => ?_)
        exact ⟨hS.ext, congrArg Value.bool (key (b := r == r) (F := serR) (by simp [PropR]) (by
        simp only [beq_self_eq_true, true_iff]
        intro h
        obtain ⟨j, hj, e⟩ := List.mem_iff_getElem.1 h
        exact hall j hj (by rw [List.getD_eq_getElem?_getD, List.getElem?_eq_getElem hj, Option.getD_some, e]))).symm⟩
    · -- no
      have e1 : p ≠ 1 := by simpa using hc
      refine GoH.seq ?_
      refine GoH.region ?_
      refine GoH.v (Vop.bin rfl rfl rfl rfl bEq rfl) ?_
      refine GoH.v (Vop.asg rfl rfl rfl rfl) ?_
      refine GoH.regionEnd ?_
      refine GoH.cond rfl (fun hc => ?_) (fun hc => ?_)
      · -- yes
        have e2 : p = 2 := by simpa using hc
        subst e2
        refine GoH.region ?_
        refine GoH.v (Vop.mv rfl rfl rfl rfl) ?_
        refine GoH.callM _ rfl rfl rfl rfl rfl (fun _ _ => Tryd.call65 _ _) (fun w _ hS => rReflexive_c a ca r w (ha.ex0 hS.ext) hl) ?_
        rintro v w1 w2 Y' hS he ⟨⟨out, e⟩, ⟨sv, rfl, ho⟩, hg⟩
        rw [Grown, if_neg (by simp [h1])] at hg
        obtain ⟨he0, hlst⟩ := hg
        obtain ⟨q, cap2, sp2, rfl, hq, hcap2, hS'⟩ := gainO hS he ho
        refine ⟨_, hS', ?_⟩
        -- heap: q b
        refine GoH.v (Vop.mv rfl rfl rfl rfl) ?_
        refine GoH.v (Vop.ext rfl rfl rfl rfl rfl) ?_
        refine GoH.v (Vop.ext rfl rfl rfl rfl rfl) ?_
        refine GoH.v (Vop.asg rfl rfl rfl rfl) ?_
        refine GoH.regionEnd ?_
        refine GoH.inBlock ?_
        refine GoH.seq ?_
        refine GoH.region ?_
        refine GoH.v (Vop.mv rfl rfl rfl rfl) ?_
        refine GoH.v (Vop.mv rfl rfl rfl rfl) ?_
        refine GoH.callP rfl rfl rfl rfl rfl (fun _ _ => Tryd.call24 _ _) (fun w _ hS => rSame_c (q.map (fun b => ⟨b, 0, none⟩)) cap2 out a ca r w (sluAt hS 0 rfl hq) (ha.ex0 hS.ext) (by have h : r.length = out.length := hlst.le.len; unfold maxLen at *; omega)) ?_
        refine GoH.v (Vop.asg rfl rfl rfl rfl) ?_
        refine GoH.regionEnd ?_
        refine GoH.ret Tryd.f47 Tryd.func47 rfl (fun w' hS => ?_)
        exact ⟨hS.ext, congrArg Value.bool (key (b := out == r) (F := reflR) (by simp [PropR]) (by rw [beq_iff_eq]; exact hlst.self hv)).symm⟩
      · -- no
        have e2 : p ≠ 2 := by simpa using hc
        refine GoH.seq ?_
        refine GoH.region ?_
        refine GoH.v (Vop.bin rfl rfl rfl rfl bEq rfl) ?_
        refine GoH.v (Vop.asg rfl rfl rfl rfl) ?_
        refine GoH.regionEnd ?_
        refine GoH.cond rfl (fun hc => ?_) (fun hc => ?_)
        · -- yes
          have e3 : p = 3 := by simpa using hc
          subst e3
          refine GoH.region ?_
          refine GoH.v (Vop.mv rfl rfl rfl rfl) ?_
          refine GoH.callM _ rfl rfl rfl rfl rfl (fun _ _ => Tryd.call75 _ _) (fun w _ hS => rSymmetric_c a ca r w (ha.ex0 hS.ext) hl) ?_
          rintro v w1 w2 Y' hS he ⟨⟨out, e⟩, ⟨sv, rfl, ho⟩, hg⟩
          rw [Grown, if_neg (by simp [h1])] at hg
          obtain ⟨he0, hlst⟩ := hg
          obtain ⟨q, cap2, sp2, rfl, hq, hcap2, hS'⟩ := gainO hS he ho
          refine ⟨_, hS', ?_⟩
          -- heap: q b
          refine GoH.v (Vop.mv rfl rfl rfl rfl) ?_
          refine GoH.v (Vop.ext rfl rfl rfl rfl rfl) ?_
          refine GoH.v (Vop.ext rfl rfl rfl rfl rfl) ?_
          refine GoH.v (Vop.asg rfl rfl rfl rfl) ?_
          refine GoH.regionEnd ?_
          refine GoH.inBlock ?_
          refine GoH.seq ?_
          refine GoH.region ?_
          refine GoH.v (Vop.mv rfl rfl rfl rfl) ?_
          refine GoH.v (Vop.mv rfl rfl rfl rfl) ?_
          refine GoH.callP rfl rfl rfl rfl rfl (fun _ _ => Tryd.call24 _ _) (fun w _ hS => rSame_c (q.map (fun b => ⟨b, 0, none⟩)) cap2 out a ca r w (sluAt hS 0 rfl hq) (ha.ex0 hS.ext) (by have h : r.length = out.length := hlst.le.len; unfold maxLen at *; omega)) ?_
          refine GoH.v (Vop.asg rfl rfl rfl rfl) ?_
          refine GoH.regionEnd ?_
          refine GoH.ret Tryd.f47 Tryd.func47 rfl (fun w' hS => ?_)
          exact ⟨hS.ext, congrArg Value.bool (key (b := out == r) (F := symmR) (by simp [PropR]) (by rw [beq_iff_eq]; exact hlst.self hv)).symm⟩
        · -- no
          have e3 : p ≠ 3 := by simpa using hc
          refine GoH.seq ?_
          refine GoH.region ?_
          refine GoH.v (Vop.bin rfl rfl rfl rfl bEq rfl) ?_
          refine GoH.v (Vop.asg rfl rfl rfl rfl) ?_
          refine GoH.regionEnd ?_
          refine GoH.cond rfl (fun hc => ?_) (fun hc => ?_)
          · -- yes
            have e4 : p = 4 := by simpa using hc
            subst e4
            refine GoH.region ?_
            refine GoH.v (Vop.mv rfl rfl rfl rfl) ?_
            refine GoH.callM _ rfl rfl rfl rfl rfl (fun _ _ => Tryd.call66 _ _) (fun w _ hS => rTransitive_c a ca r w (ha.ex0 hS.ext) hl) ?_
            rintro v w1 w2 Y' hS he ⟨⟨out, e⟩, ⟨sv, rfl, ho⟩, hg⟩
            rw [Grown, if_neg (by simp [h1])] at hg
            obtain ⟨he0, hlst⟩ := hg
            obtain ⟨q, cap2, sp2, rfl, hq, hcap2, hS'⟩ := gainO hS he ho
            refine ⟨_, hS', ?_⟩
            -- heap: q b
            refine GoH.v (Vop.mv rfl rfl rfl rfl) ?_
            refine GoH.v (Vop.ext rfl rfl rfl rfl rfl) ?_
            refine GoH.v (Vop.ext rfl rfl rfl rfl rfl) ?_
            refine GoH.v (Vop.asg rfl rfl rfl rfl) ?_
            refine GoH.regionEnd ?_
            refine GoH.inBlock ?_
            refine GoH.seq ?_
            refine GoH.region ?_
            refine GoH.v (Vop.mv rfl rfl rfl rfl) ?_
            refine GoH.v (Vop.mv rfl rfl rfl rfl) ?_
            refine GoH.callP rfl rfl rfl rfl rfl (fun _ _ => Tryd.call24 _ _) (fun w _ hS => rSame_c (q.map (fun b => ⟨b, 0, none⟩)) cap2 out a ca r w (sluAt hS 0 rfl hq) (ha.ex0 hS.ext) (by have h : r.length = out.length := hlst.le.len; unfold maxLen at *; omega)) ?_
            refine GoH.v (Vop.asg rfl rfl rfl rfl) ?_
            refine GoH.regionEnd ?_
            refine GoH.ret Tryd.f47 Tryd.func47 rfl (fun w' hS => ?_)
            exact ⟨hS.ext, congrArg Value.bool (key (b := out == r) (F := tranR) (by simp [PropR]) (by rw [beq_iff_eq]; exact hlst.self hv)).symm⟩
          · -- no
            have e4 : p ≠ 4 := by simpa using hc
            refine GoH.seq ?_
            refine GoH.region ?_
            refine GoH.v (Vop.bin rfl rfl rfl rfl bEq rfl) ?_
            refine GoH.v (Vop.asg rfl rfl rfl rfl) ?_
            refine GoH.regionEnd ?_
            refine GoH.cond rfl (fun hc => ?_) (fun hc => ?_)
            · -- yes
              have e5 : p = 5 := by simpa using hc
              subst e5
              refine GoH.region ?_
              refine GoH.v (Vop.mv rfl rfl rfl rfl) ?_
              refine GoH.callM _ rfl rfl rfl rfl rfl (fun _ _ => Tryd.call67 _ _) (fun w _ hS => rEuclidean_c a ca r w (ha.ex0 hS.ext) hl) ?_
              rintro v w1 w2 Y' hS he ⟨⟨out, e⟩, ⟨sv, rfl, ho⟩, hg⟩
              rw [Grown, if_neg (by simp [h1])] at hg
              obtain ⟨he0, hlst⟩ := hg
              obtain ⟨q, cap2, sp2, rfl, hq, hcap2, hS'⟩ := gainO hS he ho
              refine ⟨_, hS', ?_⟩
              -- heap: q b
              refine GoH.v (Vop.mv rfl rfl rfl rfl) ?_
              refine GoH.v (Vop.ext rfl rfl rfl rfl rfl) ?_
              refine GoH.v (Vop.ext rfl rfl rfl rfl rfl) ?_
              refine GoH.v (Vop.asg rfl rfl rfl rfl) ?_
              refine GoH.regionEnd ?_
              refine GoH.inBlock ?_
              refine GoH.seq ?_
              refine GoH.region ?_
              refine GoH.v (Vop.mv rfl rfl rfl rfl) ?_
              refine GoH.v (Vop.mv rfl rfl rfl rfl) ?_
              refine GoH.callP rfl rfl rfl rfl rfl (fun _ _ => Tryd.call24 _ _) (fun w _ hS => rSame_c (q.map (fun b => ⟨b, 0, none⟩)) cap2 out a ca r w (sluAt hS 0 rfl hq) (ha.ex0 hS.ext) (by have h : r.length = out.length := hlst.le.len; unfold maxLen at *; omega)) ?_
              refine GoH.v (Vop.asg rfl rfl rfl rfl) ?_
              refine GoH.regionEnd ?_
              refine GoH.ret Tryd.f47 Tryd.func47 rfl (fun w' hS => ?_)
              exact ⟨hS.ext, congrArg Value.bool (key (b := out == r) (F := euclR) (by simp [PropR]) (by rw [beq_iff_eq]; exact hlst.self hv)).symm⟩
            · -- no
              have e5 : p ≠ 5 := by simpa using hc
              refine GoH.seq ?_
              refine GoH.region ?_
              refine GoH.v (Vop.asg rfl rfl rfl rfl) ?_
              refine GoH.regionEnd ?_
              refine GoH.ret Tryd.f47 Tryd.func47 rfl (fun w' hS => ?_)
              exact ⟨hS.ext, congrArg Value.bool (key (b := false) (F := fun _ => False) (by simp [PropR, e1, e2, e3, e4, e5]) (by simp)).symm⟩
end Go.Proofs.YticlcpkcohdpfaaDoor
