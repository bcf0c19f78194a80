/- Contracts of functions of the program: what each call returns and that nothing else of memory is turned, under the conditions that each theorem states. -/
import Derived.Test.YtbjopkllkoomkaaDoorT8
namespace Go.Proofs.YtbjopkllkoomkaaDoor
open Go.RowKit Go.Proofs.Wit

theorem has_c (a : Option Addr) (ca : Nat) (r : List W64) (p : Int) (w : World) (hT : Tab w) (ha : SlU w a r) (hl : r.length ≤ maxLen) :
    Cn Tryd.prog 15 [.slice a r.length ca, .int .i64 p] w (fun v _ => v = .bool (hasB r p)) := by
  refine Cn.of Tryd.func15 rfl rfl ?_
  refine GoH.seq ?_
  refine GoH.region ?_
  refine GoH.bx rfl rfl rfl rfl (fun b2 => ?_)
  refine GoH.alc rfl rfl rfl (fun _ => Tryd.zeroValue4 _) (fun b4 => ?_)
  refine GoH.regionEnd ?_
  refine GoH.seq ?_
  refine GoH.seq ?_
  refine GoH.region ?_
  refine GoH.v (Vop.ldo rfl rfl rfl rfl Tryd.isAgg22 1 rfl rfl) ?_
  refine GoH.v (Vop.blt rfl rfl rfl (blt_len_slice Tryd.underlying22) rfl) ?_
  refine GoH.v (Vop.ldo rfl rfl rfl rfl Tryd.isAgg22 1 rfl rfl) ?_
  refine GoH.callP rfl rfl rfl rfl rfl (fun _ _ => Tryd.call30 _ _) (fun w _ hS => check_c _ a ca r w (ha.ex0 hS.ext) hl) ?_
  refine GoH.v (Vop.bin rfl rfl rfl rfl bNe rfl) ?_
  refine GoH.regionEnd ?_
  refine GoH.cond rfl (fun hc => ?_) (fun hc => ?_)
  · -- yes
    have h1 : checkR r.length r ≠ 0 := by simpa using hc
    refine GoH.seq ?_
    refine GoH.region ?_
    refine GoH.st rfl rfl rfl rfl Tryd.sizeOf4 rfl 0 rfl rfl ?_
    refine GoH.regionEnd ?_
    refine GoH.retC Tryd.f15 Tryd.func15 0 rfl rfl Tryd.isAgg4 rfl rfl (fun w' hS => ?_)
    exact ⟨hS.ext, congrArg Value.bool (hasB_iff (by simp [HasR, h1])).symm⟩
  · -- no
    have h1 : checkR r.length r = 0 := by simpa using hc
    have hv := check_zero.1 h1
    have hlen := hv.len
    have key : ∀ {b : Bool} {F : List W64 → Prop}, PropR p r = F r → (b = true ↔ F r) → hasB r p = b := fun e h => hasB_iff (by rw [HasR, e, h]; simp [h1])
    refine GoH.skip ?_
    refine GoH.seq ?_
    refine GoH.seq ?_
    refine GoH.region ?_
    refine GoH.v (Vop.mv rfl rfl rfl rfl) ?_
    refine GoH.regionEnd ?_
    refine GoH.block ?_
    refine GoH.seq ?_
    refine GoH.region ?_
    refine GoH.v (Vop.bin rfl rfl rfl rfl bEq rfl) ?_
    refine GoH.v (Vop.asg rfl rfl rfl rfl) ?_
    refine GoH.regionEnd ?_
    refine GoH.cond rfl (fun hc => ?_) (fun hc => ?_)
    · -- yes
      have e1 : p = 1 := by simpa using hc
      subst e1
      refine GoH.seq ?_
      refine GoH.region ?_
      refine GoH.v (Vop.ldo rfl rfl rfl rfl Tryd.isAgg22 1 rfl rfl) ?_
      refine GoH.callP rfl rfl rfl rfl rfl (fun _ _ => Tryd.call42 _ _) (fun w _ hS => contains_c a ca r 0#64 w (ha.ex0 hS.ext) hl) ?_
      refine GoH.v (Vop.un rfl rfl rfl uNot rfl) ?_
      refine GoH.st rfl rfl rfl rfl Tryd.sizeOf4 rfl 0 rfl rfl ?_
      refine GoH.regionEnd ?_
      refine GoH.retC Tryd.f15 Tryd.func15 0 rfl rfl Tryd.isAgg4 rfl rfl (fun w' hS => ?_)
      exact ⟨hS.ext, congrArg Value.bool (key (F := serR) (by simp [PropR]) (by simp [serR])).symm⟩
    · -- no
      have e1 : p ≠ 1 := by simpa using hc
      refine GoH.seq ?_
      refine GoH.region ?_
      refine GoH.v (Vop.bin rfl rfl rfl rfl bEq rfl) ?_
      refine GoH.v (Vop.asg rfl rfl rfl rfl) ?_
      refine GoH.regionEnd ?_
      refine GoH.cond rfl (fun hc => ?_) (fun hc => ?_)
      · -- yes
        have e2 : p = 2 := by simpa using hc
        subst e2
        refine GoH.seq ?_
        refine GoH.seq ?_
        refine GoH.region ?_
        refine GoH.v (Vop.ldo rfl rfl rfl rfl Tryd.isAgg22 1 rfl rfl) ?_
        refine GoH.v (Vop.blt rfl rfl rfl (blt_len_slice Tryd.underlying22) rfl) ?_
        refine GoH.v (Vop.mv rfl rfl rfl rfl) ?_
        refine GoH.regionEnd ?_
        refine GoH.block ?_
        refine GoH.loop (σ := Nat) (fun k => [(2, .pointer (some ⟨b2, 0, none⟩)), (4, .pointer (some ⟨b4, 0, none⟩)), (23, .int .i64 r.length), (24, .int .i64 k)]) (fun k => [(some b4, .cells #[.bool false] 4 (0, 0)), (some b2, .cells #[.slice a r.length ca] 22 (0, 0))])
          (fun k => k ≤ r.length ∧ ∀ j, j < k → Rl r j j) (fun k => r.length - k) 0 ⟨Nat.zero_le _, fun j hj => by omega⟩ ⟨rfl, rfl, rfl, rfl, trivial⟩ (List.Sublist.refl _) (fun k hI IH => ?_)
        obtain ⟨hk, hall⟩ := hI
        -- heap: b4 b2
        -- ptr: 2=b2 4=b4
        refine GoH.seq ?_
        refine GoH.region ?_
        refine GoH.v (Vop.bin rfl rfl rfl rfl bLt rfl) ?_
        refine GoH.regionEnd ?_
        refine GoH.seq ?_
        refine GoH.cond rfl (fun hc => ?_) (fun hc => ?_)
        · -- yes
          have hlt : k < r.length := by simpa using hc
          refine GoH.skip ?_
          refine GoH.seq ?_
          refine GoH.block ?_
          refine GoH.seq ?_
          refine GoH.region ?_
          refine GoH.v (Vop.mv rfl rfl rfl rfl) ?_
          refine GoH.v (Vop.asg rfl rfl rfl rfl) ?_
          refine GoH.regionEnd ?_
          refine GoH.seq ?_
          refine GoH.region ?_
          refine GoH.v (Vop.ldo rfl rfl rfl rfl Tryd.isAgg22 1 rfl rfl) ?_
          refine GoH.v (Vop.mv rfl rfl rfl rfl) ?_
          refine GoH.v (Vop.idx rfl rfl rfl rfl rfl Tryd.underlying22 Tryd.sizeOf28 ⟨_, ha⟩ (by simp) (k) ⟨rfl, by simpa using hlt⟩) ?_
          refine GoH.v (Vop.ld rfl rfl rfl rfl Tryd.isAgg28 (fun w _ hS => (SlU.ex0 ha hS.ext).at (k) hlt)) ?_
          refine GoH.v (Vop.mv rfl rfl rfl rfl) ?_
          refine GoH.v (Vop.bin rfl rfl rfl rfl (bShr _ rfl) rfl) ?_
          refine GoH.v (Vop.bin (b := U 1#64) rfl rfl rfl rfl bAnd rfl) ?_
          refine GoH.v (Vop.bin (b := U 0#64) rfl rfl rfl rfl bEqU rfl) ?_
          refine GoH.regionEnd ?_
          refine GoH.cond rfl (fun hc => ?_) (fun hc => ?_)
          · -- yes
            refine GoH.seq ?_
            refine GoH.region ?_
            refine GoH.st rfl rfl rfl rfl Tryd.sizeOf4 rfl 0 rfl rfl ?_
            refine GoH.regionEnd ?_
            refine GoH.retC Tryd.f15 Tryd.func15 0 rfl rfl Tryd.isAgg4 rfl rfl (fun w' hS => ?_)
            exact ⟨hS.ext, congrArg Value.bool (key (b := false) (F := reflR) (by simp [PropR]) ⟨fun h => (by cases h), fun h => by have := h k hlt; unfold Rl at this; rw [bit_iff, hc] at this; exact this⟩).symm⟩
          · -- no
            refine GoH.skip ?_
            refine GoH.inBlock ?_
            refine GoH.region ?_
            refine GoH.v (Vop.bin rfl rfl rfl rfl (bAdd (by omega)) rfl) ?_
            refine GoH.v (Vop.mv rfl rfl rfl rfl) ?_
            refine GoH.regionEnd ?_
            exact IH (k + 1) _ _ ⟨hlt, fun j hj => by
            by_cases e : j = k
            · subst e; unfold Rl; rw [bit_iff, hc]; rfl
            · exact hall j (by omega)⟩ (by omega) ⟨rfl, rfl, rfl, rfl, trivial⟩ (List.Sublist.refl _)
        · -- no
          have hge : ¬ k < r.length := by simpa using hc
          obtain rfl : k = r.length := by omega
          refine GoH.exit rfl ?_
          refine GoH.seq ?_
          refine GoH.region ?_
          refine GoH.st rfl rfl rfl rfl Tryd.sizeOf4 rfl 0 rfl rfl ?_
          refine GoH.regionEnd ?_
          refine GoH.retC Tryd.f15 Tryd.func15 0 rfl rfl Tryd.isAgg4 rfl rfl (fun w' hS => ?_)
          exact ⟨hS.ext, congrArg Value.bool (key (b := true) (F := reflR) (by simp [PropR]) ⟨fun _ => hall, fun _ => rfl⟩).symm⟩
      · -- no
        have e2 : p ≠ 2 := by simpa using hc
        refine GoH.seq ?_
        refine GoH.region ?_
        refine GoH.v (Vop.bin rfl rfl rfl rfl bEq rfl) ?_
        refine GoH.v (Vop.asg rfl rfl rfl rfl) ?_
        refine GoH.regionEnd ?_
        refine GoH.cond rfl (fun hc => ?_) (fun hc => ?_)
        · -- yes
          have e3 : p = 3 := by simpa using hc
          subst e3
          refine GoH.seq ?_
          refine GoH.drawO mixed (os := [[0, 1, 2, 3, 4], [1, 0, 2, 3, 4], [1, 2, 0, 3, 4]]) rfl ?_
          refine List.forall_mem_cons.2 ⟨?_, ?_⟩
          · -- order [0, 1, 2, 3, 4]
            refine GoH.v (Vop.ldo rfl rfl rfl rfl Tryd.isAgg22 1 rfl rfl) ?_
            refine GoH.v (Vop.ldo rfl rfl rfl rfl Tryd.isAgg22 1 rfl rfl) ?_
            refine GoH.callM _ rfl rfl rfl rfl rfl (fun _ _ => Tryd.call44 _ _) (fun w _ hS => reversed_c a ca r w (hT.ex hS.ext) (ha.ex0 hS.ext) hv) ?_
            rintro v w1 w2 Y' hS he ho
            obtain ⟨q, cap, sp, rfl, hq, hcap, hS'⟩ := gainO hS he ho
            refine ⟨_, hS', ?_⟩
            -- heap: q b4 b2
            refine GoH.callP rfl rfl rfl rfl rfl (fun _ _ => Tryd.call43 _ _) (fun w _ hS => equal_c a ca r _ cap (revR r) w (ha.ex0 hS.ext) (sluAt hS 0 rfl hq) (by omega)) ?_
            refine GoH.st rfl rfl rfl rfl Tryd.sizeOf4 rfl 1 rfl rfl ?_
            refine GoH.regionEnd ?_
            refine GoH.retC Tryd.f15 Tryd.func15 1 rfl rfl Tryd.isAgg4 rfl rfl (fun w' hS => ?_)
            exact ⟨hS.ext, congrArg Value.bool (key (b := r == revR r) (F := symmR) (by simp [PropR]) (by rw [beq_iff_eq]; exact symm_iff hv)).symm⟩
          refine List.forall_mem_cons.2 ⟨?_, ?_⟩
          · -- order [1, 0, 2, 3, 4]
            refine GoH.v (Vop.ldo rfl rfl rfl rfl Tryd.isAgg22 1 rfl rfl) ?_
            refine GoH.v (Vop.ldo rfl rfl rfl rfl Tryd.isAgg22 1 rfl rfl) ?_
            refine GoH.callM _ rfl rfl rfl rfl rfl (fun _ _ => Tryd.call44 _ _) (fun w _ hS => reversed_c a ca r w (hT.ex hS.ext) (ha.ex0 hS.ext) hv) ?_
            rintro v w1 w2 Y' hS he ho
            obtain ⟨q, cap, sp, rfl, hq, hcap, hS'⟩ := gainO hS he ho
            refine ⟨_, hS', ?_⟩
            -- heap: q b4 b2
            refine GoH.callP rfl rfl rfl rfl rfl (fun _ _ => Tryd.call43 _ _) (fun w _ hS => equal_c a ca r _ cap (revR r) w (ha.ex0 hS.ext) (sluAt hS 0 rfl hq) (by omega)) ?_
            refine GoH.st rfl rfl rfl rfl Tryd.sizeOf4 rfl 1 rfl rfl ?_
            refine GoH.regionEnd ?_
            refine GoH.retC Tryd.f15 Tryd.func15 1 rfl rfl Tryd.isAgg4 rfl rfl (fun w' hS => ?_)
            exact ⟨hS.ext, congrArg Value.bool (key (b := r == revR r) (F := symmR) (by simp [PropR]) (by rw [beq_iff_eq]; exact symm_iff hv)).symm⟩
          refine List.forall_mem_cons.2 ⟨?_, ?_⟩
          · -- order [1, 2, 0, 3, 4]
            refine GoH.v (Vop.ldo rfl rfl rfl rfl Tryd.isAgg22 1 rfl rfl) ?_
            refine GoH.callM _ rfl rfl rfl rfl rfl (fun _ _ => Tryd.call44 _ _) (fun w _ hS => reversed_c a ca r w (hT.ex hS.ext) (ha.ex0 hS.ext) hv) ?_
            rintro v w1 w2 Y' hS he ho
            obtain ⟨q, cap, sp, rfl, hq, hcap, hS'⟩ := gainO hS he ho
            refine ⟨_, hS', ?_⟩
            -- heap: q b4 b2
            refine GoH.v (Vop.ldo rfl rfl rfl rfl Tryd.isAgg22 2 rfl rfl) ?_
            refine GoH.callP rfl rfl rfl rfl rfl (fun _ _ => Tryd.call43 _ _) (fun w _ hS => equal_c a ca r _ cap (revR r) w (ha.ex0 hS.ext) (sluAt hS 0 rfl hq) (by omega)) ?_
            refine GoH.st rfl rfl rfl rfl Tryd.sizeOf4 rfl 1 rfl rfl ?_
            refine GoH.regionEnd ?_
            refine GoH.retC Tryd.f15 Tryd.func15 1 rfl rfl Tryd.isAgg4 rfl rfl (fun w' hS => ?_)
            exact ⟨hS.ext, congrArg Value.bool (key (b := r == revR r) (F := symmR) (by simp [PropR]) (by rw [beq_iff_eq]; exact symm_iff hv)).symm⟩
          intro _ hx; cases hx
        · -- no
          have e3 : p ≠ 3 := by simpa using hc
          refine GoH.seq ?_
          refine GoH.region ?_
          refine GoH.v (Vop.bin rfl rfl rfl rfl bEq rfl) ?_
          refine GoH.v (Vop.asg rfl rfl rfl rfl) ?_
          refine GoH.regionEnd ?_
          refine GoH.cond rfl (fun hc => ?_) (fun hc => ?_)
          · -- yes
            have e4 : p = 4 := by simpa using hc
            subst e4
            refine GoH.seq ?_
            refine GoH.seq ?_
            refine GoH.region ?_
            refine GoH.v (Vop.ldo rfl rfl rfl rfl Tryd.isAgg22 1 rfl rfl) ?_
            refine GoH.v (Vop.blt rfl rfl rfl (blt_len_slice Tryd.underlying22) rfl) ?_
            refine GoH.v (Vop.mv rfl rfl rfl rfl) ?_
            refine GoH.regionEnd ?_
            refine GoH.block ?_
            refine GoH.loop (σ := Nat) (fun k => [(2, .pointer (some ⟨b2, 0, none⟩)), (4, .pointer (some ⟨b4, 0, none⟩)), (45, .int .i64 r.length), (46, .int .i64 k)]) (fun k => [(some b4, .cells #[.bool false] 4 (0, 0)), (some b2, .cells #[.slice a r.length ca] 22 (0, 0))])
              (fun k => k ≤ r.length ∧ ∀ j, j < k → ∀ v x, Rl r j v → Rl r v x → Rl r j x) (fun k => r.length - k) 0 ⟨Nat.zero_le _, fun j hj => by omega⟩ ⟨rfl, rfl, rfl, rfl, trivial⟩ (List.Sublist.refl _) (fun k hI IH => ?_)
            obtain ⟨hk, hall⟩ := hI
            -- heap: b4 b2
            -- ptr: 2=b2 4=b4
            refine GoH.seq ?_
            refine GoH.region ?_
            refine GoH.v (Vop.bin rfl rfl rfl rfl bLt rfl) ?_
            refine GoH.regionEnd ?_
            refine GoH.seq ?_
            refine GoH.cond rfl (fun hc => ?_) (fun hc => ?_)
            · -- yes
              have hlt : k < r.length := by simpa using hc
              refine GoH.skip ?_
              refine GoH.seq ?_
              refine GoH.block ?_
              refine GoH.seq ?_
              refine GoH.region ?_
              refine GoH.v (Vop.mv rfl rfl rfl rfl) ?_
              refine GoH.v (Vop.asg rfl rfl rfl rfl) ?_
              refine GoH.regionEnd ?_
              refine GoH.seq ?_
              refine GoH.draw 12 mixed rfl ?_
              refine RdGo.v (Vop.ldo rfl rfl rfl rfl Tryd.isAgg22 1 rfl rfl) ?_
              refine RdGo.v (Vop.ldo rfl rfl rfl rfl Tryd.isAgg22 1 rfl rfl) ?_
              refine RdGo.v (Vop.mv rfl rfl rfl rfl) ?_
              refine RdGo.v (Vop.idx rfl rfl rfl rfl rfl Tryd.underlying22 Tryd.sizeOf28 ⟨_, ha⟩ (by simp) (k) ⟨rfl, by simpa using hlt⟩) ?_
              refine RdGo.v (Vop.ld rfl rfl rfl rfl Tryd.isAgg28 (fun w _ hS => (SlU.ex0 ha hS.ext).at (k) hlt)) ?_
              refine RdGo.callP rfl rfl rfl rfl rfl (fun _ _ => Tryd.call45 _ _) (fun w _ hS => mapped_c a ca r _ w (hT.ex hS.ext) (ha.ex0 hS.ext) (hv.pts k)) ?_
              refine RdGo.v (Vop.ldo rfl rfl rfl rfl Tryd.isAgg22 1 rfl rfl) ?_
              refine RdGo.v (Vop.mv rfl rfl rfl rfl) ?_
              refine RdGo.v (Vop.idx rfl rfl rfl rfl rfl Tryd.underlying22 Tryd.sizeOf28 ⟨_, ha⟩ (by simp) (k) ⟨rfl, by simpa using hlt⟩) ?_
              refine RdGo.v (Vop.ld rfl rfl rfl rfl Tryd.isAgg28 (fun w _ hS => (SlU.ex0 ha hS.ext).at (k) hlt)) ?_
              refine RdGo.v (Vop.bin rfl rfl rfl rfl bAndNot rfl) ?_
              refine RdGo.v (Vop.bin (b := U 0#64) rfl rfl rfl rfl bNeU rfl) ?_
              refine RdGo.nil ?_
              refine GoH.regionEnd ?_
              refine GoH.cond rfl (fun hc => ?_) (fun hc => ?_)
              · -- yes
                refine GoH.seq ?_
                refine GoH.region ?_
                refine GoH.st rfl rfl rfl rfl Tryd.sizeOf4 rfl 0 rfl rfl ?_
                refine GoH.regionEnd ?_
                refine GoH.retC Tryd.f15 Tryd.func15 0 rfl rfl Tryd.isAgg4 rfl rfl (fun w' hS => ?_)
                exact ⟨hS.ext, congrArg Value.bool (key (b := false) (F := tranR) (by simp [PropR]) ⟨fun h => (by cases h), fun h => by
                have h2 : mapR r (r.getD k 0#64) &&& ~~~ r.getD k 0#64 = 0#64 := andNot_zero.2 (fun i hi => by obtain ⟨v, h3, h4⟩ := mapR_bit.1 hi; exact h k v i h3 h4)
                rw [h2] at hc; exact hc⟩).symm⟩
              · -- no
                refine GoH.skip ?_
                refine GoH.inBlock ?_
                refine GoH.region ?_
                refine GoH.v (Vop.bin rfl rfl rfl rfl (bAdd (by omega)) rfl) ?_
                refine GoH.v (Vop.mv rfl rfl rfl rfl) ?_
                refine GoH.regionEnd ?_
                exact IH (k + 1) _ _ ⟨hlt, fun j hj => by
                by_cases e : j = k
                · subst e; intro v x h3 h4; exact andNot_zero.1 (by simpa using hc) x (mapR_bit.2 ⟨v, h3, h4⟩)
                · exact hall j (by omega)⟩ (by omega) ⟨rfl, rfl, rfl, rfl, trivial⟩ (List.Sublist.refl _)
            · -- no
              have hge : ¬ k < r.length := by simpa using hc
              obtain rfl : k = r.length := by omega
              refine GoH.exit rfl ?_
              refine GoH.seq ?_
              refine GoH.region ?_
              refine GoH.st rfl rfl rfl rfl Tryd.sizeOf4 rfl 0 rfl rfl ?_
              refine GoH.regionEnd ?_
              refine GoH.retC Tryd.f15 Tryd.func15 0 rfl rfl Tryd.isAgg4 rfl rfl (fun w' hS => ?_)
              exact ⟨hS.ext, congrArg Value.bool (key (b := true) (F := tranR) (by simp [PropR]) ⟨fun _ u v x h h2 => hall u h.dom v x h h2, fun _ => rfl⟩).symm⟩
          · -- no
            have e4 : p ≠ 4 := by simpa using hc
            refine GoH.seq ?_
            refine GoH.region ?_
            refine GoH.v (Vop.bin rfl rfl rfl rfl bEq rfl) ?_
            refine GoH.v (Vop.asg rfl rfl rfl rfl) ?_
            refine GoH.regionEnd ?_
            refine GoH.cond rfl (fun hc => ?_) (fun hc => ?_)
            · -- yes
              have e5 : p = 5 := by simpa using hc
              subst e5
              refine GoH.seq ?_
              refine GoH.seq ?_
              refine GoH.region ?_
              refine GoH.v (Vop.ldo rfl rfl rfl rfl Tryd.isAgg22 1 rfl rfl) ?_
              refine GoH.v (Vop.blt rfl rfl rfl (blt_len_slice Tryd.underlying22) rfl) ?_
              refine GoH.v (Vop.mv rfl rfl rfl rfl) ?_
              refine GoH.regionEnd ?_
              refine GoH.block ?_
              refine GoH.loop (σ := Nat) (fun k => [(2, .pointer (some ⟨b2, 0, none⟩)), (4, .pointer (some ⟨b4, 0, none⟩)), (65, .int .i64 r.length), (66, .int .i64 k)]) (fun k => [(some b4, .cells #[.bool false] 4 (0, 0)), (some b2, .cells #[.slice a r.length ca] 22 (0, 0))])
                (fun k => k ≤ r.length ∧ ∀ j, j < k → ∀ v x, Rl r j v → Rl r j x → Rl r v x) (fun k => r.length - k) 0 ⟨Nat.zero_le _, fun j hj => by omega⟩ ⟨rfl, rfl, rfl, rfl, trivial⟩ (List.Sublist.refl _) (fun k hI IH => ?_)
              obtain ⟨hk, hall⟩ := hI
              -- heap: b4 b2
              -- ptr: 2=b2 4=b4
              refine GoH.seq ?_
              refine GoH.region ?_
              refine GoH.v (Vop.bin rfl rfl rfl rfl bLt rfl) ?_
              refine GoH.regionEnd ?_
              refine GoH.seq ?_
              refine GoH.cond rfl (fun hc => ?_) (fun hc => ?_)
              · -- yes
                have hlt : k < r.length := by simpa using hc
                refine GoH.skip ?_
                refine GoH.seq ?_
                refine GoH.block ?_
                refine GoH.seq ?_
                refine GoH.region ?_
                refine GoH.v (Vop.mv rfl rfl rfl rfl) ?_
                refine GoH.alc rfl rfl rfl (fun _ => Tryd.zeroValue3 _) (fun b7 => ?_)
                refine GoH.st rfl rfl rfl rfl Tryd.sizeOf3 rfl 0 rfl rfl ?_
                refine GoH.regionEnd ?_
                refine GoH.seq ?_
                refine GoH.region ?_
                refine GoH.v (Vop.ldo rfl rfl rfl rfl Tryd.isAgg22 2 rfl rfl) ?_
                refine GoH.v (Vop.ldo rfl rfl rfl rfl Tryd.isAgg3 0 rfl rfl) ?_
                refine GoH.v (Vop.idx rfl rfl rfl rfl rfl Tryd.underlying22 Tryd.sizeOf28 ⟨_, ha⟩ (by simp) (k) ⟨rfl, by simpa using hlt⟩) ?_
                refine GoH.v (Vop.ld rfl rfl rfl rfl Tryd.isAgg28 (fun w _ hS => (SlU.ex0 ha hS.ext).at (k) hlt)) ?_
                refine GoH.callM _ rfl rfl rfl rfl rfl (fun _ _ => Tryd.call46 _ _) (fun w _ hS => points_c _ w) ?_
                rintro v w1 w2 Y' hS he ⟨bp, rfl, hb, hh⟩
                refine ⟨_, hS.gain he hh rfl hb, ?_⟩
                -- heap: bp b7 b4 b2
                refine GoH.regionEnd ?_
                refine GoH.block ?_
                refine GoH.rangeF (σ := Bool) (cap := [(some bp, .cells #[U (r.getD k 0#64)] 28 (0, 0))]) (fun _ => [(some b7, .cells #[.int .i64 k] 3 (0, 0)), (some b4, .cells #[.bool false] 4 (0, 0)), (some b2, .cells #[.slice a r.length ca] 22 (0, 0))])
                  (fun i _ => ∀ j, j < i → ∀ v, (pts (r.getD k 0#64))[j]? = some v → ∀ x, Rl r k x → Rl r v x) (fun c _ => c = .ret ∧ ∃ v x, Rl r k v ∧ Rl r k x ∧ ¬ Rl r v x) true
                  rfl (fun _ _ => Tryd.call70 _ _) (points1_it w [] hT (by simp) _ bp) (args1 rfl) rfl (fun j hj => by omega) (List.Sublist.refl _) ?_ ?_ ?_
                -- heap: b7 b4 b2
                · -- a round
                  intro L Y' rec hi' i az o haz hI hrec
                  rw [List.getElem?_map] at haz
                  obtain ⟨x, hx, rfl⟩ := Option.map_eq_some_iff.1 haz
                  have hxr : x < r.length := hv.pts k x (List.mem_of_getElem? hx)
                  refine GoH.region ?_
                  refine GoH.v (Vop.asg rfl rfl rfl rfl) ?_
                  refine GoH.regionEnd ?_
                  refine GoH.beginRound hrec ?_
                  refine GoH.block ?_
                  refine GoH.seq ?_
                  refine GoH.draw 10 mixed rfl ?_
                  refine RdGo.v (Vop.ldo rfl rfl rfl rfl Tryd.isAgg22 2 rfl rfl) ?_
                  refine RdGo.v (Vop.ldo rfl rfl rfl rfl Tryd.isAgg3 0 rfl rfl) ?_
                  refine RdGo.v (Vop.idx rfl rfl rfl rfl rfl Tryd.underlying22 Tryd.sizeOf28 ⟨_, ha⟩ (by simp) (k) ⟨rfl, by simpa using hlt⟩) ?_
                  refine RdGo.v (Vop.ld rfl rfl rfl rfl Tryd.isAgg28 (fun w _ hS => (SlU.ex0 ha hS.ext).at (k) hlt)) ?_
                  refine RdGo.v (Vop.ldo rfl rfl rfl rfl Tryd.isAgg22 2 rfl rfl) ?_
                  refine RdGo.v (Vop.mv rfl rfl rfl rfl) ?_
                  refine RdGo.v (Vop.idx rfl rfl rfl rfl rfl Tryd.underlying22 Tryd.sizeOf28 ⟨_, ha⟩ (by simp) (x) ⟨rfl, by simpa using hxr⟩) ?_
                  refine RdGo.v (Vop.ld rfl rfl rfl rfl Tryd.isAgg28 (fun w _ hS => (SlU.ex0 ha hS.ext).at (x) hxr)) ?_
                  refine RdGo.v (Vop.bin rfl rfl rfl rfl bAndNot rfl) ?_
                  refine RdGo.v (Vop.bin (b := U 0#64) rfl rfl rfl rfl bNeU rfl) ?_
                  refine RdGo.nil ?_
                  refine GoH.regionEnd ?_
                  refine GoH.cond rfl (fun hc => ?_) (fun hc => ?_)
                  · -- yes
                    refine GoH.seq ?_
                    refine GoH.region ?_
                    refine GoH.st rfl rfl rfl rfl Tryd.sizeOf4 rfl 1 rfl rfl ?_
                    refine GoH.regionEnd ?_
                    exact GoH.rRet true ⟨rfl, x, by
                    have h3 : Rl r k x := (mem_pts.1 (List.mem_of_getElem? hx)).2
                    have h2 : ¬ ∀ i, Rl r k i → Rl r x i := fun h => by
                      have h4 : r.getD k 0#64 &&& ~~~ r.getD x 0#64 = 0#64 := andNot_zero.2 h
                      rw [h4] at hc; cases hc
                    obtain ⟨i, h5⟩ := Classical.not_forall.1 h2
                    obtain ⟨h6, h7⟩ := Classical.not_imp.1 h5
                    exact ⟨i, h3, h6, h7⟩⟩ (List.Sublist.refl _)
                  · -- no
                    refine GoH.skip ?_
                    refine GoH.inBlock ?_
                    exact GoH.rEnd true (fun j hj v hv2 => by
                    by_cases e : j = i
                    · subst e
                      obtain rfl : x = v := Option.some.inj (hx.symm.trans hv2)
                      exact andNot_zero.1 (by simpa using hc)
                    · exact hI j (by omega) v hv2) (List.Sublist.refl _)
                · -- all have come
                  intro o hI
                  refine GoH.inBlock ?_
                  refine GoH.inBlock ?_
                  refine GoH.region ?_
                  refine GoH.v (Vop.bin rfl rfl rfl rfl (bAdd (by omega)) rfl) ?_
                  refine GoH.v (Vop.mv rfl rfl rfl rfl) ?_
                  refine GoH.regionEnd ?_
                  exact IH (k + 1) _ _ ⟨hlt, fun j hj => by
                  by_cases e : j = k
                  · subst e; intro v x h3 h4
                    obtain ⟨q, hq⟩ := List.mem_iff_getElem?.1 (mem_pts.2 ⟨bit_lt h3, h3⟩)
                    exact hI q (by rw [List.length_map]; exact (List.getElem?_eq_some_iff.1 hq).1) v hq x h4
                  · exact hall j (by omega)⟩ (by omega) ⟨rfl, rfl, rfl, rfl, trivial⟩ (.cons _ (List.Sublist.refl _))
                · -- stopped
                  rintro c s ⟨rfl, v, x, hv1, hv2, hv3⟩
                  refine GoH.retC Tryd.f15 Tryd.func15 1 rfl rfl Tryd.isAgg4 rfl rfl (fun w' hS => ?_)
                  exact ⟨hS.ext, congrArg Value.bool (key (b := false) (F := euclR) (by simp [PropR]) ⟨fun h => (by cases h), fun h => absurd (h k v x hv1 hv2) hv3⟩).symm⟩
              · -- no
                have hge : ¬ k < r.length := by simpa using hc
                obtain rfl : k = r.length := by omega
                refine GoH.exit rfl ?_
                refine GoH.seq ?_
                refine GoH.region ?_
                refine GoH.st rfl rfl rfl rfl Tryd.sizeOf4 rfl 0 rfl rfl ?_
                refine GoH.regionEnd ?_
                refine GoH.retC Tryd.f15 Tryd.func15 0 rfl rfl Tryd.isAgg4 rfl rfl (fun w' hS => ?_)
                exact ⟨hS.ext, congrArg Value.bool (key (b := true) (F := euclR) (by simp [PropR]) ⟨fun _ u v x h h2 => hall u h.dom v x h h2, fun _ => rfl⟩).symm⟩
            · -- no
              have e5 : p ≠ 5 := by simpa using hc
              refine GoH.skip ?_
              refine GoH.inBlock ?_
              refine GoH.seq ?_
              refine GoH.region ?_
              refine GoH.st rfl rfl rfl rfl Tryd.sizeOf4 rfl 0 rfl rfl ?_
              refine GoH.regionEnd ?_
              refine GoH.retC Tryd.f15 Tryd.func15 0 rfl rfl Tryd.isAgg4 rfl rfl (fun w' hS => ?_)
              exact ⟨hS.ext, congrArg Value.bool (key (b := false) (F := fun _ => False) (by simp [PropR, e1, e2, e3, e4, e5]) (by simp)).symm⟩
end Go.Proofs.YtbjopkllkoomkaaDoor
