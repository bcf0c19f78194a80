/- Contracts of functions of the program: what each call returns and that nothing else of memory is turned, under the conditions that each theorem states. -/
import Derived.Test.YticlcpkcohdpfaaDoorF13
import Derived.Test.YticlcpkcohdpfaaDoorWE
namespace Go.Proofs.YticlcpkcohdpfaaDoor
open Go.RowKit Go.Proofs.Wit
/-! the laws of chapter 15, 3 -/
set_option maxRecDepth 4000 in
theorem correspond_c (a : Option Addr) (ca : Nat) (r : List W64) (l : Int) (w : World) (hT : Tab w) (ha : SlU w a r) (hl : r.length ≤ maxLen) :
    Cn Tryd.prog 9 [.slice a r.length ca, .int .i64 l] w (fun v _ => v = .bool true) := by
  refine Cn.of Tryd.func9 rfl rfl ?_
  refine GoH.seq ?_
  refine GoH.region ?_
  refine GoH.v (Vop.asg rfl rfl rfl rfl) ?_
  refine GoH.regionEnd ?_
  refine GoH.seq ?_
  refine GoH.region ?_
  refine GoH.v (Vop.mv rfl rfl rfl rfl) ?_
  refine GoH.v (Vop.blt rfl rfl rfl (blt_len_slice Tryd.underlying22) rfl) ?_
  refine GoH.v (Vop.asg rfl rfl rfl rfl) ?_
  refine GoH.regionEnd ?_
  refine GoH.seq ?_
  refine GoH.seq ?_
  refine GoH.region ?_
  refine GoH.v (Vop.mv rfl rfl rfl rfl) ?_
  refine GoH.v (Vop.bin rfl rfl rfl rfl bGt rfl) ?_
  refine GoH.v (Vop.mv rfl rfl rfl rfl) ?_
  -- guard on slot 15 (law.go:106)
  refine GoH.cases (d := 15) rfl (fun hc => ?_) (fun hc => ?_)
  · -- yes
    refine GoH.no rfl rfl rfl rfl ?_
    refine GoH.no rfl rfl rfl rfl ?_
    refine GoH.no rfl rfl rfl rfl ?_
    refine GoH.no rfl rfl rfl rfl ?_
    refine GoH.v (Vop.pickT rfl rfl rfl rfl rfl) ?_
    refine GoH.regionEnd ?_
    refine GoH.condT rfl ?_
    refine GoH.seq ?_
    refine GoH.region ?_
    refine GoH.callP rfl rfl rfl rfl rfl (fun _ _ => Tryd.call11 _ _) (fun w _ hS => awake15_c w (hT.ex hS.ext)) ?_
    refine GoH.v (Vop.asg rfl rfl rfl rfl) ?_
    refine GoH.regionEnd ?_
    refine GoH.ret Tryd.f9 Tryd.func9 rfl (fun w' hS => ?_)
    exact ⟨hS.ext, rfl⟩
  · -- no
    have hn5 : r.length ≤ 5 := by have : ¬ ((r.length : Int) > 5) := by simpa using hc
                                  omega
    refine GoH.v (Vop.mv rfl rfl rfl rfl) ?_
    refine GoH.v (Vop.mv rfl rfl rfl rfl) ?_
    refine GoH.callP rfl rfl rfl rfl rfl (fun _ _ => Tryd.call27 _ _) (fun w _ hS => check_c _ a ca r w (ha.ex0 hS.ext) hl) ?_
    refine GoH.v (Vop.bin rfl rfl rfl rfl bNe rfl) ?_
    refine GoH.v (Vop.pickF rfl rfl rfl rfl rfl) ?_
    refine GoH.regionEnd ?_
    refine GoH.cond rfl (fun hc => ?_) (fun hc => ?_)
    · -- yes
      refine GoH.seq ?_
      refine GoH.region ?_
      refine GoH.callP rfl rfl rfl rfl rfl (fun _ _ => Tryd.call11 _ _) (fun w _ hS => awake15_c w (hT.ex hS.ext)) ?_
      refine GoH.v (Vop.asg rfl rfl rfl rfl) ?_
      refine GoH.regionEnd ?_
      refine GoH.ret Tryd.f9 Tryd.func9 rfl (fun w' hS => ?_)
      exact ⟨hS.ext, rfl⟩
    · -- no
      have h1 : checkR r.length r = 0 := by simpa using hc
      have hv := check_zero.1 h1
      refine GoH.skip ?_
      refine GoH.seq ?_
      refine GoH.region ?_
      refine GoH.v (Vop.mv rfl rfl rfl rfl) ?_
      refine GoH.callM _ rfl rfl rfl rfl rfl (fun _ _ => Tryd.call18 _ _) (fun w _ hS => props_c l w) ?_
      rintro v w1 w2 Y' hS he ho
      obtain ⟨q, cap, sp, rfl, hq, hcap, hS'⟩ := gainP hS he ho
      refine ⟨_, hS', ?_⟩
      -- heap: q
      refine GoH.v (Vop.mv rfl rfl rfl rfl) ?_
      refine GoH.v (Vop.ext rfl rfl rfl rfl rfl) ?_
      refine GoH.v (Vop.ext rfl rfl rfl rfl rfl) ?_
      refine GoH.v (Vop.asg rfl rfl rfl rfl) ?_
      refine GoH.v (Vop.asg rfl rfl rfl rfl) ?_
      refine GoH.regionEnd ?_
      refine GoH.seq ?_
      refine GoH.seq ?_
      refine GoH.region ?_
      refine GoH.v (Vop.mv rfl rfl rfl rfl) ?_
      refine GoH.v (Vop.bin rfl rfl rfl rfl bNe rfl) ?_
      refine GoH.v (Vop.mv rfl rfl rfl rfl) ?_
      -- guard on slot 29 (law.go:110)
      refine GoH.cases (d := 29) rfl (fun hc => ?_) (fun hc => ?_)
      · -- yes
        have h2 : propsE l ≠ 0 := by simpa using hc
        have h3 : propsE l = 1 := by unfold propsE at h2 ⊢; split at h2 <;> simp_all
        have h4 : hasL r l = false := by
          cases h : hasL r l with
          | false => rfl
          | true => exact absurd (hasL_true.1 h).1 h2
        refine GoH.no rfl rfl rfl rfl ?_
        refine GoH.no rfl rfl rfl rfl ?_
        refine GoH.no rfl rfl rfl rfl ?_
        refine GoH.v (Vop.pickT rfl rfl rfl rfl rfl) ?_
        refine GoH.regionEnd ?_
        refine GoH.condT rfl ?_
        refine GoH.seq ?_
        refine GoH.region ?_
        refine GoH.v (Vop.mv rfl rfl rfl rfl) ?_
        refine GoH.v (Vop.bin rfl rfl rfl rfl (bEqV (v := true) (by rw [h3]; rfl)) rfl) ?_
        refine GoH.v (Vop.mv rfl rfl rfl rfl) ?_
        refine GoH.v (Vop.mv rfl rfl rfl rfl) ?_
        refine GoH.v (Vop.mv rfl rfl rfl rfl) ?_
        refine GoH.callP rfl rfl rfl rfl rfl (fun _ _ => Tryd.call20 _ _) (fun w _ hS => (by exact (hasL_c a ca r l w (hT.ex hS.ext) (ha.ex0 hS.ext) hl).mono (fun v w' _ e => by rw [e, h4]))) ?_
        refine GoH.v (Vop.un rfl rfl rfl uNot rfl) ?_
        refine GoH.v (Vop.pickT rfl rfl rfl rfl rfl) ?_
        refine GoH.v (Vop.mv rfl rfl rfl rfl) ?_
        refine GoH.callP rfl rfl rfl rfl rfl (fun _ _ => Tryd.call11 _ _) (fun w _ hS => awake15_c w (hT.ex hS.ext)) ?_
        refine GoH.v (Vop.pickT rfl rfl rfl rfl rfl) ?_
        refine GoH.v (Vop.asg rfl rfl rfl rfl) ?_
        refine GoH.regionEnd ?_
        refine GoH.ret Tryd.f9 Tryd.func9 rfl (fun w' hS => ?_)
        exact ⟨hS.ext, rfl⟩
      · -- no
        have h2 : propsE l = 0 := by simpa using hc
        have hpl := propsL_len l
        refine GoH.v (Vop.mv rfl rfl rfl rfl) ?_
        refine GoH.v (Vop.blt rfl rfl rfl (blt_len_slice Tryd.underlying35) rfl) ?_
        refine GoH.v (Vop.bin rfl rfl rfl rfl (bGtV (v := false) (decide_eq_false (by omega))) rfl) ?_
        refine GoH.v (Vop.pickF rfl rfl rfl rfl rfl) ?_
        refine GoH.regionEnd ?_
        refine GoH.condF rfl ?_
        refine GoH.skip ?_
        refine GoH.seq ?_
        refine GoH.region ?_
        refine GoH.v (Vop.asg rfl rfl rfl rfl) ?_
        refine GoH.regionEnd ?_
        refine GoH.seq ?_
        refine GoH.seq ?_
        refine GoH.region ?_
        refine GoH.v (Vop.asg rfl rfl rfl rfl) ?_
        refine GoH.regionEnd ?_
        refine GoH.block ?_
        refine GoH.loop (σ := Nat × Bool) (fun z => [(0, .slice a r.length ca), (1, .int .i64 l), (5, .int .i64 r.length), (6, osv q (propsL l).length cap), (8, .bool z.2), (9, .int .i64 z.1)]) (fun _ => [(q, ob I64 3 (propsL l) sp)])
          (fun z => z.1 ≤ (propsL l).length ∧ (z.2 = true ↔ ∀ (i : Nat) (p : Int), i < z.1 → (propsL l)[i]? = some p → PropR p r)) (fun z => (propsL l).length - z.1) (0, true)
          ⟨Nat.zero_le _, ⟨fun _ i p hi => by omega, fun _ => rfl⟩⟩ ⟨rfl, rfl, rfl, rfl, rfl, rfl, trivial⟩ (List.Sublist.refl _) (fun z hI IH => ?_)
        obtain ⟨k, b⟩ := z
        obtain ⟨hk, hb⟩ := hI
        dsimp only at hk hb IH ⊢
        -- heap: q
        refine GoH.seq ?_
        refine GoH.seq ?_
        refine GoH.region ?_
        refine GoH.v (Vop.mv rfl rfl rfl rfl) ?_
        refine GoH.v (Vop.mv rfl rfl rfl rfl) ?_
        refine GoH.v (Vop.blt rfl rfl rfl (blt_len_slice Tryd.underlying35) rfl) ?_
        refine GoH.v (Vop.bin rfl rfl rfl rfl bLt rfl) ?_
        refine GoH.regionEnd ?_
        refine GoH.cond rfl (fun hc => ?_) (fun hc => ?_)
        · -- yes
          have hlt : k < (propsL l).length := by simpa using hc
          have hpm := propsL_mem (List.getElem_mem hlt)
          obtain ⟨bq, rfl⟩ : ∃ bq, q = some bq := by
            cases q with
            | none => have := (hq rfl).1; omega
            | some bq => exact ⟨bq, rfl⟩
          have hgd : (propsL l).getD k 0 = (propsL l)[k] := by simp [List.getD_eq_getElem?_getD, hlt]
          refine GoH.skip ?_
          refine GoH.seq ?_
          refine GoH.block ?_
          refine GoH.seq ?_
          refine GoH.region ?_
          refine GoH.v (Vop.asg (v := U 0#64) rfl rfl rfl rfl) ?_
          refine GoH.regionEnd ?_
          refine GoH.block ?_
          refine GoH.loop (σ := W64 × Bool) (fun z => [(0, .slice a r.length ca), (1, .int .i64 l), (5, .int .i64 r.length), (6, osv (some bq) (propsL l).length cap), (8, .bool z.2), (9, .int .i64 k), (10, U z.1)]) (fun _ => [(some bq, ob I64 3 (propsL l) sp)])
            (fun z => z.1.toNat ≤ 2 ^ r.length ∧ (z.2 = true ↔ (∀ (i : Nat) (p : Int), i < k → (propsL l)[i]? = some p → PropR p r) ∧ ∀ s : W64, s.toNat < z.1.toNat → holdsU r (propsL l)[k] s = allW r.length)) (fun z => 2 ^ r.length - z.1.toNat) (0#64, b)
            ⟨Nat.zero_le _, ⟨fun h => ⟨hb.1 h, fun s hs => by simp at hs⟩, fun h => hb.2 h.1⟩⟩ ⟨rfl, rfl, rfl, rfl, rfl, rfl, rfl, trivial⟩ (List.Sublist.refl _) (fun z hI IH2 => ?_)
          obtain ⟨s, b⟩ := z
          obtain ⟨hs, hb⟩ := hI
          dsimp only at hs hb IH2 ⊢
          have hpow : 2 ^ r.length ≤ 2 ^ 5 := Nat.pow_le_pow_right (by decide) hn5
          have h1s := one_shl hn5
          -- heap: q
          refine GoH.seq ?_
          refine GoH.seq ?_
          refine GoH.region ?_
          refine GoH.v (Vop.mv rfl rfl rfl rfl) ?_
          refine GoH.v (Vop.mv rfl rfl rfl rfl) ?_
          refine GoH.v (Vop.conv rfl rfl rfl (cInt (k := .u64) Tryd.underlying3 Tryd.underlying50 (wrapN64 (by omega))) rfl) ?_
          refine GoH.v (Vop.bin (a := U 1#64) rfl rfl rfl rfl (bShl _ rfl) rfl) ?_
          refine GoH.v (Vop.bin rfl rfl rfl rfl bLtU rfl) ?_
          refine GoH.regionEnd ?_
          refine GoH.cond rfl (fun hc => ?_) (fun hc => ?_)
          · -- yes
            have hsl : s.toNat < 2 ^ r.length := by rw [← h1s]; simpa using hc
            have hs1 : (s + 1#64).toNat = s.toNat + 1 := by
              rw [BitVec.toNat_add, show (1#64).toNat = 1 from rfl, Nat.mod_eq_of_lt]
              omega
            refine GoH.skip ?_
            refine GoH.seq ?_
            refine GoH.block ?_
            refine GoH.region ?_
            refine GoH.v (Vop.mv rfl rfl rfl rfl) ?_
            refine GoH.v (Vop.mv rfl rfl rfl rfl) ?_
            -- guard on slot 59 (law.go:116)
            refine GoH.cases (d := 59) rfl (fun hc => ?_) (fun hc => ?_)
            · -- yes
              have hbt := hb.1 hc
              refine GoH.v (Vop.mv rfl rfl rfl rfl) ?_
              refine GoH.v (Vop.mv rfl rfl rfl rfl) ?_
              refine GoH.v (Vop.mv rfl rfl rfl rfl) ?_
              refine GoH.v (Vop.idxS rfl rfl rfl rfl rfl Tryd.underlying35 Tryd.sizeOf3 (k) ⟨rfl, hlt⟩) ?_
              refine GoH.v (Vop.ldE I64 0 rfl rfl rfl rfl Tryd.isAgg3 0 rfl hlt) ?_
              refine GoH.v (Vop.mv rfl rfl rfl rfl) ?_
              refine GoH.callP rfl rfl rfl rfl rfl (fun _ _ => Tryd.call31 _ _) (fun w _ hS => holds_c a ca r _ s w (ha.ex0 hS.ext) hv) ?_
              refine GoH.v (Vop.mv rfl rfl rfl rfl) ?_
              refine GoH.callP rfl rfl rfl rfl rfl (fun _ _ => Tryd.call30 _ _) (fun w _ hS => rAll_c r.length w hv.len) ?_
              refine GoH.v (Vop.bin rfl rfl rfl rfl bEqU rfl) ?_
              refine GoH.v (Vop.pickT rfl rfl rfl rfl rfl) ?_
              refine GoH.v (Vop.asg rfl rfl rfl rfl) ?_
              refine GoH.regionEnd ?_
              refine GoH.inBlock ?_
              refine GoH.region ?_
              refine GoH.v (Vop.mv rfl rfl rfl rfl) ?_
              refine GoH.v (Vop.bin (b := U 1#64) rfl rfl rfl rfl bAddU rfl) ?_
              refine GoH.v (Vop.asg rfl rfl rfl rfl) ?_
              refine GoH.regionEnd ?_
              exact IH2 (s + 1#64, holdsU r ((propsL l).getD k 0) s == allW r.length) _ _ ⟨by dsimp only; omega, by
                rw [beq_iff_eq, hgd, hs1]
                constructor
                · intro h
                  refine ⟨hbt.1, fun x hx => ?_⟩
                  by_cases e : x = s
                  · subst e; exact h
                  · exact hbt.2 x (by have : x.toNat ≠ s.toNat := fun h => e (BitVec.eq_of_toNat_eq h)
                                      omega)
                · intro h; exact h.2 s (by omega)⟩ (by dsimp only; omega) ⟨rfl, rfl, rfl, rfl, rfl, rfl, rfl, trivial⟩ (List.Sublist.refl _)
            · -- no
              have hbf : ¬ b = true := by rw [hc]; simp
              refine GoH.no rfl rfl rfl rfl ?_
              refine GoH.no rfl rfl rfl rfl ?_
              refine GoH.no rfl rfl rfl rfl ?_
              refine GoH.no rfl rfl rfl rfl ?_
              refine GoH.no rfl rfl rfl rfl ?_
              refine GoH.no rfl rfl rfl rfl ?_
              refine GoH.no rfl rfl rfl rfl ?_
              refine GoH.no rfl rfl rfl rfl ?_
              refine GoH.no rfl rfl rfl rfl ?_
              refine GoH.no rfl rfl rfl rfl ?_
              refine GoH.v (Vop.pickF rfl rfl rfl rfl rfl) ?_
              refine GoH.v (Vop.asg rfl rfl rfl rfl) ?_
              refine GoH.regionEnd ?_
              refine GoH.inBlock ?_
              refine GoH.region ?_
              refine GoH.v (Vop.mv rfl rfl rfl rfl) ?_
              refine GoH.v (Vop.bin (b := U 1#64) rfl rfl rfl rfl bAddU rfl) ?_
              refine GoH.v (Vop.asg rfl rfl rfl rfl) ?_
              refine GoH.regionEnd ?_
              exact IH2 (s + 1#64, false) _ _ ⟨by dsimp only; omega, by
                rw [hs1]
                constructor
                · intro h; cases h
                · intro h; exact absurd (hb.2 ⟨h.1, fun x hx => h.2 x (by omega)⟩) hbf⟩ (by dsimp only; omega) ⟨rfl, rfl, rfl, rfl, rfl, rfl, rfl, trivial⟩ (List.Sublist.refl _)
          · -- no
            have hsl : ¬ s.toNat < 2 ^ r.length := by rw [← h1s]; simpa using hc
            have hse : s.toNat = 2 ^ r.length := by omega
            refine GoH.exit rfl ?_
            refine GoH.inBlock ?_
            refine GoH.region ?_
            refine GoH.v (Vop.mv rfl rfl rfl rfl) ?_
            refine GoH.v (Vop.bin rfl rfl rfl rfl (bAdd (by omega)) rfl) ?_
            refine GoH.v (Vop.asg rfl rfl rfl rfl) ?_
            refine GoH.regionEnd ?_
            exact IH (k + 1, b) _ _ ⟨hlt, by
              rw [hb, hse, ← correspond_nat hv hpm]
              constructor
              · rintro ⟨h1, h2⟩ i p hi hp
                by_cases e : i = k
                · subst e; rw [List.getElem?_eq_getElem hlt] at hp; cases hp; exact h2
                · exact h1 i p (by omega) hp
              · intro h
                exact ⟨fun i p hi hp => h i p (by omega) hp, h k _ (by omega) (List.getElem?_eq_getElem hlt)⟩⟩ (by dsimp only; omega) ⟨rfl, rfl, rfl, rfl, rfl, rfl, trivial⟩ (List.Sublist.refl _)
        · -- no
          have hge : ¬ k < (propsL l).length := by simpa using hc
          obtain rfl : k = (propsL l).length := by omega
          have hfin : hasL r l = b := by
            rw [Bool.eq_iff_iff, hb, hasL_true]
            constructor
            · rintro ⟨_, _, h⟩ i p _ hp; exact h p (List.mem_of_getElem? hp)
            · intro h
              exact ⟨h2, h1, fun p hp => by
                obtain ⟨i, hi, e⟩ := List.mem_iff_getElem.1 hp
                exact h i p hi (by rw [List.getElem?_eq_getElem hi, e])⟩
          refine GoH.exit rfl ?_
          refine GoH.seq ?_
          refine GoH.region ?_
          refine GoH.v (Vop.mv rfl rfl rfl rfl) ?_
          refine GoH.v (Vop.mv rfl rfl rfl rfl) ?_
          refine GoH.callP rfl rfl rfl rfl rfl (fun _ _ => Tryd.call20 _ _) (fun w _ hS => hasL_c a ca r l w (hT.ex hS.ext) (ha.ex0 hS.ext) hl) ?_
          refine GoH.v (Vop.mv rfl rfl rfl rfl) ?_
          refine GoH.v (Vop.bin rfl rfl rfl rfl (bEqBV (v := true) Tryd.underlying4 (by rw [hfin]; exact beq_self_eq_true _)) rfl) ?_
          refine GoH.v (Vop.mv rfl rfl rfl rfl) ?_
          refine GoH.callP rfl rfl rfl rfl rfl (fun _ _ => Tryd.call11 _ _) (fun w _ hS => awake15_c w (hT.ex hS.ext)) ?_
          refine GoH.v (Vop.pickT rfl rfl rfl rfl rfl) ?_
          refine GoH.v (Vop.asg rfl rfl rfl rfl) ?_
          refine GoH.regionEnd ?_
          refine GoH.ret Tryd.f9 Tryd.func9 rfl (fun w' hS => ?_)
          exact ⟨hS.ext, rfl⟩
end Go.Proofs.YticlcpkcohdpfaaDoor
