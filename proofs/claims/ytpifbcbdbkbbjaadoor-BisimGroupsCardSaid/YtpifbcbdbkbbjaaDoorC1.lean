/- Contracts of functions of the program: what each call returns and that nothing else of memory is turned, under the conditions that each theorem states. -/
import Derived.Test.YtpifbcbdbkbbjaaDoorB8
import Derived.Test.YtpifbcbdbkbbjaaDoorWD
namespace Go.Proofs.YtpifbcbdbkbbjaaDoor
open Go.RowKit Go.Proofs.Wit
/-! the reference on partitions -/
theorem rBit_c (s : W64) (i : Nat) (w : World) : Cn Tryd.prog 43 [U s, .int .i64 i] w (fun v _ => v = .bool (s.getLsbD i)) := by
  refine Cn.of Tryd.func43 rfl rfl ?_
  refine GoH.seq ?_
  refine GoH.region ?_
  refine GoH.v (Vop.asg rfl rfl rfl rfl) ?_
  refine GoH.regionEnd ?_
  refine GoH.seq ?_
  refine GoH.region ?_
  refine GoH.v (Vop.mv rfl rfl rfl rfl) ?_
  refine GoH.v (Vop.bin rfl rfl rfl rfl (bGeV (v := true) (decide_eq_true (by omega))) rfl) ?_
  refine GoH.v (Vop.mv rfl rfl rfl rfl) ?_
  refine GoH.v (Vop.mv rfl rfl rfl rfl) ?_
  refine GoH.v (Vop.bin rfl rfl rfl rfl bLt rfl) ?_
  refine GoH.v (Vop.pickT rfl rfl rfl rfl rfl) ?_
  refine GoH.v (Vop.mv rfl rfl rfl rfl) ?_
  -- guard on slot 11 (ref.go:15)
  refine GoH.cases (d := 11) rfl (fun hc => ?_) (fun hc => ?_)
  · -- yes
    have hlt : i < 64 := by simp at hc; omega
    refine GoH.v (Vop.mv rfl rfl rfl rfl) ?_
    refine GoH.v (Vop.mv rfl rfl rfl rfl) ?_
    refine GoH.v (Vop.bin rfl rfl rfl rfl (bShr i rfl) rfl) ?_
    refine GoH.v (Vop.bin (b := U 2#64) rfl rfl rfl rfl bRem2 rfl) ?_
    refine GoH.v (Vop.bin (b := U 1#64) rfl rfl rfl rfl bEqU rfl) ?_
    refine GoH.v (Vop.pickT rfl rfl rfl rfl rfl) ?_
    refine GoH.v (Vop.asg rfl rfl rfl rfl) ?_
    refine GoH.regionEnd ?_
    refine GoH.ret Tryd.f43 Tryd.func43 rfl (fun w' hS => ?_)
    exact ⟨hS.ext, by rw [← in_bit]; rfl⟩
  · -- no
    have hge : ¬ i < 64 := by simp at hc; omega
    refine GoH.no rfl rfl rfl rfl ?_
    refine GoH.no rfl rfl rfl rfl ?_
    refine GoH.no rfl rfl rfl rfl ?_
    refine GoH.no rfl rfl rfl rfl ?_
    refine GoH.no rfl rfl rfl rfl ?_
    refine GoH.v (Vop.pickF rfl rfl rfl rfl rfl) ?_
    refine GoH.v (Vop.asg rfl rfl rfl rfl) ?_
    refine GoH.regionEnd ?_
    refine GoH.ret Tryd.f43 Tryd.func43 rfl (fun w' hS => ?_)
    refine ⟨hS.ext, ?_⟩
    cases h : s.getLsbD i with
    | false => rfl
    | true => exact absurd (bit_lt h) hge
theorem rpchk_c (a : Option Addr) (ca : Nat) (p : List Int) (w : World) (ha : SlI w a p) (hp : OkP p) :
    Cn Tryd.prog 76 [.slice a p.length ca] w (fun v _ => v = .int .i64 0) := by
  have hl := hp.len
  refine Cn.of Tryd.func76 rfl rfl ?_
  refine GoH.seq ?_
  refine GoH.region ?_
  refine GoH.v (Vop.asg rfl rfl rfl rfl) ?_
  refine GoH.regionEnd ?_
  refine GoH.seq ?_
  refine GoH.seq ?_
  refine GoH.region ?_
  refine GoH.v (Vop.mv rfl rfl rfl rfl) ?_
  refine GoH.v (Vop.blt rfl rfl rfl (blt_len_slice Tryd.underlying28) rfl) ?_
  refine GoH.v (Vop.bin rfl rfl rfl rfl (bGtV (v := false) (decide_eq_false (by omega))) rfl) ?_
  refine GoH.regionEnd ?_
  refine GoH.condF rfl ?_
  refine GoH.skip ?_
  refine GoH.seq ?_
  refine GoH.seq ?_
  refine GoH.region ?_
  refine GoH.v (Vop.mv rfl rfl rfl rfl) ?_
  refine GoH.v (Vop.blt rfl rfl rfl (blt_len_slice Tryd.underlying28) rfl) ?_
  refine GoH.v (Vop.mv rfl rfl rfl rfl) ?_
  refine GoH.regionEnd ?_
  refine GoH.block ?_
  refine GoH.loop (σ := Nat) (fun k => [(0, .slice a p.length ca), (8, .slice a p.length ca), (9, .int .i64 p.length), (10, .int .i64 k)]) (fun _ => []) (fun k => k ≤ p.length) (fun k => p.length - k) 0 (Nat.zero_le _) ⟨rfl, rfl, rfl, rfl, trivial⟩ .slnil (fun k hI IH => ?_)
  refine GoH.seq ?_
  refine GoH.region ?_
  refine GoH.v (Vop.bin rfl rfl rfl rfl bLt rfl) ?_
  refine GoH.regionEnd ?_
  refine GoH.seq ?_
  refine GoH.cond rfl (fun hc => ?_) (fun hc => ?_)
  · -- yes
    have hlt : k < p.length := by simpa using hc
    obtain ⟨h1, h2, h3⟩ := hp.low k hlt
    rw [← lowE hlt] at h1 h2 h3
    have h4 : p[k].toNat < p.length := by omega
    refine GoH.skip ?_
    refine GoH.seq ?_
    refine GoH.block ?_
    refine GoH.seq ?_
    refine GoH.region ?_
    refine GoH.v (Vop.mv rfl rfl rfl rfl) ?_
    refine GoH.v (Vop.idx rfl rfl rfl rfl rfl Tryd.underlying28 Tryd.sizeOf3 ⟨_, ha⟩ (by simp) (k) ⟨rfl, by simpa using hlt⟩) ?_
    refine GoH.v (Vop.ld rfl rfl rfl rfl Tryd.isAgg3 (fun w _ hS => (SlI.ex0 ha hS.ext).at (k) hlt)) ?_
    refine GoH.v (Vop.asg rfl rfl rfl rfl) ?_
    refine GoH.v (Vop.asg rfl rfl rfl rfl) ?_
    refine GoH.regionEnd ?_
    refine GoH.seq ?_
    refine GoH.region ?_
    refine GoH.v (Vop.mv rfl rfl rfl rfl) ?_
    refine GoH.v (Vop.bin rfl rfl rfl rfl (bLtV (v := false) (decide_eq_false (by omega))) rfl) ?_
    refine GoH.v (Vop.mv rfl rfl rfl rfl) ?_
    refine GoH.v (Vop.mv rfl rfl rfl rfl) ?_
    refine GoH.v (Vop.mv rfl rfl rfl rfl) ?_
    refine GoH.v (Vop.bin rfl rfl rfl rfl (bGtV (v := false) (decide_eq_false (by omega))) rfl) ?_
    refine GoH.v (Vop.pickF rfl rfl rfl rfl rfl) ?_
    refine GoH.v (Vop.mv rfl rfl rfl rfl) ?_
    refine GoH.v (Vop.mv rfl rfl rfl rfl) ?_
    refine GoH.v (Vop.mv rfl rfl rfl rfl) ?_
    refine GoH.v (Vop.idx rfl rfl rfl rfl rfl Tryd.underlying28 Tryd.sizeOf3 ⟨_, ha⟩ (by simp) p[k].toNat ⟨by omega, by simpa using h4⟩) ?_
    refine GoH.v (Vop.ld rfl rfl rfl rfl Tryd.isAgg3 (fun w _ hS => (SlI.ex0 ha hS.ext).at p[k].toNat h4)) ?_
    refine GoH.v (Vop.mv rfl rfl rfl rfl) ?_
    refine GoH.v (Vop.bin rfl rfl rfl rfl (bNeV (v := false) (by rw [lowE h4, h3]; simp)) rfl) ?_
    refine GoH.v (Vop.pickF rfl rfl rfl rfl rfl) ?_
    refine GoH.regionEnd ?_
    refine GoH.condF rfl ?_
    refine GoH.skip ?_
    refine GoH.inBlock ?_
    refine GoH.region ?_
    refine GoH.v (Vop.bin rfl rfl rfl rfl (bAdd (by omega)) rfl) ?_
    refine GoH.v (Vop.mv rfl rfl rfl rfl) ?_
    refine GoH.regionEnd ?_
    exact IH (k + 1) _ _ hlt (by omega) ⟨rfl, rfl, rfl, rfl, trivial⟩ .slnil
  · -- no
    refine GoH.exit rfl ?_
    refine GoH.seq ?_
    refine GoH.region ?_
    refine GoH.v (Vop.asg rfl rfl rfl rfl) ?_
    refine GoH.regionEnd ?_
    refine GoH.ret Tryd.f76 Tryd.func76 rfl (fun w' hS => ?_)
    exact ⟨hS.ext, rfl⟩
theorem ledPair {xs ys : List Int} : divP xs ys = leds (keyD xs ys) xs.length := rfl
theorem rcan_c (a : Option Addr) (ca : Nat) (xs : List Int) (b : Option Addr) (cb : Nat) (ys : List Int) (w : World) (ha : SlI w a xs) (hb : SlI w b ys) (hl : xs.length ≤ 64) (hy : ys.length = xs.length) :
    Cn Tryd.prog 77 [.slice a xs.length ca, .slice b ys.length cb] w (fun v w' => OwnS I64 3 w w' v (divP xs ys)) := by
  obtain ⟨i0, hi, hz, hsz, hby⟩ := info_parts infoI
  rw [ledPair]
  obtain ⟨K, hK⟩ : ∃ K, keyD xs ys = K := ⟨_, rfl⟩
  have hKe : ∀ i j (hi : i < xs.length) (hj : j < xs.length), K i = K j ↔ xs[i] = xs[j] ∧ ys[i]'(hy ▸ hi) = ys[j]'(hy ▸ hj) := fun i j hi hj => by
    rw [← hK]
    unfold keyD
    rw [Prod.mk.injEq, ← lowE hi, ← lowE hj, ← lowE (hy ▸ hi), ← lowE (hy ▸ hj)]
  rw [hK]
  refine Cn.of Tryd.func77 rfl rfl ?_
  refine GoH.seq ?_
  refine GoH.region ?_
  refine GoH.v (Vop.asg rfl rfl rfl rfl) ?_
  refine GoH.regionEnd ?_
  refine GoH.seq ?_
  refine GoH.region ?_
  refine GoH.v (Vop.asg rfl rfl rfl rfl) ?_
  refine GoH.regionEnd ?_
  refine GoH.seq ?_
  refine GoH.seq ?_
  refine GoH.region ?_
  refine GoH.v (Vop.mv rfl rfl rfl rfl) ?_
  refine GoH.v (Vop.blt rfl rfl rfl (blt_len_slice Tryd.underlying28) rfl) ?_
  refine GoH.v (Vop.mv rfl rfl rfl rfl) ?_
  refine GoH.regionEnd ?_
  refine GoH.block ?_
  refine GoH.addNone (ob I64 3 [] []) ?_
  refine GoH.loop (σ := Nat × Option Nat × Nat × List Value) (fun z => [(0, .slice a xs.length ca), (1, .slice b ys.length cb), (5, osv z.2.1 (leds K z.1).length z.2.2.1), (10, .int .i64 xs.length), (11, .int .i64 z.1)]) (fun z => [(z.2.1, ob I64 3 (leds K z.1) z.2.2.2)])
    (fun z => z.1 ≤ xs.length ∧ (z.2.1 = none → (leds K z.1).length = 0 ∧ z.2.2.1 = 0) ∧ ((leds K z.1).map I64 ++ z.2.2.2).length = z.2.2.1) (fun z => xs.length - z.1) (0, none, 0, []) ⟨Nat.zero_le _, fun _ => ⟨rfl, rfl⟩, rfl⟩ ⟨rfl, rfl, rfl, rfl, rfl, trivial⟩ (List.Sublist.refl _) (fun z hI IH => ?_)
  obtain ⟨k, q, cap, sp⟩ := z
  obtain ⟨hk, hq, hcap⟩ := hI
  dsimp only at hk hq hcap IH ⊢
  -- heap: q
  refine GoH.seq ?_
  refine GoH.region ?_
  refine GoH.v (Vop.bin rfl rfl rfl rfl bLt rfl) ?_
  refine GoH.regionEnd ?_
  refine GoH.seq ?_
  refine GoH.cond rfl (fun hc => ?_) (fun hc => ?_)
  · -- yes
    have hlt : k < xs.length := by simpa using hc
    have hlk : (leds K k).length = k := leds_len
    refine GoH.skip ?_
    refine GoH.seq ?_
    refine GoH.block ?_
    refine GoH.seq ?_
    refine GoH.region ?_
    refine GoH.v (Vop.mv rfl rfl rfl rfl) ?_
    refine GoH.v (Vop.asg rfl rfl rfl rfl) ?_
    refine GoH.regionEnd ?_
    refine GoH.seq ?_
    refine GoH.region ?_
    refine GoH.v (Vop.mv rfl rfl rfl rfl) ?_
    refine GoH.v (Vop.asg rfl rfl rfl rfl) ?_
    refine GoH.regionEnd ?_
    refine GoH.seq ?_
    refine GoH.seq ?_
    refine GoH.region ?_
    refine GoH.v (Vop.mv rfl rfl rfl rfl) ?_
    refine GoH.v (Vop.asg rfl rfl rfl rfl) ?_
    refine GoH.regionEnd ?_
    refine GoH.block ?_
    refine GoH.loop (σ := Int × Nat) (fun z => [(0, .slice a xs.length ca), (1, .slice b ys.length cb), (5, osv q (leds K k).length cap), (6, .int .i64 k), (7, .int .i64 z.2), (8, .int .i64 z.1), (10, .int .i64 xs.length), (11, .int .i64 k)]) (fun _ => [(q, ob I64 3 (leds K k) sp)])
      (fun z => -1 ≤ z.1 ∧ z.1 ≤ k ∧ z.2 ≤ k ∧ (z.1 = k ∧ z.2 = k ∨ Down K k z.1 z.2)) (fun z => (z.1 + 1).toNat) (k, k) ⟨by omega, Int.le_refl _, Nat.le_refl _, .inl ⟨rfl, rfl⟩⟩ ⟨rfl, rfl, rfl, rfl, rfl, rfl, rfl, rfl, trivial⟩ (List.Sublist.refl _) (fun z hI IH2 => ?_)
    obtain ⟨j, low⟩ := z
    obtain ⟨hj1, hj2, hlow, hD⟩ := hI
    dsimp only at hj1 hj2 hlow hD IH2 ⊢
    -- heap: q
    refine GoH.seq ?_
    refine GoH.seq ?_
    refine GoH.region ?_
    refine GoH.v (Vop.mv rfl rfl rfl rfl) ?_
    refine GoH.v (Vop.bin rfl rfl rfl rfl bGe rfl) ?_
    refine GoH.regionEnd ?_
    refine GoH.cond rfl (fun hc => ?_) (fun hc => ?_)
    · -- yes
      have hj0 : 0 ≤ j := by simpa using hc
      obtain ⟨j, rfl⟩ : ∃ J : Nat, j = J := ⟨j.toNat, by omega⟩
      have hjl : j < xs.length := by omega
      have hjl2 : j < ys.length := by omega
      have hkl2 : k < ys.length := by omega
      have hiff := hKe j k hjl hlt
      have hgo : ∀ low', (K j = K k → low' = j) → (K j ≠ K k → low' = low) → Down K k ((j : Int) - 1) low' := fun low' e1 e2 => by
        by_cases e : K j = K k
        · rw [e1 e]
          rcases hD with ⟨h1, h2⟩ | hD
          · obtain rfl : j = k := by omega
            exact Down.start (by omega) (fun m h3 h4 => by omega)
          · exact hD.hit (by omega) e
        · rw [e2 e]
          rcases hD with ⟨h1, h2⟩ | hD
          · obtain rfl : j = k := by omega
            exact absurd rfl e
          · exact hD.skip e
      refine GoH.skip ?_
      refine GoH.seq ?_
      refine GoH.block ?_
      refine GoH.seq ?_
      refine GoH.draw 20 mixed rfl ?_
      refine RdGo.v (Vop.mv rfl rfl rfl rfl) ?_
      refine RdGo.v (Vop.mv rfl rfl rfl rfl) ?_
      refine RdGo.v (Vop.idx rfl rfl rfl rfl rfl Tryd.underlying28 Tryd.sizeOf3 ⟨_, ha⟩ (by simp) (j) ⟨rfl, by simpa using hjl⟩) ?_
      refine RdGo.v (Vop.ld rfl rfl rfl rfl Tryd.isAgg3 (fun w _ hS => (SlI.ex0 ha hS.ext).at (j) hjl)) ?_
      refine RdGo.v (Vop.mv rfl rfl rfl rfl) ?_
      refine RdGo.v (Vop.mv rfl rfl rfl rfl) ?_
      refine RdGo.v (Vop.idx rfl rfl rfl rfl rfl Tryd.underlying28 Tryd.sizeOf3 ⟨_, ha⟩ (by simp) (k) ⟨rfl, by simpa using hlt⟩) ?_
      refine RdGo.v (Vop.ld rfl rfl rfl rfl Tryd.isAgg3 (fun w _ hS => (SlI.ex0 ha hS.ext).at (k) hlt)) ?_
      refine RdGo.v (Vop.bin rfl rfl rfl rfl bEq rfl) ?_
      refine RdGo.v (Vop.mv rfl rfl rfl rfl) ?_
      -- guard on slot 29 (ref.go:25)
      refine RdGo.cases (d := 29) rfl (fun hc => ?_) (fun hc => ?_)
      · -- yes
        have h1 : xs[j] = xs[k] := by simpa using hc
        refine RdGo.v (Vop.mv rfl rfl rfl rfl) ?_
        refine RdGo.v (Vop.mv rfl rfl rfl rfl) ?_
        refine RdGo.v (Vop.idx rfl rfl rfl rfl rfl Tryd.underlying28 Tryd.sizeOf3 ⟨_, hb⟩ (by simp) (j) ⟨rfl, by simpa using hjl2⟩) ?_
        refine RdGo.v (Vop.ld rfl rfl rfl rfl Tryd.isAgg3 (fun w _ hS => (SlI.ex0 hb hS.ext).at (j) hjl2)) ?_
        refine RdGo.v (Vop.mv rfl rfl rfl rfl) ?_
        refine RdGo.v (Vop.mv rfl rfl rfl rfl) ?_
        refine RdGo.v (Vop.idx rfl rfl rfl rfl rfl Tryd.underlying28 Tryd.sizeOf3 ⟨_, hb⟩ (by simp) (k) ⟨rfl, by simpa using hkl2⟩) ?_
        refine RdGo.v (Vop.ld rfl rfl rfl rfl Tryd.isAgg3 (fun w _ hS => (SlI.ex0 hb hS.ext).at (k) hkl2)) ?_
        refine RdGo.v (Vop.bin rfl rfl rfl rfl bEq rfl) ?_
        refine RdGo.v (Vop.pickT rfl rfl rfl rfl rfl) ?_
        refine RdGo.nil ?_
        refine GoH.regionEnd ?_
        refine GoH.cond rfl (fun hc => ?_) (fun hc => ?_)
        · -- yes
          have h2 : ys[j] = ys[k] := by simpa using hc
          have h3 := hgo j (fun _ => rfl) (fun h => absurd (hiff.2 ⟨h1, h2⟩) h)
          refine GoH.region ?_
          refine GoH.v (Vop.mv rfl rfl rfl rfl) ?_
          refine GoH.v (Vop.asg rfl rfl rfl rfl) ?_
          refine GoH.regionEnd ?_
          refine GoH.inBlock ?_
          refine GoH.region ?_
          refine GoH.v (Vop.mv rfl rfl rfl rfl) ?_
          refine GoH.v (Vop.bin rfl rfl rfl rfl (bSub (by omega)) rfl) ?_
          refine GoH.v (Vop.asg rfl rfl rfl rfl) ?_
          refine GoH.regionEnd ?_
          exact IH2 ((j : Int) - 1, j) _ _ ⟨by dsimp only; omega, by dsimp only; omega, by dsimp only; omega, .inr h3⟩ (by dsimp only; omega) ⟨rfl, rfl, rfl, rfl, rfl, rfl, rfl, rfl, trivial⟩ (List.Sublist.refl _)
        · -- no
          have h2 : ¬ ys[j] = ys[k] := by simpa using hc
          have h3 := hgo low (fun h => absurd (hiff.1 h).2 h2) (fun _ => rfl)
          refine GoH.skip ?_
          refine GoH.inBlock ?_
          refine GoH.region ?_
          refine GoH.v (Vop.mv rfl rfl rfl rfl) ?_
          refine GoH.v (Vop.bin rfl rfl rfl rfl (bSub (by omega)) rfl) ?_
          refine GoH.v (Vop.asg rfl rfl rfl rfl) ?_
          refine GoH.regionEnd ?_
          exact IH2 ((j : Int) - 1, low) _ _ ⟨by dsimp only; omega, by dsimp only; omega, hlow, .inr h3⟩ (by dsimp only; omega) ⟨rfl, rfl, rfl, rfl, rfl, rfl, rfl, rfl, trivial⟩ (List.Sublist.refl _)
      · -- no
        have h1 : ¬ xs[j] = xs[k] := by simpa using hc
        have h3 := hgo low (fun h => absurd (hiff.1 h).1 h1) (fun _ => rfl)
        refine RdGo.no rfl rfl rfl rfl rfl ?_
        refine RdGo.no rfl rfl rfl rfl rfl ?_
        refine RdGo.no rfl rfl rfl rfl rfl ?_
        refine RdGo.no rfl rfl rfl rfl rfl ?_
        refine RdGo.no rfl rfl rfl rfl rfl ?_
        refine RdGo.no rfl rfl rfl rfl rfl ?_
        refine RdGo.no rfl rfl rfl rfl rfl ?_
        refine RdGo.no rfl rfl rfl rfl rfl ?_
        refine RdGo.no rfl rfl rfl rfl rfl ?_
        refine RdGo.v (Vop.pickF rfl rfl rfl rfl rfl) ?_
        refine RdGo.nil ?_
        refine GoH.regionEnd ?_
        refine GoH.condF rfl ?_
        refine GoH.skip ?_
        refine GoH.inBlock ?_
        refine GoH.region ?_
        refine GoH.v (Vop.mv rfl rfl rfl rfl) ?_
        refine GoH.v (Vop.bin rfl rfl rfl rfl (bSub (by omega)) rfl) ?_
        refine GoH.v (Vop.asg rfl rfl rfl rfl) ?_
        refine GoH.regionEnd ?_
        exact IH2 ((j : Int) - 1, low) _ _ ⟨by dsimp only; omega, by dsimp only; omega, hlow, .inr h3⟩ (by dsimp only; omega) ⟨rfl, rfl, rfl, rfl, rfl, rfl, rfl, rfl, trivial⟩ (List.Sublist.refl _)
    · -- no
      have hj0 : ¬ 0 ≤ j := by simpa using hc
      have hled : led K k = low := by
        rcases hD with ⟨h1, _⟩ | hD
        · omega
        · exact hD.led (by omega)
      refine GoH.exit rfl ?_
      refine GoH.region ?_
      refine GoH.v (Vop.mv rfl rfl rfl rfl) ?_
      refine GoH.v (Vop.mv rfl rfl rfl rfl) ?_
      refine GoH.bs1 (v := I64 (low : Int)) rfl rfl rfl rfl Tryd.underlying28 hi hz hsz rfl rfl (fun b43 => ?_)
      -- heap: b43 q
      refine GoH.appE I64 (xs := leds K k) (sp := sp) (news := [(low : Int)]) (spn := []) rfl rfl rfl rfl rfl Tryd.underlying28 hi hz hsz rfl hq 1 rfl 0 rfl hcap rfl (by decide) (fun _ => rfl) (by unfold maxLen; rw [hlk]; omega) (by rw [hby, hlk]; omega) (fun b' sp' cap' hlen2 => ?_)
      rw [← hled, ← leds_succ] at *
      -- heap: b43 b'
      refine GoH.v (Vop.asg rfl rfl rfl rfl) ?_
      refine GoH.regionEnd ?_
      refine GoH.inBlock ?_
      refine GoH.region ?_
      refine GoH.v (Vop.bin rfl rfl rfl rfl (bAdd (by omega)) rfl) ?_
      refine GoH.v (Vop.mv rfl rfl rfl rfl) ?_
      refine GoH.regionEnd ?_
      exact IH (k + 1, some b', cap', sp') _ _ ⟨hlt, (fun e => by cases e), hlen2⟩ (by dsimp only; omega) ⟨rfl, rfl, rfl, rfl, rfl, trivial⟩ (.cons _ (List.Sublist.refl _))
  · -- no
    have hge : ¬ k < xs.length := by simpa using hc
    obtain rfl : k = xs.length := by omega
    refine GoH.exit rfl ?_
    refine GoH.seq ?_
    refine GoH.region ?_
    refine GoH.v (Vop.mv rfl rfl rfl rfl) ?_
    refine GoH.v (Vop.asg rfl rfl rfl rfl) ?_
    refine GoH.regionEnd ?_
    refine GoH.ret Tryd.f77 Tryd.func77 rfl (fun w' hS => ?_)
    exact ⟨hS.ext, OwnS.mk hS 0 rfl rfl hq hcap⟩
theorem rsplit_c (a : Option Addr) (ca : Nat) (xs : List Int) (b : Option Addr) (cb : Nat) (ys : List Int) (w : World) (ha : SlI w a xs) (hb : SlI w b ys) (hp : OkP xs) (hy : ys.length = xs.length) :
    Cn Tryd.prog 61 [.slice a xs.length ca, .slice b ys.length cb] w (fun v w' => ∃ sv, v = .tuple #[sv, .int .i64 0] ∧ OwnS I64 3 w w' sv (divP xs ys)) := by
  refine Cn.of Tryd.func61 rfl rfl ?_
  refine GoH.seq ?_
  refine GoH.region ?_
  refine GoH.v (Vop.asg rfl rfl rfl rfl) ?_
  refine GoH.v (Vop.asg rfl rfl rfl rfl) ?_
  refine GoH.regionEnd ?_
  refine GoH.seq ?_
  refine GoH.seq ?_
  refine GoH.region ?_
  refine GoH.v (Vop.mv rfl rfl rfl rfl) ?_
  refine GoH.callP rfl rfl rfl rfl rfl (fun _ _ => Tryd.call76 _ _) (fun w _ hS => rpchk_c a ca xs w (ha.ex0 hS.ext) hp) ?_
  refine GoH.v (Vop.asg rfl rfl rfl rfl) ?_
  refine GoH.regionEnd ?_
  refine GoH.seq ?_
  refine GoH.region ?_
  refine GoH.v (Vop.mv rfl rfl rfl rfl) ?_
  refine GoH.v (Vop.bin rfl rfl rfl rfl (bNeV (v := false) rfl) rfl) ?_
  refine GoH.regionEnd ?_
  refine GoH.condF rfl ?_
  refine GoH.skip ?_
  refine GoH.seq ?_
  refine GoH.seq ?_
  refine GoH.region ?_
  refine GoH.v (Vop.mv rfl rfl rfl rfl) ?_
  refine GoH.v (Vop.blt rfl rfl rfl (blt_len_slice Tryd.underlying28) rfl) ?_
  refine GoH.v (Vop.mv rfl rfl rfl rfl) ?_
  refine GoH.v (Vop.blt rfl rfl rfl (blt_len_slice Tryd.underlying28) rfl) ?_
  refine GoH.v (Vop.bin rfl rfl rfl rfl (bNeV (v := false) (by rw [hy]; simp)) rfl) ?_
  refine GoH.regionEnd ?_
  refine GoH.condF rfl ?_
  refine GoH.skip ?_
  refine GoH.seq ?_
  refine GoH.region ?_
  refine GoH.v (Vop.mv rfl rfl rfl rfl) ?_
  refine GoH.v (Vop.mv rfl rfl rfl rfl) ?_
  refine GoH.callM _ rfl rfl rfl rfl rfl (fun _ _ => Tryd.call77 _ _) (fun w _ hS => rcan_c a ca xs b cb ys w (ha.ex0 hS.ext) (hb.ex0 hS.ext) hp.len hy) ?_
  rintro v w1 w2 Y' hS he ho
  obtain ⟨q, cap, sp, rfl, hq, hcap, hS'⟩ := gainS hS he ho
  refine ⟨_, hS', ?_⟩
  refine GoH.v (Vop.asg rfl rfl rfl rfl) ?_
  refine GoH.v (Vop.asg rfl rfl rfl rfl) ?_
  refine GoH.regionEnd ?_
  refine GoH.ret Tryd.f61 Tryd.func61 rfl (fun w' hS => ?_)
  exact ⟨hS.ext, _, rfl, OwnS.mk hS 0 rfl rfl hq hcap⟩
theorem rtriv_c (n : Nat) (w : World) (hn : n ≤ 64) : Cn Tryd.prog 60 [.int .i64 n] w (fun v w' => ∃ sv, v = .tuple #[sv, .int .i64 0] ∧ OwnS I64 3 w w' sv (List.replicate n 0)) := by
  obtain ⟨i0, hi, hz, hsz, hby⟩ := info_parts infoI
  refine Cn.of Tryd.func60 rfl rfl ?_
  refine GoH.seq ?_
  refine GoH.region ?_
  refine GoH.v (Vop.asg rfl rfl rfl rfl) ?_
  refine GoH.v (Vop.asg rfl rfl rfl rfl) ?_
  refine GoH.regionEnd ?_
  refine GoH.seq ?_
  refine GoH.seq ?_
  refine GoH.region ?_
  refine GoH.v (Vop.mv rfl rfl rfl rfl) ?_
  refine GoH.v (Vop.bin rfl rfl rfl rfl (bLtV (v := false) (decide_eq_false (by omega))) rfl) ?_
  refine GoH.v (Vop.mv rfl rfl rfl rfl) ?_
  refine GoH.v (Vop.mv rfl rfl rfl rfl) ?_
  refine GoH.v (Vop.bin rfl rfl rfl rfl (bGtV (v := false) (decide_eq_false (by omega))) rfl) ?_
  refine GoH.v (Vop.pickF rfl rfl rfl rfl rfl) ?_
  refine GoH.regionEnd ?_
  refine GoH.condF rfl ?_
  refine GoH.skip ?_
  refine GoH.seq ?_
  refine GoH.region ?_
  refine GoH.v (Vop.mv rfl rfl rfl rfl) ?_
  refine GoH.mkE I64 0 (m := n) rfl rfl rfl rfl rfl Tryd.underlying28 hi hz rfl hsz (by rw [hby]; omega) (by unfold maxLen; omega) (fun b11 => ?_)
  -- heap: b11
  refine GoH.v (Vop.asg rfl rfl rfl rfl) ?_
  refine GoH.v (Vop.asg rfl rfl rfl rfl) ?_
  refine GoH.regionEnd ?_
  refine GoH.ret Tryd.f60 Tryd.func60 rfl (fun w' hS => ?_)
  exact ⟨hS.ext, _, rfl, OwnS.one hS 0 rfl (by simp)⟩
theorem rsame_c (a : Option Addr) (ca : Nat) (xs : List Int) (b : Option Addr) (cb : Nat) (ys : List Int) (w : World) (ha : SlI w a xs) (hb : SlI w b ys) (hl : xs.length ≤ maxLen) :
    Cn Tryd.prog 63 [.slice a xs.length ca, .slice b ys.length cb] w (fun v _ => v = .bool (xs == ys)) := by
  unfold maxLen at hl
  refine Cn.of Tryd.func63 rfl rfl ?_
  refine GoH.seq ?_
  refine GoH.region ?_
  refine GoH.v (Vop.asg rfl rfl rfl rfl) ?_
  refine GoH.regionEnd ?_
  refine GoH.seq ?_
  refine GoH.seq ?_
  refine GoH.region ?_
  refine GoH.v (Vop.mv rfl rfl rfl rfl) ?_
  refine GoH.v (Vop.blt rfl rfl rfl (blt_len_slice Tryd.underlying28) rfl) ?_
  refine GoH.v (Vop.mv rfl rfl rfl rfl) ?_
  refine GoH.v (Vop.blt rfl rfl rfl (blt_len_slice Tryd.underlying28) rfl) ?_
  refine GoH.v (Vop.bin rfl rfl rfl rfl bNe rfl) ?_
  refine GoH.regionEnd ?_
  refine GoH.cond rfl (fun hc => ?_) (fun hc => ?_)
  · -- yes
    have h1 : xs.length ≠ ys.length := by simp at hc; omega
    refine GoH.seq ?_
    refine GoH.region ?_
    refine GoH.v (Vop.asg rfl rfl rfl rfl) ?_
    refine GoH.regionEnd ?_
    refine GoH.ret Tryd.f63 Tryd.func63 rfl (fun w' hS => ?_)
    exact ⟨hS.ext, by rw [show (xs == ys) = false from by rw [beq_eq_false_iff_ne]; rintro rfl; exact h1 rfl]; rfl⟩
  · -- no
    have h1 : xs.length = ys.length := by simp at hc; omega
    refine GoH.skip ?_
    refine GoH.seq ?_
    refine GoH.seq ?_
    refine GoH.region ?_
    refine GoH.v (Vop.mv rfl rfl rfl rfl) ?_
    refine GoH.v (Vop.blt rfl rfl rfl (blt_len_slice Tryd.underlying28) rfl) ?_
    refine GoH.v (Vop.mv rfl rfl rfl rfl) ?_
    refine GoH.regionEnd ?_
    refine GoH.block ?_
    refine GoH.loop (σ := Nat) (fun k => [(0, .slice a xs.length ca), (1, .slice b ys.length cb), (12, .int .i64 xs.length), (13, .int .i64 k)]) (fun _ => []) (fun k => k ≤ xs.length ∧ ∀ i, i < k → xs.getD i 0 = ys.getD i 0) (fun k => xs.length - k) 0 ⟨Nat.zero_le _, fun i hi => by omega⟩ ⟨rfl, rfl, rfl, rfl, trivial⟩ .slnil (fun k hI IH => ?_)
    obtain ⟨hk, hall⟩ := hI
    refine GoH.seq ?_
    refine GoH.region ?_
    refine GoH.v (Vop.bin rfl rfl rfl rfl bLt rfl) ?_
    refine GoH.regionEnd ?_
    refine GoH.seq ?_
    refine GoH.cond rfl (fun hc => ?_) (fun hc => ?_)
    · -- yes
      have hlt : k < xs.length := by simpa using hc
      have hlt2 : k < ys.length := h1 ▸ hlt
      refine GoH.skip ?_
      refine GoH.seq ?_
      refine GoH.block ?_
      refine GoH.seq ?_
      refine GoH.region ?_
      refine GoH.v (Vop.mv rfl rfl rfl rfl) ?_
      refine GoH.v (Vop.asg rfl rfl rfl rfl) ?_
      refine GoH.regionEnd ?_
      refine GoH.seq ?_
      refine GoH.draw 9 mixed rfl ?_
      refine RdGo.v (Vop.mv rfl rfl rfl rfl) ?_
      refine RdGo.v (Vop.mv rfl rfl rfl rfl) ?_
      refine RdGo.v (Vop.idx rfl rfl rfl rfl rfl Tryd.underlying28 Tryd.sizeOf3 ⟨_, ha⟩ (by simp) (k) ⟨rfl, by simpa using hlt⟩) ?_
      refine RdGo.v (Vop.ld rfl rfl rfl rfl Tryd.isAgg3 (fun w _ hS => (SlI.ex0 ha hS.ext).at (k) hlt)) ?_
      refine RdGo.v (Vop.mv rfl rfl rfl rfl) ?_
      refine RdGo.v (Vop.mv rfl rfl rfl rfl) ?_
      refine RdGo.v (Vop.idx rfl rfl rfl rfl rfl Tryd.underlying28 Tryd.sizeOf3 ⟨_, hb⟩ (by simp) (k) ⟨rfl, by simpa using hlt2⟩) ?_
      refine RdGo.v (Vop.ld rfl rfl rfl rfl Tryd.isAgg3 (fun w _ hS => (SlI.ex0 hb hS.ext).at (k) hlt2)) ?_
      refine RdGo.v (Vop.bin rfl rfl rfl rfl bNe rfl) ?_
      refine RdGo.nil ?_
      refine GoH.regionEnd ?_
      refine GoH.cond rfl (fun hc => ?_) (fun hc => ?_)
      · -- yes
        have h2 : (xs == ys) = false := by
          rw [beq_eq_false_iff_ne]
          rintro rfl
          simp at hc
        refine GoH.seq ?_
        refine GoH.region ?_
        refine GoH.v (Vop.asg rfl rfl rfl rfl) ?_
        refine GoH.regionEnd ?_
        refine GoH.ret Tryd.f63 Tryd.func63 rfl (fun w' hS => ?_)
        exact ⟨hS.ext, by rw [h2]; rfl⟩
      · -- no
        have h2 : xs[k] = ys[k] := by simpa using hc
        refine GoH.skip ?_
        refine GoH.inBlock ?_
        refine GoH.region ?_
        refine GoH.v (Vop.bin rfl rfl rfl rfl (bAdd (by omega)) rfl) ?_
        refine GoH.v (Vop.mv rfl rfl rfl rfl) ?_
        refine GoH.regionEnd ?_
        exact IH (k + 1) _ _ ⟨hlt, fun i hi => by
        by_cases e : i = k
        · subst e; rw [← lowE hlt, ← lowE hlt2, h2]
        · exact hall i (by omega)⟩ (by omega) ⟨rfl, rfl, rfl, rfl, trivial⟩ .slnil
    · -- no
      have hge : ¬ k < xs.length := by simpa using hc
      obtain rfl : k = xs.length := by omega
      refine GoH.exit rfl ?_
      refine GoH.seq ?_
      refine GoH.region ?_
      refine GoH.v (Vop.asg rfl rfl rfl rfl) ?_
      refine GoH.regionEnd ?_
      refine GoH.ret Tryd.f63 Tryd.func63 rfl (fun w' hS => ?_)
      exact ⟨hS.ext, by rw [eqI_of h1 hall, beq_self_eq_true]; rfl⟩
end Go.Proofs.YtpifbcbdbkbbjaaDoor
