/- What calls of the program return, under the conditions that each theorem states. -/
import Derived.Test.YtcljmlnnfdaljaaGreatDoorZ11
import Derived.Test.YtcljmlnnfdaljaaGreatDoorZ12
import Derived.Test.YtcljmlnnfdaljaaGreatDoorZ04
namespace Go.Proofs.YtcljmlnnfdaljaaGreatDoor
open Go.RowKit Go.Proofs.Wit
/-! the reference on partitions -/
theorem rBit_c (s : W64) (i : Nat) (w : World) : Cn Tryz.prog 88 [U s, .int .i64 i] w (fun v _ => v = .bool (s.getLsbD i)) := by
  refine Cn.of Tryz.func88 rfl rfl ?_
  refine gS (gR ?_)
  refine gAs ?_
  refine gE (gS (gR ?_))
  refine gMv ?_
  refine GoH.v (Vop.bin rfl rfl rfl rfl (bGeV (v := true) (decide_eq_true (by omega))) rfl) ?_
  iterate 2 refine gMv ?_
  refine gBi bLt ?_
  refine gPt ?_
  refine gMv ?_
  refine GoH.cases (d := 11) rfl (fun hc => ?_) (fun hc => ?_)
  ·
   have hlt : i < 64 := by simp at hc; omega
   iterate 2 refine gMv ?_
   refine GoH.v (Vop.bin rfl rfl rfl rfl (bShr i rfl) rfl) ?_
   refine GoH.v (Vop.bin (b := U 2#64) rfl rfl rfl rfl bRem2 rfl) ?_
   refine GoH.v (Vop.bin (b := U 1#64) rfl rfl rfl rfl bEqU rfl) ?_
   refine gPt ?_
   refine gAs ?_
   refine gE ?_
   refine GoH.ret Tryz.f88 Tryz.func88 rfl (fun w' hS => ?_)
   exact ⟨hS.ext, by rw [← in_bit]; rfl⟩
  ·
   have hge : ¬ i < 64 := by simp at hc; omega
   iterate 5 refine gNo ?_
   refine gPf ?_
   refine gAs ?_
   refine gE ?_
   refine GoH.ret Tryz.f88 Tryz.func88 rfl (fun w' hS => ?_)
   refine ⟨hS.ext, ?_⟩
   cases h : s.getLsbD i with
   | false => rfl
   | true => exact absurd (bit_lt h) hge
theorem rpchk_c (a : Option Addr) (ca : Nat) (p : List Int) (w : World) (ha : SlI w a p) (hp : OkP p) :
    Cn Tryz.prog 89 [.slice a p.length ca] w (fun v _ => v = .int .i64 0) := by
  have hl := hp.len
  refine Cn.of Tryz.func89 rfl rfl ?_
  refine gS (gR ?_)
  refine gAs ?_
  refine gE (gS (gS (gR ?_)))
  refine gMv ?_
  refine gBl Tryz.underlying49 ?_
  refine GoH.v (Vop.bin rfl rfl rfl rfl (bGtV (v := false) (decide_eq_false (by omega))) rfl) ?_
  refine gE (GoH.condF rfl (gK (gS (gS (gR ?_)))))
  refine gMv ?_
  refine gBl Tryz.underlying49 ?_
  refine gMv ?_
  refine gE (gB ?_)
  refine GoH.loop (σ := Nat) (fun k => [(0, .slice a p.length ca), (8, .slice a p.length ca), (9, .int .i64 p.length), (10, .int .i64 k)]) (fun _ => []) (fun k => k ≤ p.length) (fun k => p.length - k) 0 (Nat.zero_le _) ⟨rfl, rfl, rfl, rfl, trivial⟩ .slnil (fun k hI IH => ?_)
  refine gS (gR ?_)
  refine gBi bLt ?_
  refine gE (gS ?_)
  refine GoH.cond rfl (fun hc => ?_) (fun hc => ?_)
  ·
   have hlt : k < p.length := by simpa using hc
   obtain ⟨h1, h2, h3⟩ := hp.low k hlt
   rw [← lowE hlt] at h1 h2 h3
   have h4 : p[k].toNat < p.length := by omega
   refine gK (gS (gB (gS (gR ?_))))
   refine gMv ?_
   refine GoH.v (Vop.idx rfl rfl rfl rfl rfl Tryz.underlying49 Tryz.sizeOf3 ⟨_, ha⟩ (by simp) (k) ⟨rfl, by simpa using hlt⟩) ?_
   refine GoH.v (Vop.ld rfl rfl rfl rfl Tryz.isAgg3 (fun w _ hS => (SlI.ex0 ha hS.ext).at (k) hlt)) ?_
   iterate 2 refine gAs ?_
   refine gE (gS (gR ?_))
   refine gMv ?_
   refine GoH.v (Vop.bin rfl rfl rfl rfl (bLtV (v := false) (decide_eq_false (by omega))) rfl) ?_
   iterate 3 refine gMv ?_
   refine GoH.v (Vop.bin rfl rfl rfl rfl (bGtV (v := false) (decide_eq_false (by omega))) rfl) ?_
   refine gPf ?_
   iterate 3 refine gMv ?_
   refine GoH.v (Vop.idx rfl rfl rfl rfl rfl Tryz.underlying49 Tryz.sizeOf3 ⟨_, ha⟩ (by simp) p[k].toNat ⟨by omega, by simpa using h4⟩) ?_
   refine GoH.v (Vop.ld rfl rfl rfl rfl Tryz.isAgg3 (fun w _ hS => (SlI.ex0 ha hS.ext).at p[k].toNat h4)) ?_
   refine gMv ?_
   refine GoH.v (Vop.bin rfl rfl rfl rfl (bNeV (v := false) (by rw [lowE h4, h3]; simp)) rfl) ?_
   refine gPf ?_
   refine gE (GoH.condF rfl (gK (gIb (gR ?_))))
   refine GoH.v (Vop.bin rfl rfl rfl rfl (bAdd (by omega)) rfl) ?_
   refine gMv ?_
   refine gE ?_
   exact IH (k + 1) _ _ hlt (by omega) ⟨rfl, rfl, rfl, rfl, trivial⟩ .slnil
  ·
   refine GoH.exit rfl (gS (gR ?_))
   refine gAs ?_
   refine gE ?_
   refine GoH.ret Tryz.f89 Tryz.func89 rfl (fun w' hS => ?_)
   exact ⟨hS.ext, rfl⟩
theorem ledPair {xs ys : List Int} : divP xs ys = leds (keyD xs ys) xs.length := rfl
theorem rcan_c (a : Option Addr) (ca : Nat) (xs : List Int) (b : Option Addr) (cb : Nat) (ys : List Int) (w : World) (ha : SlI w a xs) (hb : SlI w b ys) (hl : xs.length ≤ 64) (hy : ys.length = xs.length) :
    Cn Tryz.prog 90 [.slice a xs.length ca, .slice b ys.length cb] w (fun v w' => OwnS I64 3 w w' v (divP xs ys)) := by
  obtain ⟨i0, hi, hz, hsz, hby⟩ := info_parts infoI
  rw [ledPair]
  obtain ⟨K, hK⟩ : ∃ K, keyD xs ys = K := ⟨_, rfl⟩
  have hKe : ∀ i j (hi : i < xs.length) (hj : j < xs.length), K i = K j ↔ xs[i] = xs[j] ∧ ys[i]'(hy ▸ hi) = ys[j]'(hy ▸ hj) := fun i j hi hj => by
    rw [← hK]
    unfold keyD
    rw [Prod.mk.injEq, ← lowE hi, ← lowE hj, ← lowE (hy ▸ hi), ← lowE (hy ▸ hj)]
  rw [hK]
  refine Cn.of Tryz.func90 rfl rfl ?_
  refine gS (gR ?_)
  refine gAs ?_
  refine gE (gS (gR ?_))
  refine gAs ?_
  refine gE (gS (gS (gR ?_)))
  refine gMv ?_
  refine gBl Tryz.underlying49 ?_
  refine gMv ?_
  refine gE (gB ?_)
  refine GoH.addNone (ob I64 3 [] []) ?_
  refine GoH.loop (σ := Nat × Option Nat × Nat × List Value) (fun z => [(0, .slice a xs.length ca), (1, .slice b ys.length cb), (5, osv z.2.1 (leds K z.1).length z.2.2.1), (10, .int .i64 xs.length), (11, .int .i64 z.1)]) (fun z => [(z.2.1, ob I64 3 (leds K z.1) z.2.2.2)])
    (fun z => z.1 ≤ xs.length ∧ (z.2.1 = none → (leds K z.1).length = 0 ∧ z.2.2.1 = 0) ∧ ((leds K z.1).map I64 ++ z.2.2.2).length = z.2.2.1) (fun z => xs.length - z.1) (0, none, 0, []) ⟨Nat.zero_le _, fun _ => ⟨rfl, rfl⟩, rfl⟩ ⟨rfl, rfl, rfl, rfl, rfl, trivial⟩ (List.Sublist.refl _) (fun z hI IH => ?_)
  obtain ⟨k, q, cap, sp⟩ := z
  obtain ⟨hk, hq, hcap⟩ := hI
  dsimp only at hk hq hcap IH ⊢
  refine gS (gR ?_)
  refine gBi bLt ?_
  refine gE (gS ?_)
  refine GoH.cond rfl (fun hc => ?_) (fun hc => ?_)
  ·
   have hlt : k < xs.length := by simpa using hc
   have hlk : (leds K k).length = k := leds_len
   refine gK (gS (gB (gS (gR ?_))))
   refine gMv ?_
   refine gAs ?_
   refine gE (gS (gR ?_))
   refine gMv ?_
   refine gAs ?_
   refine gE (gS (gS (gR ?_)))
   refine gMv ?_
   refine gAs ?_
   refine gE (gB ?_)
   refine GoH.loop (σ := Int × Nat) (fun z => [(0, .slice a xs.length ca), (1, .slice b ys.length cb), (5, osv q (leds K k).length cap), (6, .int .i64 k), (7, .int .i64 z.2), (8, .int .i64 z.1), (10, .int .i64 xs.length), (11, .int .i64 k)]) (fun _ => [(q, ob I64 3 (leds K k) sp)])
     (fun z => -1 ≤ z.1 ∧ z.1 ≤ k ∧ z.2 ≤ k ∧ (z.1 = k ∧ z.2 = k ∨ Down K k z.1 z.2)) (fun z => (z.1 + 1).toNat) (k, k) ⟨by omega, Int.le_refl _, Nat.le_refl _, .inl ⟨rfl, rfl⟩⟩ ⟨rfl, rfl, rfl, rfl, rfl, rfl, rfl, rfl, trivial⟩ (List.Sublist.refl _) (fun z hI IH2 => ?_)
   obtain ⟨j, low⟩ := z
   obtain ⟨hj1, hj2, hlow, hD⟩ := hI
   dsimp only at hj1 hj2 hlow hD IH2 ⊢
   refine gS (gS (gR ?_))
   refine gMv ?_
   refine gBi bGe ?_
   refine gE ?_
   refine GoH.cond rfl (fun hc => ?_) (fun hc => ?_)
   ·
    have hj0 : 0 ≤ j := by simpa using hc
    obtain ⟨j, rfl⟩ : ∃ J : Nat, j = J := ⟨j.toNat, by omega⟩
    have hjl : j < xs.length := by omega
    have hjl2 : j < ys.length := by omega
    have hkl2 : k < ys.length := by omega
    have hiff := hKe j k hjl hlt
    have hgo : ∀ low', (K j = K k → low' = j) → (K j ≠ K k → low' = low) → Down K k ((j : Int) - 1) low' := fun low' e1 e2 => by
      by_cases e : K j = K k
      · rw [e1 e]
        rcases hD with ⟨h1, h2⟩ | hD
        · obtain rfl : j = k := by omega
          exact Down.start (by omega) (fun m h3 h4 => by omega)
        · exact hD.hit (by omega) e
      · rw [e2 e]
        rcases hD with ⟨h1, h2⟩ | hD
        · obtain rfl : j = k := by omega
          exact absurd rfl e
        · exact hD.skip e
    refine gK (gS (gB (gS ?_)))
    refine GoH.draw 20 mixed rfl ?_
    iterate 2 refine rMv ?_
    refine RdGo.v (Vop.idx rfl rfl rfl rfl rfl Tryz.underlying49 Tryz.sizeOf3 ⟨_, ha⟩ (by simp) (j) ⟨rfl, by simpa using hjl⟩) ?_
    refine RdGo.v (Vop.ld rfl rfl rfl rfl Tryz.isAgg3 (fun w _ hS => (SlI.ex0 ha hS.ext).at (j) hjl)) ?_
    iterate 2 refine rMv ?_
    refine RdGo.v (Vop.idx rfl rfl rfl rfl rfl Tryz.underlying49 Tryz.sizeOf3 ⟨_, ha⟩ (by simp) (k) ⟨rfl, by simpa using hlt⟩) ?_
    refine RdGo.v (Vop.ld rfl rfl rfl rfl Tryz.isAgg3 (fun w _ hS => (SlI.ex0 ha hS.ext).at (k) hlt)) ?_
    refine rBi bEq ?_
    refine rMv ?_
    refine RdGo.cases (d := 29) rfl (fun hc => ?_) (fun hc => ?_)
    ·
     have h1 : xs[j] = xs[k] := by simpa using hc
     iterate 2 refine rMv ?_
     refine RdGo.v (Vop.idx rfl rfl rfl rfl rfl Tryz.underlying49 Tryz.sizeOf3 ⟨_, hb⟩ (by simp) (j) ⟨rfl, by simpa using hjl2⟩) ?_
     refine RdGo.v (Vop.ld rfl rfl rfl rfl Tryz.isAgg3 (fun w _ hS => (SlI.ex0 hb hS.ext).at (j) hjl2)) ?_
     iterate 2 refine rMv ?_
     refine RdGo.v (Vop.idx rfl rfl rfl rfl rfl Tryz.underlying49 Tryz.sizeOf3 ⟨_, hb⟩ (by simp) (k) ⟨rfl, by simpa using hkl2⟩) ?_
     refine RdGo.v (Vop.ld rfl rfl rfl rfl Tryz.isAgg3 (fun w _ hS => (SlI.ex0 hb hS.ext).at (k) hkl2)) ?_
     refine rBi bEq ?_
     refine rPt ?_
     refine RdGo.nil ?_
     refine gE ?_
     refine GoH.cond rfl (fun hc => ?_) (fun hc => ?_)
     ·
      have h2 : ys[j] = ys[k] := by simpa using hc
      have h3 := hgo j (fun _ => rfl) (fun h => absurd (hiff.2 ⟨h1, h2⟩) h)
      refine gR ?_
      refine gMv ?_
      refine gAs ?_
      refine gE (gIb (gR ?_))
      refine gMv ?_
      refine GoH.v (Vop.bin rfl rfl rfl rfl (bSub (by omega)) rfl) ?_
      refine gAs ?_
      refine gE ?_
      exact IH2 ((j : Int) - 1, j) _ _ ⟨by dsimp only; omega, by dsimp only; omega, by dsimp only; omega, .inr h3⟩ (by dsimp only; omega) ⟨rfl, rfl, rfl, rfl, rfl, rfl, rfl, rfl, trivial⟩ (List.Sublist.refl _)
     ·
      have h2 : ¬ ys[j] = ys[k] := by simpa using hc
      have h3 := hgo low (fun h => absurd (hiff.1 h).2 h2) (fun _ => rfl)
      refine gK (gIb (gR ?_))
      refine gMv ?_
      refine GoH.v (Vop.bin rfl rfl rfl rfl (bSub (by omega)) rfl) ?_
      refine gAs ?_
      refine gE ?_
      exact IH2 ((j : Int) - 1, low) _ _ ⟨by dsimp only; omega, by dsimp only; omega, hlow, .inr h3⟩ (by dsimp only; omega) ⟨rfl, rfl, rfl, rfl, rfl, rfl, rfl, rfl, trivial⟩ (List.Sublist.refl _)
    ·
     have h1 : ¬ xs[j] = xs[k] := by simpa using hc
     have h3 := hgo low (fun h => absurd (hiff.1 h).1 h1) (fun _ => rfl)
     iterate 9 refine rNo ?_
     refine rPf ?_
     refine RdGo.nil ?_
     refine gE (GoH.condF rfl (gK (gIb (gR ?_))))
     refine gMv ?_
     refine GoH.v (Vop.bin rfl rfl rfl rfl (bSub (by omega)) rfl) ?_
     refine gAs ?_
     refine gE ?_
     exact IH2 ((j : Int) - 1, low) _ _ ⟨by dsimp only; omega, by dsimp only; omega, hlow, .inr h3⟩ (by dsimp only; omega) ⟨rfl, rfl, rfl, rfl, rfl, rfl, rfl, rfl, trivial⟩ (List.Sublist.refl _)
   ·
    have hj0 : ¬ 0 ≤ j := by simpa using hc
    have hled : led K k = low := by
      rcases hD with ⟨h1, _⟩ | hD
      · omega
      · exact hD.led (by omega)
    refine GoH.exit rfl (gR ?_)
    iterate 2 refine gMv ?_
    refine GoH.bs1 (v := I64 (low : Int)) rfl rfl rfl rfl Tryz.underlying49 hi hz hsz rfl rfl (fun b43 => ?_)
    refine GoH.appE I64 (xs := leds K k) (sp := sp) (news := [(low : Int)]) (spn := []) rfl rfl rfl rfl rfl Tryz.underlying49 hi hz hsz rfl hq 1 rfl 0 rfl hcap rfl (by decide) (fun _ => rfl) (by unfold maxLen; rw [hlk]; omega) (by rw [hby, hlk]; omega) (fun b' sp' cap' hlen2 => ?_)
    rw [← hled, ← leds_succ] at *
    refine gAs ?_
    refine gE (gIb (gR ?_))
    refine GoH.v (Vop.bin rfl rfl rfl rfl (bAdd (by omega)) rfl) ?_
    refine gMv ?_
    refine gE ?_
    exact IH (k + 1, some b', cap', sp') _ _ ⟨hlt, (fun e => by cases e), hlen2⟩ (by dsimp only; omega) ⟨rfl, rfl, rfl, rfl, rfl, trivial⟩ (.cons _ (List.Sublist.refl _))
  ·
   have hge : ¬ k < xs.length := by simpa using hc
   obtain rfl : k = xs.length := by omega
   refine GoH.exit rfl (gS (gR ?_))
   refine gMv ?_
   refine gAs ?_
   refine gE ?_
   refine GoH.ret Tryz.f90 Tryz.func90 rfl (fun w' hS => ?_)
   exact ⟨hS.ext, OwnS.mk hS 0 rfl rfl hq hcap⟩
theorem rsplit_c (a : Option Addr) (ca : Nat) (xs : List Int) (b : Option Addr) (cb : Nat) (ys : List Int) (w : World) (ha : SlI w a xs) (hb : SlI w b ys) (hp : OkP xs) (hy : ys.length = xs.length) :
    Cn Tryz.prog 60 [.slice a xs.length ca, .slice b ys.length cb] w (fun v w' => ∃ sv, v = .tuple #[sv, .int .i64 0] ∧ OwnS I64 3 w w' sv (divP xs ys)) := by
  refine Cn.of Tryz.func60 rfl rfl ?_
  refine gS (gR ?_)
  iterate 2 refine gAs ?_
  refine gE (gS (gS (gR ?_)))
  refine gMv ?_
  refine GoH.callP rfl rfl rfl rfl rfl (fun _ _ => Tryz.call89 _ _) (fun w _ hS => rpchk_c a ca xs w (ha.ex0 hS.ext) hp) ?_
  refine gAs ?_
  refine gE (gS (gR ?_))
  refine gMv ?_
  refine GoH.v (Vop.bin rfl rfl rfl rfl (bNeV (v := false) rfl) rfl) ?_
  refine gE (GoH.condF rfl (gK (gS (gS (gR ?_)))))
  refine gMv ?_
  refine gBl Tryz.underlying49 ?_
  refine gMv ?_
  refine gBl Tryz.underlying49 ?_
  refine GoH.v (Vop.bin rfl rfl rfl rfl (bNeV (v := false) (by rw [hy]; simp)) rfl) ?_
  refine gE (GoH.condF rfl (gK (gS (gR ?_))))
  iterate 2 refine gMv ?_
  refine GoH.callM _ rfl rfl rfl rfl rfl (fun _ _ => Tryz.call90 _ _) (fun w _ hS => rcan_c a ca xs b cb ys w (ha.ex0 hS.ext) (hb.ex0 hS.ext) hp.len hy) ?_
  rintro v w1 w2 Y' hS he ho
  obtain ⟨q, cap, sp, rfl, hq, hcap, hS'⟩ := gainS hS he ho
  refine ⟨_, hS', ?_⟩
  iterate 2 refine gAs ?_
  refine gE ?_
  refine GoH.ret Tryz.f60 Tryz.func60 rfl (fun w' hS => ?_)
  exact ⟨hS.ext, _, rfl, OwnS.mk hS 0 rfl rfl hq hcap⟩
theorem rtriv_c (n : Nat) (w : World) (hn : n ≤ 64) : Cn Tryz.prog 59 [.int .i64 n] w (fun v w' => ∃ sv, v = .tuple #[sv, .int .i64 0] ∧ OwnS I64 3 w w' sv (List.replicate n 0)) := by
  obtain ⟨i0, hi, hz, hsz, hby⟩ := info_parts infoI
  refine Cn.of Tryz.func59 rfl rfl ?_
  refine gS (gR ?_)
  iterate 2 refine gAs ?_
  refine gE (gS (gS (gR ?_)))
  refine gMv ?_
  refine GoH.v (Vop.bin rfl rfl rfl rfl (bLtV (v := false) (decide_eq_false (by omega))) rfl) ?_
  iterate 2 refine gMv ?_
  refine GoH.v (Vop.bin rfl rfl rfl rfl (bGtV (v := false) (decide_eq_false (by omega))) rfl) ?_
  refine gPf ?_
  refine gE (GoH.condF rfl (gK (gS (gR ?_))))
  refine gMv ?_
  refine GoH.mkE I64 0 (m := n) rfl rfl rfl rfl rfl Tryz.underlying49 hi hz rfl hsz (by rw [hby]; omega) (by unfold maxLen; omega) (fun b11 => ?_)
  iterate 2 refine gAs ?_
  refine gE ?_
  refine GoH.ret Tryz.f59 Tryz.func59 rfl (fun w' hS => ?_)
  exact ⟨hS.ext, _, rfl, OwnS.one hS 0 rfl (by simp)⟩
end Go.Proofs.YtcljmlnnfdaljaaGreatDoor
namespace Go.Proofs.YtcljmlnnfdaljaaGreatDoor
open Go.RowKit Go.Proofs.Wit
/-! the reference's rounds -/
theorem rfacts_c (m : MV) (x : Nat) (w : World) (hm : m.At w) (hv : ValM m.n m.val m.rel) (hx : (x : Int) < m.n) : Cn Tryz.prog 58 [m.v, .int .i64 x] w (fun v _ => v = .int .i64 (fm m.val x)) := by
  have hfa := hv.facts
  have hlv := hm.lv
  unfold maxLen at hlv
  refine Cn.of Tryz.func58 rfl rfl ?_
  refine gS (gR ?_)
  refine GoH.bx rfl rfl rfl rfl (fun b2 => ?_)
  refine gAs ?_
  refine gE (gS (gS (gR ?_)))
  refine GoH.v (Vop.ldB rfl rfl rfl rfl Tryz.isAgg25 0 rfl Tryz.sizeOf25 rfl) ?_
  refine GoH.callP rfl rfl rfl rfl rfl (fun _ _ => Tryz.call18 _ _) (fun w _ hS => (by exact (rmCheck_c m w (hm.ex0 hS.ext)).mono (fun v w' _ e => by rw [e, checkM_zero.2 hv]))) ?_
  refine GoH.v (Vop.bin rfl rfl rfl rfl (bNeV (v := false) rfl) rfl) ?_
  iterate 2 refine gMv ?_
  refine GoH.v (Vop.bin rfl rfl rfl rfl (bLtV (v := false) (decide_eq_false (by omega))) rfl) ?_
  refine gPf ?_
  iterate 2 refine gMv ?_
  refine gFp Tryz.underlying25 Tryz.sizeOf3 0 ?_
  refine GoH.v (Vop.ldo (v := .int .i64 m.n) rfl rfl rfl rfl Tryz.isAgg3 0 rfl rfl) ?_
  refine GoH.v (Vop.bin rfl rfl rfl rfl (bGeV (v := false) (decide_eq_false (by omega))) rfl) ?_
  refine gPf ?_
  refine gE (GoH.condF rfl (gK (gS (gR ?_))))
  refine gAs ?_
  refine gE (gS (gS (gR ?_)))
  refine gAs ?_
  refine gE (gB ?_)
  refine GoH.loop (σ := Nat) (fun k => [(1, .int .i64 x), (2, .pointer (some ⟨b2, 0, none⟩)), (5, .int .i64 (fmTo m.val x k)), (6, .int .i64 k)]) (fun _ => [(some b2, .cells m.v.cells 25 (0, 0))]) (fun k => k ≤ m.val.length) (fun k => m.val.length - k) 0 (Nat.zero_le _) ⟨rfl, rfl, rfl, rfl, trivial⟩ (List.Sublist.refl _) (fun k hI IH => ?_)
  refine gS (gS (gR ?_))
  refine gMv ?_
  refine gFp Tryz.underlying25 Tryz.sizeOf22 1 ?_
  refine GoH.v (Vop.ldo (v := .slice m.va m.val.length m.vc) rfl rfl rfl rfl Tryz.isAgg22 0 rfl rfl) ?_
  refine gBl Tryz.underlying22 ?_
  refine gBi bLt ?_
  refine gE ?_
  refine GoH.cond rfl (fun hc => ?_) (fun hc => ?_)
  ·
   have hlt : k < m.val.length := by simpa using hc
   have hf0 := fm_lt (val := m.val) (w := x) (k := k) (by omega)
   have hf1 := fm_lt (val := m.val) (w := x) (k := k + 1) (by omega)
   have hfs := fmTo_succ (val := m.val) (w := x) (k := k)
   refine gK (gS (gB (gS (gR ?_))))
   refine gFp Tryz.underlying25 Tryz.sizeOf22 1 ?_
   refine GoH.v (Vop.ldo (v := .slice m.va m.val.length m.vc) rfl rfl rfl rfl Tryz.isAgg22 0 rfl rfl) ?_
   refine gMv ?_
   refine GoH.v (Vop.idx rfl rfl rfl rfl rfl Tryz.underlying22 Tryz.sizeOf36 ⟨_, hm.val⟩ (by simp) (k) ⟨rfl, by simpa using hlt⟩) ?_
   refine GoH.v (Vop.ld rfl rfl rfl rfl Tryz.isAgg36 (fun w _ hS => (SlU.ex0 hm.val hS.ext).at (k) hlt)) ?_
   refine gMv ?_
   refine GoH.callP rfl rfl rfl rfl rfl (fun _ _ => Tryz.call88 _ _) (fun w _ hS => rBit_c (m.val.getD k 0#64) x w) ?_
   refine gE ?_
   refine GoH.cond rfl (fun hc => ?_) (fun hc => ?_)
   ·
    rw [if_pos hc] at hfs
    refine gR ?_
    iterate 2 refine gMv ?_
    refine GoH.v (Vop.bin rfl rfl rfl rfl (bShlN (x := 1) (j := k) rfl (bits_le (Nat.le_refl _) (by omega)) (by omega)) rfl) ?_
    refine GoH.v (Vop.bin rfl rfl rfl rfl (bAddE (c := (fmTo m.val x (k + 1) : Int)) (by omega) (by omega)) rfl) ?_
    refine gAs ?_
    refine gE (gIb (gR ?_))
    refine gMv ?_
    refine GoH.v (Vop.bin rfl rfl rfl rfl (bAdd (by omega)) rfl) ?_
    refine gAs ?_
    refine gE ?_
    exact IH (k + 1) _ _ hlt (by omega) ⟨rfl, rfl, rfl, rfl, trivial⟩ (List.Sublist.refl _)
   ·
    rw [if_neg (by rw [hc]; simp)] at hfs
    rw [Nat.add_zero] at hfs
    refine gK (gIb (gR ?_))
    refine gMv ?_
    refine GoH.v (Vop.bin rfl rfl rfl rfl (bAdd (by omega)) rfl) ?_
    refine gAs ?_
    refine gE ?_
    exact IH (k + 1) _ _ hlt (by omega) ⟨rfl, rfl, (by rw [hfs]; rfl), rfl, trivial⟩ (List.Sublist.refl _)
  ·
   have hge : ¬ k < m.val.length := by simpa using hc
   obtain rfl : k = m.val.length := by omega
   refine GoH.exit rfl (gS (gR ?_))
   refine gMv ?_
   refine gAs ?_
   refine gE ?_
   refine GoH.ret Tryz.f58 Tryz.func58 rfl (fun w' hS => ?_)
   exact ⟨hS.ext, rfl⟩
theorem rreach_c (a : Option Addr) (ca : Nat) (p : List Int) (s : W64) (w : World) (n : Nat) (hn : p.length = n) (ha : SlI w a p) (hp : OkP p) :
    Cn Tryz.prog 61 [.slice a n ca, U s] w (fun v _ => v = U (rch p s)) := by
  subst hn
  have hpl := hp.len
  refine Cn.of Tryz.func61 rfl rfl ?_
  refine gS (gR ?_)
  refine GoH.v (Vop.asg (v := U 0#64) rfl rfl rfl rfl) ?_
  refine gE (gS (gR ?_))
  refine GoH.v (Vop.asg (v := U 0#64) rfl rfl rfl rfl) ?_
  refine gE (gS (gS (gR ?_)))
  refine gMv ?_
  refine gBl Tryz.underlying49 ?_
  refine gMv ?_
  refine gE (gB ?_)
  refine GoH.loop (σ := Nat) (fun k => [(1, U s), (5, U (rchTo p s k)), (8, .slice a p.length ca), (9, .int .i64 p.length), (10, .int .i64 k)]) (fun _ => []) (fun k => k ≤ p.length) (fun k => p.length - k) 0 (Nat.zero_le _) ⟨rfl, rfl, rfl, rfl, rfl, trivial⟩ .slnil (fun k hI IH => ?_)
  refine gS (gR ?_)
  refine gBi bLt ?_
  refine gE (gS ?_)
  refine GoH.cond rfl (fun hc => ?_) (fun hc => ?_)
  ·
   have hlt : k < p.length := by simpa using hc
   obtain ⟨h1, h2, h3⟩ := hp.low k hlt
   rw [← lowE hlt] at h1 h2 h3
   have hsc := rchTo_succ (s := s) hlt
   have hbn : ((p[k].toNat : Nat) : Int) = p[k] := Int.toNat_of_nonneg h1
   refine gK (gS (gB (gS (gR ?_))))
   refine gMv ?_
   refine GoH.v (Vop.idx rfl rfl rfl rfl rfl Tryz.underlying49 Tryz.sizeOf3 ⟨_, ha⟩ (by simp) (k) ⟨rfl, by simpa using hlt⟩) ?_
   refine GoH.v (Vop.ld rfl rfl rfl rfl Tryz.isAgg3 (fun w _ hS => (SlI.ex0 ha hS.ext).at (k) hlt)) ?_
   iterate 2 refine gAs ?_
   refine gE (gS (gR ?_))
   iterate 2 refine gMv ?_
   refine GoH.callP rfl rfl rfl rfl rfl (fun _ _ => Tryz.call88 _ _) (fun w _ hS => rBit_c s k w) ?_
   refine gMv ?_
   refine GoH.cases (d := 18) rfl (fun hc => ?_) (fun hc => ?_)
   ·
    rw [if_pos hc] at hsc
    iterate 2 refine gMv ?_
    refine GoH.callP rfl rfl rfl rfl rfl (fun _ _ => Tryz.call88 _ _) (fun w _ hS => (by have := rBit_c (rchTo p s k) p[k].toNat w; rw [hbn] at this; exact this)) ?_
    refine gUn uNot ?_
    refine gPt ?_
    refine gE ?_
    refine GoH.cond rfl (fun hc => ?_) (fun hc => ?_)
    ·
     have hb : (rchTo p s k).getLsbD p[k].toNat = false := by simpa using hc
     refine gR ?_
     iterate 2 refine gMv ?_
     refine GoH.v (Vop.bin (a := U 1#64) rfl rfl rfl rfl (bShl p[k].toNat hbn.symm) rfl) ?_
     refine gBi bAddU ?_
     refine gAs ?_
     refine gE (gIb (gR ?_))
     refine GoH.v (Vop.bin rfl rfl rfl rfl (bAdd (by omega)) rfl) ?_
     refine gMv ?_
     refine gE ?_
     exact IH (k + 1) _ _ hlt (by omega) ⟨rfl, (by rw [hsc, ← add_new hb]; rfl), rfl, rfl, rfl, trivial⟩ .slnil
    ·
     have hb : (rchTo p s k).getLsbD p[k].toNat = true := by simpa using hc
     refine gK (gIb (gR ?_))
     refine GoH.v (Vop.bin rfl rfl rfl rfl (bAdd (by omega)) rfl) ?_
     refine gMv ?_
     refine gE ?_
     exact IH (k + 1) _ _ hlt (by omega) ⟨rfl, (by rw [hsc, or_old hb]; rfl), rfl, rfl, rfl, trivial⟩ .slnil
   ·
    rw [if_neg (by rw [hc]; simp)] at hsc
    iterate 4 refine gNo ?_
    refine gPf ?_
    refine gE (GoH.condF rfl (gK (gIb (gR ?_))))
    refine GoH.v (Vop.bin rfl rfl rfl rfl (bAdd (by omega)) rfl) ?_
    refine gMv ?_
    refine gE ?_
    exact IH (k + 1) _ _ hlt (by omega) ⟨rfl, (by rw [hsc]; rfl), rfl, rfl, rfl, trivial⟩ .slnil
  ·
   have hge : ¬ k < p.length := by simpa using hc
   obtain rfl : k = p.length := by omega
   refine GoH.exit rfl (gS (gR ?_))
   refine gMv ?_
   refine gAs ?_
   refine gE ?_
   refine GoH.ret Tryz.f61 Tryz.func61 rfl (fun w' hS => ?_)
   exact ⟨hS.ext, by rw [← rchTo_all]; rfl⟩
theorem rfactsP_c (m : MV) (n : Nat) (w : World) (hm : m.At w) (hv : ValM m.n m.val m.rel) (hn : m.n = (n : Int)) :
    Cn Tryz.prog 41 [m.v] w (fun v w' => OwnS I64 3 w w' v (psM n m m.rows 0)) := by
  obtain ⟨i0, hi, hz, hsz, hby⟩ := info_parts infoI
  have hn64 := hv.n64
  refine Cn.of Tryz.func41 rfl rfl ?_
  refine gS (gR ?_)
  refine GoH.bx rfl rfl rfl rfl (fun b1 => ?_)
  refine gAs ?_
  refine gE (gS (gR ?_))
  refine gAs ?_
  refine gE (gS (gS (gR ?_)))
  refine gAs ?_
  refine gE (gB ?_)
  refine GoH.addNone (ob I64 3 [] []) ?_
  refine GoH.loop (σ := Nat × Option Nat × Nat × List Value) (fun z => [(1, .pointer (some ⟨b1, 0, none⟩)), (3, osv z.2.1 (fmL m.val z.1).length z.2.2.1), (4, .int .i64 z.1)]) (fun z => [(z.2.1, ob I64 3 (fmL m.val z.1) z.2.2.2), (some b1, .cells m.v.cells 25 (0, 0))])
    (fun z => z.1 ≤ n ∧ (z.2.1 = none → (fmL m.val z.1).length = 0 ∧ z.2.2.1 = 0) ∧ ((fmL m.val z.1).map I64 ++ z.2.2.2).length = z.2.2.1) (fun z => n - z.1) (0, none, 0, []) ⟨Nat.zero_le _, fun _ => ⟨rfl, rfl⟩, rfl⟩ ⟨rfl, rfl, rfl, trivial⟩ (List.Sublist.refl _) (fun z hI IH => ?_)
  obtain ⟨k, q, cap, sp⟩ := z
  obtain ⟨hk, hq, hcap⟩ := hI
  dsimp only at hk hq hcap IH ⊢
  refine gS (gS (gR ?_))
  refine gMv ?_
  refine gFp Tryz.underlying25 Tryz.sizeOf3 0 ?_
  refine GoH.v (Vop.ldo (v := .int .i64 m.n) rfl rfl rfl rfl Tryz.isAgg3 1 rfl rfl) ?_
  refine gBi bLt ?_
  refine gE ?_
  refine GoH.cond rfl (fun hc => ?_) (fun hc => ?_)
  ·
   have hlt : k < n := by have : (k : Int) < m.n := by simpa using hc
                          omega
   have hlk : (fmL m.val k).length = k := fmL_len
   refine gK (gS (gB (gR ?_)))
   refine gMv ?_
   refine GoH.v (Vop.ldB rfl rfl rfl rfl Tryz.isAgg25 1 rfl Tryz.sizeOf25 rfl) ?_
   refine gMv ?_
   refine GoH.callP rfl rfl rfl rfl rfl (fun _ _ => Tryz.call58 _ _) (fun w _ hS => rfacts_c m k w (hm.ex0 hS.ext) hv (by omega)) ?_
   refine GoH.bs1 (v := I64 (fm m.val k : Int)) rfl rfl rfl rfl Tryz.underlying49 hi hz hsz rfl rfl (fun b19 => ?_)
   refine GoH.appE I64 (xs := fmL m.val k) (sp := sp) (news := [(fm m.val k : Int)]) (spn := []) rfl rfl rfl rfl rfl Tryz.underlying49 hi hz hsz rfl hq 1 rfl 0 rfl hcap rfl (by decide) (fun _ => rfl) (by unfold maxLen; rw [hlk]; omega) (by rw [hby, hlk]; omega) (fun b' sp' cap' hlen2 => ?_)
   rw [← fmL_succ] at *
   refine gAs ?_
   refine gE (gIb (gR ?_))
   refine gMv ?_
   refine GoH.v (Vop.bin rfl rfl rfl rfl (bAdd (by omega)) rfl) ?_
   refine gAs ?_
   refine gE ?_
   exact IH (k + 1, some b', cap', sp') _ _ ⟨hlt, (fun e => by cases e), hlen2⟩ (by dsimp only; omega) ⟨rfl, rfl, rfl, trivial⟩ (.cons _ (List.Sublist.refl _))
  ·
   have hge : ¬ k < n := by have : ¬ (k : Int) < m.n := by simpa using hc
                            omega
   obtain rfl : n = k := by omega
   have hfl : (fmL m.val n).length = n := fmL_len
   refine GoH.exit rfl (gS (gR ?_))
   refine gFp Tryz.underlying25 Tryz.sizeOf3 0 ?_
   refine GoH.v (Vop.ldo (v := .int .i64 m.n) rfl rfl rfl rfl Tryz.isAgg3 1 rfl rfl) ?_
   refine GoH.callM _ rfl rfl rfl rfl rfl (fun _ _ => Tryz.call59 _ _) (fun w _ hS => (by have := rtriv_c n w (by omega); rw [← hn] at this; exact this)) ?_
   rintro v w1 w2 Y' hS he ⟨sv, rfl, ho⟩
   obtain ⟨qT, capT, spT, rfl, hqT, hcapT, hS'⟩ := gainS hS he ho
   refine ⟨_, hS', ?_⟩
   refine gMv ?_
   iterate 2 refine gEx ?_
   iterate 2 refine gAs ?_
   refine gE (gS (gR ?_))
   iterate 2 refine gMv ?_
   refine GoH.callM _ rfl rfl rfl rfl rfl (fun _ _ => Tryz.call60 _ _) (fun w _ hS => (by exact rsplit_c (qT.map (fun b => ⟨b, 0, none⟩)) capT (List.replicate n 0) (q.map (fun b => ⟨b, 0, none⟩)) cap (fmL m.val n) w (sliAt hS 0 rfl (fun e => (hqT e).1)) (sliAt hS 1 rfl (fun e => (hq e).1)) (okP_zero (by omega)) (by rw [hfl]; simp))) ?_
   rintro v w1 w2 Y' hS he ⟨sv, rfl, ho⟩
   rw [div_fm (rels := m.rel)] at ho
   obtain ⟨qS, capS, spS, rfl, hqS, hcapS, hS'⟩ := gainS hS he ho
   refine ⟨_, hS', ?_⟩
   refine gMv ?_
   iterate 2 refine gEx ?_
   iterate 2 refine gAs ?_
   refine gE (gS (gR ?_))
   refine gMv ?_
   refine gAs ?_
   refine gE ?_
   refine GoH.ret Tryz.f41 Tryz.func41 rfl (fun w' hS => ?_)
   exact ⟨hS.ext, OwnS.mk hS 0 rfl rfl hqS hcapS⟩
theorem rrefine_c (n : Nat) (a : Option Addr) (ca : Nat) (p : List Int) (ra : Option Addr) (rc : Nat) (rows : List Row) (w : World) (ha : SlI w a p) (hp : OkP p) (hn : p.length = n) (hr : RelAt w n ra rows) :
    Cn Tryz.prog 42 [.slice a n ca, .slice ra rows.length rc] w (fun v w' => OwnS I64 3 w w' v (nxt (rows.map Row.xs) p)) := by
  obtain ⟨i0, hi, hz, hsz, hby⟩ := info_parts infoI
  subst hn
  have hpl := hp.len
  have hrl := hr.len
  rw [← div_leds]
  obtain ⟨K, hK⟩ : ∃ K, rkey (rows.map Row.xs) p = K := ⟨_, rfl⟩
  have hKe : ∀ i j (hi : i < p.length) (hj : j < p.length), (p[i] == p[j] && (rows.take rows.length).all (fun r => rch p (r.xs.getD i 0#64) == rch p (r.xs.getD j 0#64))) = true ↔ K i = K j := fun i j hi hj => by
    rw [← hK, rkey_iff, Bool.and_eq_true, beq_iff_eq, List.take_length, List.all_eq_true, lowE hi, lowE hj]
    simp
  rw [hK]
  refine Cn.of Tryz.func42 rfl rfl ?_
  refine gS (gR ?_)
  refine gAs ?_
  refine gE (gS (gR ?_))
  refine gAs ?_
  refine gE (gS (gS (gR ?_)))
  refine gMv ?_
  refine gBl Tryz.underlying49 ?_
  refine gMv ?_
  refine gE (gB ?_)
  refine GoH.addNone (ob I64 3 [] []) ?_
  refine GoH.loop (σ := Nat × Option Nat × Nat × List Value) (fun z => [(0, .slice a p.length ca), (1, .slice ra rows.length rc), (5, osv z.2.1 (leds K z.1).length z.2.2.1), (15, .int .i64 p.length), (16, .int .i64 z.1)]) (fun z => [(z.2.1, ob I64 3 (leds K z.1) z.2.2.2)])
    (fun z => z.1 ≤ p.length ∧ (z.2.1 = none → (leds K z.1).length = 0 ∧ z.2.2.1 = 0) ∧ ((leds K z.1).map I64 ++ z.2.2.2).length = z.2.2.1) (fun z => p.length - z.1) (0, none, 0, []) ⟨Nat.zero_le _, fun _ => ⟨rfl, rfl⟩, rfl⟩ ⟨rfl, rfl, rfl, rfl, rfl, trivial⟩ (List.Sublist.refl _) (fun z hI IH => ?_)
  obtain ⟨k, q, cap, sp⟩ := z
  obtain ⟨hk, hq, hcap⟩ := hI
  dsimp only at hk hq hcap IH ⊢
  refine gS (gR ?_)
  refine gBi bLt ?_
  refine gE (gS ?_)
  refine GoH.cond rfl (fun hc => ?_) (fun hc => ?_)
  ·
   have hlt : k < p.length := by simpa using hc
   have hlk : (leds K k).length = k := leds_len
   refine gK (gS (gB (gS (gR ?_))))
   refine gMv ?_
   refine gAs ?_
   refine gE (gS (gR ?_))
   refine gMv ?_
   refine gAs ?_
   refine gE (gS (gS (gR ?_)))
   refine gMv ?_
   refine GoH.v (Vop.bin rfl rfl rfl rfl (bSub (by omega)) rfl) ?_
   refine gAs ?_
   refine gE (gB ?_)
   refine GoH.loop (σ := Int × Nat) (fun z => [(0, .slice a p.length ca), (1, .slice ra rows.length rc), (5, osv q (leds K k).length cap), (6, .int .i64 k), (7, .int .i64 z.2), (8, .int .i64 z.1), (15, .int .i64 p.length), (16, .int .i64 k)]) (fun _ => [(q, ob I64 3 (leds K k) sp)])
     (fun z => -1 ≤ z.1 ∧ z.1 < k ∧ Down K k z.1 z.2) (fun z => (z.1 + 1).toNat) ((k : Int) - 1, k) ⟨by dsimp only; omega, by dsimp only; omega, Down.start (by omega) (fun m h1 h2 => by omega)⟩ ⟨rfl, rfl, rfl, rfl, rfl, rfl, rfl, rfl, trivial⟩ (List.Sublist.refl _) (fun z hI IH2 => ?_)
   obtain ⟨j, low⟩ := z
   obtain ⟨hj1, hj2, hD⟩ := hI
   dsimp only at hj1 hj2 hD IH2 ⊢
   refine gS (gS (gR ?_))
   refine gMv ?_
   refine gBi bGe ?_
   refine gE ?_
   refine GoH.cond rfl (fun hc => ?_) (fun hc => ?_)
   ·
    have hj0 : 0 ≤ j := by simpa using hc
    obtain ⟨j, rfl⟩ : ∃ J : Nat, j = J := ⟨j.toNat, by omega⟩
    have hjl : j < p.length := by omega
    have hiff := hKe k j hlt hjl
    refine gK (gS (gB (gS ?_)))
    refine GoH.draw 10 mixed rfl ?_
    iterate 2 refine rMv ?_
    refine RdGo.v (Vop.idx rfl rfl rfl rfl rfl Tryz.underlying49 Tryz.sizeOf3 ⟨_, ha⟩ (by simp) (k) ⟨rfl, by simpa using hlt⟩) ?_
    refine RdGo.v (Vop.ld rfl rfl rfl rfl Tryz.isAgg3 (fun w _ hS => (SlI.ex0 ha hS.ext).at (k) hlt)) ?_
    iterate 2 refine rMv ?_
    refine RdGo.v (Vop.idx rfl rfl rfl rfl rfl Tryz.underlying49 Tryz.sizeOf3 ⟨_, ha⟩ (by simp) (j) ⟨rfl, by simpa using hjl⟩) ?_
    refine RdGo.v (Vop.ld rfl rfl rfl rfl Tryz.isAgg3 (fun w _ hS => (SlI.ex0 ha hS.ext).at (j) hjl)) ?_
    refine rBi bEq ?_
    refine rAs ?_
    refine RdGo.nil ?_
    refine gE (gS (gS (gR ?_)))
    refine gMv ?_
    refine gBl Tryz.underlying23 ?_
    refine gMv ?_
    refine gE (gB ?_)
    refine GoH.loop (σ := Nat × Bool) (fun z => [(0, .slice a p.length ca), (1, .slice ra rows.length rc), (5, osv q (leds K k).length cap), (6, .int .i64 k), (7, .int .i64 low), (8, .int .i64 j), (9, .bool z.2), (15, .int .i64 p.length), (16, .int .i64 k), (35, .slice ra rows.length rc), (36, .int .i64 rows.length), (37, .int .i64 z.1)]) (fun _ => [(q, ob I64 3 (leds K k) sp)])
      (fun z => z.1 ≤ rows.length ∧ z.2 = (p[k] == p[j] && (rows.take z.1).all (fun r => rch p (r.xs.getD k 0#64) == rch p (r.xs.getD j 0#64)))) (fun z => rows.length - z.1) (0, p[k] == p[j]) ⟨Nat.zero_le _, by simp⟩ ⟨rfl, rfl, rfl, rfl, rfl, rfl, rfl, rfl, rfl, rfl, rfl, rfl, trivial⟩ (List.Sublist.refl _) (fun z hI IH3 => ?_)
    obtain ⟨i, same⟩ := z
    obtain ⟨hi3, hs3⟩ := hI
    dsimp only at hi3 hs3 IH3 ⊢
    refine gS (gR ?_)
    refine gBi bLt ?_
    refine gE (gS ?_)
    refine GoH.cond rfl (fun hc => ?_) (fun hc => ?_)
    ·
     have hlti : i < rows.length := by simpa using hc
     obtain ⟨hrow, hrv, hrn⟩ := hr.row rows[i] (List.getElem_mem hlti)
     have hkr : k < rows[i].xs.length := by omega
     have hjr : j < rows[i].xs.length := by omega
     have hstep : ∀ b, b = (same && (rch p (rows[i].xs.getD k 0#64) == rch p (rows[i].xs.getD j 0#64))) → b = (p[k] == p[j] && (rows.take (i + 1)).all (fun r => rch p (r.xs.getD k 0#64) == rch p (r.xs.getD j 0#64))) := fun b hb => by
       rw [hb, hs3, List.take_succ_eq_append_getElem hlti, List.all_append, Bool.and_assoc]
       simp
     refine gK (gS (gB (gS (gR ?_))))
     refine GoH.v (Vop.idx rfl rfl rfl rfl rfl Tryz.underlying23 Tryz.sizeOf22 ⟨_, hr.rel⟩ (by simp) (i) ⟨rfl, by simpa using hlti⟩) ?_
     refine GoH.v (Vop.ld rfl rfl rfl rfl Tryz.isAgg22 (fun w _ hS => (SlR.ex0 hr.rel hS.ext).at (i) hlti)) ?_
     refine gAs ?_
     refine gE ?_
     refine GoH.draw 16 mixed rfl ?_
     iterate 2 refine rMv ?_
     refine RdGo.cases (d := 42) rfl (fun hc => ?_) (fun hc => ?_)
     ·
      obtain rfl : same = true := hc
      iterate 3 refine rMv ?_
      refine RdGo.v (Vop.idx rfl rfl rfl rfl rfl Tryz.underlying22 Tryz.sizeOf36 ⟨_, hrow.at_⟩ (by simp) (k) ⟨rfl, by simpa using hkr⟩) ?_
      refine RdGo.v (Vop.ld rfl rfl rfl rfl Tryz.isAgg36 (fun w _ hS => (SlU.ex0 hrow.at_ hS.ext).at (k) hkr)) ?_
      refine RdGo.callP rfl rfl rfl rfl rfl (fun _ _ => Tryz.call61 _ _) (fun w _ hS => rreach_c a ca p (rows[i].xs.getD k 0#64) w p.length rfl (ha.ex0 hS.ext) hp) ?_
      iterate 3 refine rMv ?_
      refine RdGo.v (Vop.idx rfl rfl rfl rfl rfl Tryz.underlying22 Tryz.sizeOf36 ⟨_, hrow.at_⟩ (by simp) (j) ⟨rfl, by simpa using hjr⟩) ?_
      refine RdGo.v (Vop.ld rfl rfl rfl rfl Tryz.isAgg36 (fun w _ hS => (SlU.ex0 hrow.at_ hS.ext).at (j) hjr)) ?_
      refine RdGo.callP rfl rfl rfl rfl rfl (fun _ _ => Tryz.call61 _ _) (fun w _ hS => rreach_c a ca p (rows[i].xs.getD j 0#64) w p.length rfl (ha.ex0 hS.ext) hp) ?_
      refine rBi bEqU ?_
      refine rPt ?_
      refine RdGo.nil ?_
      refine gAs ?_
      refine gE (gIb (gR ?_))
      refine GoH.v (Vop.bin rfl rfl rfl rfl (bAdd (by omega)) rfl) ?_
      refine gMv ?_
      refine gE ?_
      exact IH3 (i + 1, rch p (rows[i].xs.getD k 0#64) == rch p (rows[i].xs.getD j 0#64)) _ _ ⟨hlti, hstep _ (by simp)⟩ (by dsimp only; omega) ⟨rfl, rfl, rfl, rfl, rfl, rfl, rfl, rfl, rfl, rfl, rfl, rfl, trivial⟩ (List.Sublist.refl _)
     ·
      obtain rfl : same = false := hc
      iterate 13 refine rNo ?_
      refine rPf ?_
      refine RdGo.nil ?_
      refine gAs ?_
      refine gE (gIb (gR ?_))
      refine GoH.v (Vop.bin rfl rfl rfl rfl (bAdd (by omega)) rfl) ?_
      refine gMv ?_
      refine gE ?_
      exact IH3 (i + 1, false) _ _ ⟨hlti, hstep _ (by simp)⟩ (by dsimp only; omega) ⟨rfl, rfl, rfl, rfl, rfl, rfl, rfl, rfl, rfl, rfl, rfl, rfl, trivial⟩ (List.Sublist.refl _)
    ·
     have hge : ¬ i < rows.length := by simpa using hc
     obtain rfl : i = rows.length := by omega
     rw [← hs3] at hiff
     refine GoH.exit rfl (gS (gR ?_))
     refine gMv ?_
     refine gE ?_
     refine GoH.cond rfl (fun hc => ?_) (fun hc => ?_)
     ·
      have hkk : K j = K k := (hiff.1 hc).symm
      refine gR ?_
      refine gMv ?_
      refine gAs ?_
      refine gE (gIb (gR ?_))
      refine gMv ?_
      refine GoH.v (Vop.bin rfl rfl rfl rfl (bSub (by omega)) rfl) ?_
      refine gAs ?_
      refine gE ?_
      exact IH2 ((j : Int) - 1, j) _ _ ⟨by dsimp only; omega, by dsimp only; omega, hD.hit (by omega) hkk⟩ (by dsimp only; omega) ⟨rfl, rfl, rfl, rfl, rfl, rfl, rfl, rfl, trivial⟩ (List.Sublist.refl _)
     ·
      have hkk : K j ≠ K k := fun e => by rw [hiff.2 e.symm] at hc; cases hc
      refine gK (gIb (gR ?_))
      refine gMv ?_
      refine GoH.v (Vop.bin rfl rfl rfl rfl (bSub (by omega)) rfl) ?_
      refine gAs ?_
      refine gE ?_
      exact IH2 ((j : Int) - 1, low) _ _ ⟨by dsimp only; omega, by dsimp only; omega, hD.skip hkk⟩ (by dsimp only; omega) ⟨rfl, rfl, rfl, rfl, rfl, rfl, rfl, rfl, trivial⟩ (List.Sublist.refl _)
   ·
    have hj0 : ¬ 0 ≤ j := by simpa using hc
    have hled : led K k = low := hD.led (by omega)
    refine GoH.exit rfl (gR ?_)
    iterate 2 refine gMv ?_
    refine GoH.bs1 (v := I64 (low : Int)) rfl rfl rfl rfl Tryz.underlying49 hi hz hsz rfl rfl (fun b43 => ?_)
    refine GoH.appE I64 (xs := leds K k) (sp := sp) (news := [(low : Int)]) (spn := []) rfl rfl rfl rfl rfl Tryz.underlying49 hi hz hsz rfl hq 1 rfl 0 rfl hcap rfl (by decide) (fun _ => rfl) (by unfold maxLen; rw [hlk]; omega) (by rw [hby, hlk]; omega) (fun b' sp' cap' hlen2 => ?_)
    rw [← hled, ← leds_succ] at *
    refine gAs ?_
    refine gE (gIb (gR ?_))
    refine GoH.v (Vop.bin rfl rfl rfl rfl (bAdd (by omega)) rfl) ?_
    refine gMv ?_
    refine gE ?_
    exact IH (k + 1, some b', cap', sp') _ _ ⟨hlt, (fun e => by cases e), hlen2⟩ (by dsimp only; omega) ⟨rfl, rfl, rfl, rfl, rfl, trivial⟩ (.cons _ (List.Sublist.refl _))
  ·
   have hge : ¬ k < p.length := by simpa using hc
   obtain rfl : k = p.length := by omega
   refine GoH.exit rfl (gS (gR ?_))
   iterate 2 refine gMv ?_
   refine GoH.callM _ rfl rfl rfl rfl rfl (fun _ _ => Tryz.call60 _ _) (fun w _ hS => (by exact rsplit_c a ca p (q.map (fun b => ⟨b, 0, none⟩)) cap (leds K p.length) w (ha.ex0 hS.ext) (sliAt hS 0 rfl (fun e => (hq e).1)) hp leds_len)) ?_
   rintro v w1 w2 Y' hS he ⟨sv, rfl, ho⟩
   obtain ⟨qS, capS, spS, rfl, hqS, hcapS, hS'⟩ := gainS hS he ho
   refine ⟨_, hS', ?_⟩
   refine gMv ?_
   iterate 2 refine gEx ?_
   iterate 2 refine gAs ?_
   refine gE (gS (gR ?_))
   refine gMv ?_
   refine gAs ?_
   refine gE ?_
   refine GoH.ret Tryz.f42 Tryz.func42 rfl (fun w' hS => ?_)
   exact ⟨hS.ext, OwnS.mk hS 0 rfl rfl hqS hcapS⟩
end Go.Proofs.YtcljmlnnfdaljaaGreatDoor
namespace Go.Proofs.YtcljmlnnfdaljaaGreatDoor
open Go.RowKit Go.Proofs.Wit
/-! the reference's Rounds, Coarsest, Depth -/
set_option maxRecDepth 4000 in
theorem rrounds_c (m : MV) (k : Int) (w : World) (_hT : Tab w) (hm : m.At w) :
    Cn Tryz.prog 25 [m.v, .int .i64 k] w (fun v w' => ∃ sv, v = .tuple #[sv, .int .i64 (rndsE m.n m.val m.rel k)] ∧ OwnS I64 3 w w' sv (rnds m.n m.val m.rel k)) := by
  refine Cn.of Tryz.func25 rfl rfl ?_
  refine gS (gR ?_)
  refine GoH.bx rfl rfl rfl rfl (fun b2 => ?_)
  iterate 2 refine gAs ?_
  refine gE (gS (gS (gR ?_)))
  refine GoH.v (Vop.ldB rfl rfl rfl rfl Tryz.isAgg25 0 rfl Tryz.sizeOf25 rfl) ?_
  refine GoH.callP rfl rfl rfl rfl rfl (fun _ _ => Tryz.call18 _ _) (fun w _ hS => (by exact rmCheck_c m w (hm.ex0 hS.ext))) ?_
  refine gAs ?_
  refine gE (gS (gR ?_))
  refine gMv ?_
  refine gBi bNe ?_
  refine gE ?_
  refine GoH.cond rfl (fun hc => ?_) (fun hc => ?_)
  ·
   have h1 : checkM m.n m.val m.rel ≠ 0 := by simpa using hc
   have h2 : rndsE m.n m.val m.rel k ≠ 0 := by rw [rndsE, if_pos h1]; exact h1
   refine gS (gR ?_)
   refine gMv ?_
   iterate 2 refine gAs ?_
   refine gE ?_
   refine GoH.ret Tryz.f25 Tryz.func25 rfl (fun w' hS => ?_)
   exact ⟨hS.ext, _, by rw [rndsE, if_pos h1]; rfl, by rw [rnds_bad h2]; exact OwnS.nil0⟩
  ·
   have h1 : checkM m.n m.val m.rel = 0 := by simpa using hc
   have hv := checkM_zero.1 h1
   obtain ⟨n, hn⟩ : ∃ n : Nat, m.n = n := ⟨m.n.toNat, by have := hv.n1; omega⟩
   have hn64 := hv.n64
   have hn1 := hv.n1
   have hpl : ∀ i, (psM n m m.rows i).length = n := fun i => psq_len i
   refine gK (gS (gS (gR ?_)))
   refine gMv ?_
   refine gBi bLt ?_
   refine gE ?_
   refine GoH.cond rfl (fun hc => ?_) (fun hc => ?_)
   ·
    have h3 : k < 0 := by simpa using hc
    have h2 : rndsE m.n m.val m.rel k = 2 := by rw [rndsE, if_neg (by simp [h1]), if_pos h3]
    refine gS (gR ?_)
    iterate 2 refine gAs ?_
    refine gE ?_
    refine GoH.ret Tryz.f25 Tryz.func25 rfl (fun w' hS => ?_)
    exact ⟨hS.ext, _, by rw [h2]; rfl, by rw [rnds_bad (by rw [h2]; decide)]; exact OwnS.nil0⟩
   ·
    have h3 : ¬ k < 0 := by simpa using hc
    have h2 : rndsE m.n m.val m.rel k = 0 := by rw [rndsE, if_neg (by simp [h1]), if_neg h3]
    refine gK (gS (gR ?_))
    refine GoH.v (Vop.ldB rfl rfl rfl rfl Tryz.isAgg25 0 rfl Tryz.sizeOf25 rfl) ?_
    refine GoH.callM _ rfl rfl rfl rfl rfl (fun _ _ => Tryz.call41 _ _) (fun w _ hS => rfactsP_c m n w (hm.ex0 hS.ext) hv hn) ?_
    rintro v w1 w2 Y' hS he ho
    obtain ⟨qF, capF, spF, rfl, hqF, hcapF, hS'⟩ := gainS hS he ho
    rw [hpl] at hqF ⊢
    refine ⟨_, hS', ?_⟩
    refine gAs ?_
    refine gE (gS (gS (gR ?_)))
    refine gAs ?_
    refine gE (gB ?_)
    refine GoH.loop (σ := Nat × Option Nat × Nat × List Value) (fun z => [(1, .int .i64 k), (2, .pointer (some ⟨b2, 0, none⟩)), (7, osv z.2.1 n z.2.2.1), (8, .int .i64 z.1)]) (fun z => [(z.2.1, ob I64 3 (psM n m m.rows z.1) z.2.2.2), (some b2, .cells m.v.cells 25 (0, 0))])
      (fun z => z.1 ≤ n ∧ (z.1 : Int) ≤ k ∧ (z.2.1 = none → n = 0 ∧ z.2.2.1 = 0) ∧ ((psM n m m.rows z.1).map I64 ++ z.2.2.2).length = z.2.2.1) (fun z => n - z.1) (0, qF, capF, spF) ⟨Nat.zero_le _, by dsimp only; omega, hqF, hcapF⟩ ⟨rfl, rfl, rfl, rfl, trivial⟩ (List.Sublist.refl _) (fun z hI IH => ?_)
    obtain ⟨i, q, cap, sp⟩ := z
    obtain ⟨hin, hik, hq, hcap⟩ := hI
    dsimp only at hin hik hq hcap IH ⊢
    refine gS (gS (gR ?_))
    iterate 2 refine gMv ?_
    refine gBi bLt ?_
    refine gMv ?_
    refine GoH.cases (d := 21) rfl (fun hc => ?_) (fun hc => ?_)
    ·
     have hlk : (i : Int) < k := by simpa using hc
     refine gMv ?_
     refine gFp Tryz.underlying25 Tryz.sizeOf3 0 ?_
     refine GoH.v (Vop.ldo (v := .int .i64 m.n) rfl rfl rfl rfl Tryz.isAgg3 1 rfl rfl) ?_
     refine gBi bLt ?_
     refine gPt ?_
     refine gE ?_
     refine GoH.cond rfl (fun hc => ?_) (fun hc => ?_)
     ·
      have hln : (i : Int) < m.n := by simpa using hc
      refine gK (gS (gB (gR ?_)))
      refine gMv ?_
      refine gFp Tryz.underlying25 Tryz.sizeOf23 2 ?_
      refine GoH.v (Vop.ldo (v := .slice m.ra m.rows.length m.rc) rfl rfl rfl rfl Tryz.isAgg23 1 rfl rfl) ?_
      refine GoH.callM _ rfl rfl rfl rfl rfl (fun _ _ => Tryz.call42 _ _) (fun w _ hS => rrefine_c n (q.map (fun b => ⟨b, 0, none⟩)) cap (psM n m m.rows i) m.ra m.rc m.rows w (sliAt hS 0 rfl (fun e => by rw [hpl]; exact (hq e).1)) (psq_ok (by omega) i) (hpl i) (ValM.relAt hv (hm.ex0 hS.ext) hn)) ?_
      rintro v w1 w2 Y' hS he ho
      obtain ⟨q2, cap2, sp2, rfl, hq2, hcap2, hS'⟩ := gainS hS he ho
      have hlen2 : (nxt (m.rows.map Row.xs) (psM n m m.rows i)).length = n := hpl (i + 1)
      rw [hlen2] at hq2 ⊢
      refine ⟨_, hS', ?_⟩
      refine gAs ?_
      refine gE (gIb (gR ?_))
      refine gMv ?_
      refine GoH.v (Vop.bin rfl rfl rfl rfl (bAdd (by omega)) rfl) ?_
      refine gAs ?_
      refine gE ?_
      exact IH (i + 1, q2, cap2, sp2) _ _ ⟨by dsimp only; omega, by dsimp only; omega, hq2, hcap2⟩ (by dsimp only; omega) ⟨rfl, rfl, rfl, rfl, trivial⟩ (.cons_cons _ (.cons _ (List.Sublist.refl _)))
     ·
      have hln : ¬ (i : Int) < m.n := by simpa using hc
      have hmin : min k.toNat n = i := by omega
      refine GoH.exit rfl (gS (gR ?_))
      refine gMv ?_
      iterate 2 refine gAs ?_
      refine gE ?_
      refine GoH.ret Tryz.f25 Tryz.func25 rfl (fun w' hS => ?_)
      refine ⟨hS.ext, _, by rw [h2]; rfl, ?_⟩
      rw [rnds_ok h2, hn, show min k.toNat ((n : Int)).toNat = i from hmin]
      exact OwnS.mk hS 0 rfl (hpl i).symm (fun e => by rw [psq_len]; exact hq e) hcap
    ·
     have hlk : ¬ (i : Int) < k := by simpa using hc
     have hmin : min k.toNat n = i := by omega
     iterate 4 refine gNo ?_
     refine gPf ?_
     refine gE (GoH.condF rfl (GoH.exit rfl (gS (gR ?_))))
     refine gMv ?_
     iterate 2 refine gAs ?_
     refine gE ?_
     refine GoH.ret Tryz.f25 Tryz.func25 rfl (fun w' hS => ?_)
     refine ⟨hS.ext, _, by rw [h2]; rfl, ?_⟩
     rw [rnds_ok h2, hn, show min k.toNat ((n : Int)).toNat = i from hmin]
     exact OwnS.mk hS 0 rfl (hpl i).symm (fun e => by rw [psq_len]; exact hq e) hcap
end Go.Proofs.YtcljmlnnfdaljaaGreatDoor
