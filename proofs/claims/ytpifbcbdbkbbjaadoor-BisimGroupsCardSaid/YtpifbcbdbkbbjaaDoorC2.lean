/- Contracts of functions of the program: what each call returns and that nothing else of memory is turned, under the conditions that each theorem states. -/
import Derived.Test.YtpifbcbdbkbbjaaDoorC1
namespace Go.Proofs.YtpifbcbdbkbbjaaDoor
open Go.RowKit Go.Proofs.Wit
/-! the reference's rounds -/
theorem rfacts_c (m : MV) (x : Nat) (w : World) (hm : m.At w) (hv : ValM m.n m.val m.rel) (hx : (x : Int) < m.n) : Cn Tryd.prog 59 [m.v, .int .i64 x] w (fun v _ => v = .int .i64 (fm m.val x)) := by
  have hfa := hv.facts
  have hlv := hm.lv
  unfold maxLen at hlv
  refine Cn.of Tryd.func59 rfl rfl ?_
  refine GoH.seq ?_
  refine GoH.region ?_
  refine GoH.bx rfl rfl rfl rfl (fun b2 => ?_)
  refine GoH.v (Vop.asg rfl rfl rfl rfl) ?_
  refine GoH.regionEnd ?_
  refine GoH.seq ?_
  refine GoH.seq ?_
  refine GoH.region ?_
  refine GoH.v (Vop.ldB rfl rfl rfl rfl Tryd.isAgg25 0 rfl Tryd.sizeOf25 rfl) ?_
  refine GoH.callP rfl rfl rfl rfl rfl (fun _ _ => Tryd.call26 _ _) (fun w _ hS => (by exact (rmCheck_c m w (hm.ex0 hS.ext)).mono (fun v w' _ e => by rw [e, checkM_zero.2 hv]))) ?_
  refine GoH.v (Vop.bin rfl rfl rfl rfl (bNeV (v := false) rfl) rfl) ?_
  refine GoH.v (Vop.mv rfl rfl rfl rfl) ?_
  refine GoH.v (Vop.mv rfl rfl rfl rfl) ?_
  refine GoH.v (Vop.bin rfl rfl rfl rfl (bLtV (v := false) (decide_eq_false (by omega))) rfl) ?_
  refine GoH.v (Vop.pickF rfl rfl rfl rfl rfl) ?_
  refine GoH.v (Vop.mv rfl rfl rfl rfl) ?_
  refine GoH.v (Vop.mv rfl rfl rfl rfl) ?_
  refine GoH.v (Vop.fldP rfl rfl rfl rfl Tryd.underlying25 rfl (by exact Tryd.sizeOf3) 0 rfl) ?_
  refine GoH.v (Vop.ldo (v := .int .i64 m.n) rfl rfl rfl rfl Tryd.isAgg3 0 rfl rfl) ?_
  refine GoH.v (Vop.bin rfl rfl rfl rfl (bGeV (v := false) (decide_eq_false (by omega))) rfl) ?_
  refine GoH.v (Vop.pickF rfl rfl rfl rfl rfl) ?_
  refine GoH.regionEnd ?_
  refine GoH.condF rfl ?_
  refine GoH.skip ?_
  refine GoH.seq ?_
  refine GoH.region ?_
  refine GoH.v (Vop.asg rfl rfl rfl rfl) ?_
  refine GoH.regionEnd ?_
  refine GoH.seq ?_
  refine GoH.seq ?_
  refine GoH.region ?_
  refine GoH.v (Vop.asg rfl rfl rfl rfl) ?_
  refine GoH.regionEnd ?_
  refine GoH.block ?_
  refine GoH.loop (σ := Nat) (fun k => [(1, .int .i64 x), (2, .pointer (some ⟨b2, 0, none⟩)), (5, .int .i64 (fmTo m.val x k)), (6, .int .i64 k)]) (fun _ => [(some b2, .cells m.v.cells 25 (0, 0))]) (fun k => k ≤ m.val.length) (fun k => m.val.length - k) 0 (Nat.zero_le _) ⟨rfl, rfl, rfl, rfl, trivial⟩ (List.Sublist.refl _) (fun k hI IH => ?_)
  -- heap: b2
  -- ptr: 2=b2
  refine GoH.seq ?_
  refine GoH.seq ?_
  refine GoH.region ?_
  refine GoH.v (Vop.mv rfl rfl rfl rfl) ?_
  refine GoH.v (Vop.fldP rfl rfl rfl rfl Tryd.underlying25 rfl (by exact Tryd.sizeOf22) 1 rfl) ?_
  refine GoH.v (Vop.ldo (v := .slice m.va m.val.length m.vc) rfl rfl rfl rfl Tryd.isAgg22 0 rfl rfl) ?_
  refine GoH.v (Vop.blt rfl rfl rfl (blt_len_slice Tryd.underlying22) rfl) ?_
  refine GoH.v (Vop.bin rfl rfl rfl rfl bLt rfl) ?_
  refine GoH.regionEnd ?_
  refine GoH.cond rfl (fun hc => ?_) (fun hc => ?_)
  · -- yes
    have hlt : k < m.val.length := by simpa using hc
    have hf0 := fm_lt (val := m.val) (w := x) (k := k) (by omega)
    have hf1 := fm_lt (val := m.val) (w := x) (k := k + 1) (by omega)
    have hfs := fmTo_succ (val := m.val) (w := x) (k := k)
    refine GoH.skip ?_
    refine GoH.seq ?_
    refine GoH.block ?_
    refine GoH.seq ?_
    refine GoH.region ?_
    refine GoH.v (Vop.fldP rfl rfl rfl rfl Tryd.underlying25 rfl (by exact Tryd.sizeOf22) 1 rfl) ?_
    refine GoH.v (Vop.ldo (v := .slice m.va m.val.length m.vc) rfl rfl rfl rfl Tryd.isAgg22 0 rfl rfl) ?_
    refine GoH.v (Vop.mv rfl rfl rfl rfl) ?_
    refine GoH.v (Vop.idx rfl rfl rfl rfl rfl Tryd.underlying22 Tryd.sizeOf44 ⟨_, hm.val⟩ (by simp) (k) ⟨rfl, by simpa using hlt⟩) ?_
    refine GoH.v (Vop.ld rfl rfl rfl rfl Tryd.isAgg44 (fun w _ hS => (SlU.ex0 hm.val hS.ext).at (k) hlt)) ?_
    refine GoH.v (Vop.mv rfl rfl rfl rfl) ?_
    refine GoH.callP rfl rfl rfl rfl rfl (fun _ _ => Tryd.call43 _ _) (fun w _ hS => rBit_c (m.val.getD k 0#64) x w) ?_
    refine GoH.regionEnd ?_
    refine GoH.cond rfl (fun hc => ?_) (fun hc => ?_)
    · -- yes
      rw [if_pos hc] at hfs
      refine GoH.region ?_
      refine GoH.v (Vop.mv rfl rfl rfl rfl) ?_
      refine GoH.v (Vop.mv rfl rfl rfl rfl) ?_
      refine GoH.v (Vop.bin rfl rfl rfl rfl (bShlN (x := 1) (j := k) rfl (bits_le (Nat.le_refl _) (by omega)) (by omega)) rfl) ?_
      refine GoH.v (Vop.bin rfl rfl rfl rfl (bAddE (c := (fmTo m.val x (k + 1) : Int)) (by omega) (by omega)) rfl) ?_
      refine GoH.v (Vop.asg rfl rfl rfl rfl) ?_
      refine GoH.regionEnd ?_
      refine GoH.inBlock ?_
      refine GoH.region ?_
      refine GoH.v (Vop.mv rfl rfl rfl rfl) ?_
      refine GoH.v (Vop.bin rfl rfl rfl rfl (bAdd (by omega)) rfl) ?_
      refine GoH.v (Vop.asg rfl rfl rfl rfl) ?_
      refine GoH.regionEnd ?_
      exact IH (k + 1) _ _ hlt (by omega) ⟨rfl, rfl, rfl, rfl, trivial⟩ (List.Sublist.refl _)
    · -- no
      rw [if_neg (by rw [hc]; simp)] at hfs
      rw [Nat.add_zero] at hfs
      refine GoH.skip ?_
      refine GoH.inBlock ?_
      refine GoH.region ?_
      refine GoH.v (Vop.mv rfl rfl rfl rfl) ?_
      refine GoH.v (Vop.bin rfl rfl rfl rfl (bAdd (by omega)) rfl) ?_
      refine GoH.v (Vop.asg rfl rfl rfl rfl) ?_
      refine GoH.regionEnd ?_
      exact IH (k + 1) _ _ hlt (by omega) ⟨rfl, rfl, (by rw [hfs]; rfl), rfl, trivial⟩ (List.Sublist.refl _)
  · -- no
    have hge : ¬ k < m.val.length := by simpa using hc
    obtain rfl : k = m.val.length := by omega
    refine GoH.exit rfl ?_
    refine GoH.seq ?_
    refine GoH.region ?_
    refine GoH.v (Vop.mv rfl rfl rfl rfl) ?_
    refine GoH.v (Vop.asg rfl rfl rfl rfl) ?_
    refine GoH.regionEnd ?_
    refine GoH.ret Tryd.f59 Tryd.func59 rfl (fun w' hS => ?_)
    exact ⟨hS.ext, rfl⟩
theorem rreach_c (a : Option Addr) (ca : Nat) (p : List Int) (s : W64) (w : World) (n : Nat) (hn : p.length = n) (ha : SlI w a p) (hp : OkP p) :
    Cn Tryd.prog 62 [.slice a n ca, U s] w (fun v _ => v = U (rch p s)) := by
  subst hn
  have hpl := hp.len
  refine Cn.of Tryd.func62 rfl rfl ?_
  refine GoH.seq ?_
  refine GoH.region ?_
  refine GoH.v (Vop.asg (v := U 0#64) rfl rfl rfl rfl) ?_
  refine GoH.regionEnd ?_
  refine GoH.seq ?_
  refine GoH.region ?_
  refine GoH.v (Vop.asg (v := U 0#64) rfl rfl rfl rfl) ?_
  refine GoH.regionEnd ?_
  refine GoH.seq ?_
  refine GoH.seq ?_
  refine GoH.region ?_
  refine GoH.v (Vop.mv rfl rfl rfl rfl) ?_
  refine GoH.v (Vop.blt rfl rfl rfl (blt_len_slice Tryd.underlying28) rfl) ?_
  refine GoH.v (Vop.mv rfl rfl rfl rfl) ?_
  refine GoH.regionEnd ?_
  refine GoH.block ?_
  refine GoH.loop (σ := Nat) (fun k => [(1, U s), (5, U (rchTo p s k)), (8, .slice a p.length ca), (9, .int .i64 p.length), (10, .int .i64 k)]) (fun _ => []) (fun k => k ≤ p.length) (fun k => p.length - k) 0 (Nat.zero_le _) ⟨rfl, rfl, rfl, rfl, rfl, trivial⟩ .slnil (fun k hI IH => ?_)
  refine GoH.seq ?_
  refine GoH.region ?_
  refine GoH.v (Vop.bin rfl rfl rfl rfl bLt rfl) ?_
  refine GoH.regionEnd ?_
  refine GoH.seq ?_
  refine GoH.cond rfl (fun hc => ?_) (fun hc => ?_)
  · -- yes
    have hlt : k < p.length := by simpa using hc
    obtain ⟨h1, h2, h3⟩ := hp.low k hlt
    rw [← lowE hlt] at h1 h2 h3
    have hsc := rchTo_succ (s := s) hlt
    have hbn : ((p[k].toNat : Nat) : Int) = p[k] := Int.toNat_of_nonneg h1
    refine GoH.skip ?_
    refine GoH.seq ?_
    refine GoH.block ?_
    refine GoH.seq ?_
    refine GoH.region ?_
    refine GoH.v (Vop.mv rfl rfl rfl rfl) ?_
    refine GoH.v (Vop.idx rfl rfl rfl rfl rfl Tryd.underlying28 Tryd.sizeOf3 ⟨_, ha⟩ (by simp) (k) ⟨rfl, by simpa using hlt⟩) ?_
    refine GoH.v (Vop.ld rfl rfl rfl rfl Tryd.isAgg3 (fun w _ hS => (SlI.ex0 ha hS.ext).at (k) hlt)) ?_
    refine GoH.v (Vop.asg rfl rfl rfl rfl) ?_
    refine GoH.v (Vop.asg rfl rfl rfl rfl) ?_
    refine GoH.regionEnd ?_
    refine GoH.seq ?_
    refine GoH.region ?_
    refine GoH.v (Vop.mv rfl rfl rfl rfl) ?_
    refine GoH.v (Vop.mv rfl rfl rfl rfl) ?_
    refine GoH.callP rfl rfl rfl rfl rfl (fun _ _ => Tryd.call43 _ _) (fun w _ hS => rBit_c s k w) ?_
    refine GoH.v (Vop.mv rfl rfl rfl rfl) ?_
    -- guard on slot 18 (ref.go:14)
    refine GoH.cases (d := 18) rfl (fun hc => ?_) (fun hc => ?_)
    · -- yes
      rw [if_pos hc] at hsc
      refine GoH.v (Vop.mv rfl rfl rfl rfl) ?_
      refine GoH.v (Vop.mv rfl rfl rfl rfl) ?_
      refine GoH.callP rfl rfl rfl rfl rfl (fun _ _ => Tryd.call43 _ _) (fun w _ hS => (by have := rBit_c (rchTo p s k) p[k].toNat w; rw [hbn] at this; exact this)) ?_
      refine GoH.v (Vop.un rfl rfl rfl uNot rfl) ?_
      refine GoH.v (Vop.pickT rfl rfl rfl rfl rfl) ?_
      refine GoH.regionEnd ?_
      refine GoH.cond rfl (fun hc => ?_) (fun hc => ?_)
      · -- yes
        have hb : (rchTo p s k).getLsbD p[k].toNat = false := by simpa using hc
        refine GoH.region ?_
        refine GoH.v (Vop.mv rfl rfl rfl rfl) ?_
        refine GoH.v (Vop.mv rfl rfl rfl rfl) ?_
        refine GoH.v (Vop.bin (a := U 1#64) rfl rfl rfl rfl (bShl p[k].toNat hbn.symm) rfl) ?_
        refine GoH.v (Vop.bin rfl rfl rfl rfl bAddU rfl) ?_
        refine GoH.v (Vop.asg rfl rfl rfl rfl) ?_
        refine GoH.regionEnd ?_
        refine GoH.inBlock ?_
        refine GoH.region ?_
        refine GoH.v (Vop.bin rfl rfl rfl rfl (bAdd (by omega)) rfl) ?_
        refine GoH.v (Vop.mv rfl rfl rfl rfl) ?_
        refine GoH.regionEnd ?_
        exact IH (k + 1) _ _ hlt (by omega) ⟨rfl, (by rw [hsc, ← add_new hb]; rfl), rfl, rfl, rfl, trivial⟩ .slnil
      · -- no
        have hb : (rchTo p s k).getLsbD p[k].toNat = true := by simpa using hc
        refine GoH.skip ?_
        refine GoH.inBlock ?_
        refine GoH.region ?_
        refine GoH.v (Vop.bin rfl rfl rfl rfl (bAdd (by omega)) rfl) ?_
        refine GoH.v (Vop.mv rfl rfl rfl rfl) ?_
        refine GoH.regionEnd ?_
        exact IH (k + 1) _ _ hlt (by omega) ⟨rfl, (by rw [hsc, or_old hb]; rfl), rfl, rfl, rfl, trivial⟩ .slnil
    · -- no
      rw [if_neg (by rw [hc]; simp)] at hsc
      refine GoH.no rfl rfl rfl rfl ?_
      refine GoH.no rfl rfl rfl rfl ?_
      refine GoH.no rfl rfl rfl rfl ?_
      refine GoH.no rfl rfl rfl rfl ?_
      refine GoH.v (Vop.pickF rfl rfl rfl rfl rfl) ?_
      refine GoH.regionEnd ?_
      refine GoH.condF rfl ?_
      refine GoH.skip ?_
      refine GoH.inBlock ?_
      refine GoH.region ?_
      refine GoH.v (Vop.bin rfl rfl rfl rfl (bAdd (by omega)) rfl) ?_
      refine GoH.v (Vop.mv rfl rfl rfl rfl) ?_
      refine GoH.regionEnd ?_
      exact IH (k + 1) _ _ hlt (by omega) ⟨rfl, (by rw [hsc]; rfl), rfl, rfl, rfl, trivial⟩ .slnil
  · -- no
    have hge : ¬ k < p.length := by simpa using hc
    obtain rfl : k = p.length := by omega
    refine GoH.exit rfl ?_
    refine GoH.seq ?_
    refine GoH.region ?_
    refine GoH.v (Vop.mv rfl rfl rfl rfl) ?_
    refine GoH.v (Vop.asg rfl rfl rfl rfl) ?_
    refine GoH.regionEnd ?_
    refine GoH.ret Tryd.f62 Tryd.func62 rfl (fun w' hS => ?_)
    exact ⟨hS.ext, by rw [← rchTo_all]; rfl⟩
theorem rfactsP_c (m : MV) (n : Nat) (w : World) (hm : m.At w) (hv : ValM m.n m.val m.rel) (hn : m.n = (n : Int)) :
    Cn Tryd.prog 33 [m.v] w (fun v w' => OwnS I64 3 w w' v (psM n m m.rows 0)) := by
  obtain ⟨i0, hi, hz, hsz, hby⟩ := info_parts infoI
  have hn64 := hv.n64
  refine Cn.of Tryd.func33 rfl rfl ?_
  refine GoH.seq ?_
  refine GoH.region ?_
  refine GoH.bx rfl rfl rfl rfl (fun b1 => ?_)
  refine GoH.v (Vop.asg rfl rfl rfl rfl) ?_
  refine GoH.regionEnd ?_
  refine GoH.seq ?_
  refine GoH.region ?_
  refine GoH.v (Vop.asg rfl rfl rfl rfl) ?_
  refine GoH.regionEnd ?_
  refine GoH.seq ?_
  refine GoH.seq ?_
  refine GoH.region ?_
  refine GoH.v (Vop.asg rfl rfl rfl rfl) ?_
  refine GoH.regionEnd ?_
  refine GoH.block ?_
  refine GoH.addNone (ob I64 3 [] []) ?_
  refine GoH.loop (σ := Nat × Option Nat × Nat × List Value) (fun z => [(1, .pointer (some ⟨b1, 0, none⟩)), (3, osv z.2.1 (fmL m.val z.1).length z.2.2.1), (4, .int .i64 z.1)]) (fun z => [(z.2.1, ob I64 3 (fmL m.val z.1) z.2.2.2), (some b1, .cells m.v.cells 25 (0, 0))])
    (fun z => z.1 ≤ n ∧ (z.2.1 = none → (fmL m.val z.1).length = 0 ∧ z.2.2.1 = 0) ∧ ((fmL m.val z.1).map I64 ++ z.2.2.2).length = z.2.2.1) (fun z => n - z.1) (0, none, 0, []) ⟨Nat.zero_le _, fun _ => ⟨rfl, rfl⟩, rfl⟩ ⟨rfl, rfl, rfl, trivial⟩ (List.Sublist.refl _) (fun z hI IH => ?_)
  obtain ⟨k, q, cap, sp⟩ := z
  obtain ⟨hk, hq, hcap⟩ := hI
  dsimp only at hk hq hcap IH ⊢
  -- heap: q b1
  -- ptr: 1=b1
  refine GoH.seq ?_
  refine GoH.seq ?_
  refine GoH.region ?_
  refine GoH.v (Vop.mv rfl rfl rfl rfl) ?_
  refine GoH.v (Vop.fldP rfl rfl rfl rfl Tryd.underlying25 rfl (by exact Tryd.sizeOf3) 0 rfl) ?_
  refine GoH.v (Vop.ldo (v := .int .i64 m.n) rfl rfl rfl rfl Tryd.isAgg3 1 rfl rfl) ?_
  refine GoH.v (Vop.bin rfl rfl rfl rfl bLt rfl) ?_
  refine GoH.regionEnd ?_
  refine GoH.cond rfl (fun hc => ?_) (fun hc => ?_)
  · -- yes
    have hlt : k < n := by have : (k : Int) < m.n := by simpa using hc
                           omega
    have hlk : (fmL m.val k).length = k := fmL_len
    refine GoH.skip ?_
    refine GoH.seq ?_
    refine GoH.block ?_
    refine GoH.region ?_
    refine GoH.v (Vop.mv rfl rfl rfl rfl) ?_
    refine GoH.v (Vop.ldB rfl rfl rfl rfl Tryd.isAgg25 1 rfl Tryd.sizeOf25 rfl) ?_
    refine GoH.v (Vop.mv rfl rfl rfl rfl) ?_
    refine GoH.callP rfl rfl rfl rfl rfl (fun _ _ => Tryd.call59 _ _) (fun w _ hS => rfacts_c m k w (hm.ex0 hS.ext) hv (by omega)) ?_
    refine GoH.bs1 (v := I64 (fm m.val k : Int)) rfl rfl rfl rfl Tryd.underlying28 hi hz hsz rfl rfl (fun b19 => ?_)
    -- heap: b19 q b1
    refine GoH.appE I64 (xs := fmL m.val k) (sp := sp) (news := [(fm m.val k : Int)]) (spn := []) rfl rfl rfl rfl rfl Tryd.underlying28 hi hz hsz rfl hq 1 rfl 0 rfl hcap rfl (by decide) (fun _ => rfl) (by unfold maxLen; rw [hlk]; omega) (by rw [hby, hlk]; omega) (fun b' sp' cap' hlen2 => ?_)
    rw [← fmL_succ] at *
    -- heap: b19 b' b1
    refine GoH.v (Vop.asg rfl rfl rfl rfl) ?_
    refine GoH.regionEnd ?_
    refine GoH.inBlock ?_
    refine GoH.region ?_
    refine GoH.v (Vop.mv rfl rfl rfl rfl) ?_
    refine GoH.v (Vop.bin rfl rfl rfl rfl (bAdd (by omega)) rfl) ?_
    refine GoH.v (Vop.asg rfl rfl rfl rfl) ?_
    refine GoH.regionEnd ?_
    exact IH (k + 1, some b', cap', sp') _ _ ⟨hlt, (fun e => by cases e), hlen2⟩ (by dsimp only; omega) ⟨rfl, rfl, rfl, trivial⟩ (.cons _ (List.Sublist.refl _))
  · -- no
    have hge : ¬ k < n := by have : ¬ (k : Int) < m.n := by simpa using hc
                             omega
    obtain rfl : n = k := by omega
    have hfl : (fmL m.val n).length = n := fmL_len
    refine GoH.exit rfl ?_
    refine GoH.seq ?_
    refine GoH.region ?_
    refine GoH.v (Vop.fldP rfl rfl rfl rfl Tryd.underlying25 rfl (by exact Tryd.sizeOf3) 0 rfl) ?_
    refine GoH.v (Vop.ldo (v := .int .i64 m.n) rfl rfl rfl rfl Tryd.isAgg3 1 rfl rfl) ?_
    refine GoH.callM _ rfl rfl rfl rfl rfl (fun _ _ => Tryd.call60 _ _) (fun w _ hS => (by have := rtriv_c n w (by omega); rw [← hn] at this; exact this)) ?_
    rintro v w1 w2 Y' hS he ⟨sv, rfl, ho⟩
    obtain ⟨qT, capT, spT, rfl, hqT, hcapT, hS'⟩ := gainS hS he ho
    refine ⟨_, hS', ?_⟩
    -- heap: qT q b1
    refine GoH.v (Vop.mv rfl rfl rfl rfl) ?_
    refine GoH.v (Vop.ext rfl rfl rfl rfl rfl) ?_
    refine GoH.v (Vop.ext rfl rfl rfl rfl rfl) ?_
    refine GoH.v (Vop.asg rfl rfl rfl rfl) ?_
    refine GoH.v (Vop.asg rfl rfl rfl rfl) ?_
    refine GoH.regionEnd ?_
    refine GoH.seq ?_
    refine GoH.region ?_
    refine GoH.v (Vop.mv rfl rfl rfl rfl) ?_
    refine GoH.v (Vop.mv rfl rfl rfl rfl) ?_
    refine GoH.callM _ rfl rfl rfl rfl rfl (fun _ _ => Tryd.call61 _ _) (fun w _ hS => (by exact rsplit_c (qT.map (fun b => ⟨b, 0, none⟩)) capT (List.replicate n 0) (q.map (fun b => ⟨b, 0, none⟩)) cap (fmL m.val n) w (sliAt hS 0 rfl (fun e => (hqT e).1)) (sliAt hS 1 rfl (fun e => (hq e).1)) (okP_zero (by omega)) (by rw [hfl]; simp))) ?_
    rintro v w1 w2 Y' hS he ⟨sv, rfl, ho⟩
    rw [div_fm (rels := m.rel)] at ho
    obtain ⟨qS, capS, spS, rfl, hqS, hcapS, hS'⟩ := gainS hS he ho
    refine ⟨_, hS', ?_⟩
    -- heap: qS qT q b1
    refine GoH.v (Vop.mv rfl rfl rfl rfl) ?_
    refine GoH.v (Vop.ext rfl rfl rfl rfl rfl) ?_
    refine GoH.v (Vop.ext rfl rfl rfl rfl rfl) ?_
    refine GoH.v (Vop.asg rfl rfl rfl rfl) ?_
    refine GoH.v (Vop.asg rfl rfl rfl rfl) ?_
    refine GoH.regionEnd ?_
    refine GoH.seq ?_
    refine GoH.region ?_
    refine GoH.v (Vop.mv rfl rfl rfl rfl) ?_
    refine GoH.v (Vop.asg rfl rfl rfl rfl) ?_
    refine GoH.regionEnd ?_
    refine GoH.ret Tryd.f33 Tryd.func33 rfl (fun w' hS => ?_)
    exact ⟨hS.ext, OwnS.mk hS 0 rfl rfl hqS hcapS⟩
theorem rrefine_c (n : Nat) (a : Option Addr) (ca : Nat) (p : List Int) (ra : Option Addr) (rc : Nat) (rows : List Row) (w : World) (ha : SlI w a p) (hp : OkP p) (hn : p.length = n) (hr : RelAt w n ra rows) :
    Cn Tryd.prog 34 [.slice a n ca, .slice ra rows.length rc] w (fun v w' => OwnS I64 3 w w' v (nxt (rows.map Row.xs) p)) := by
  obtain ⟨i0, hi, hz, hsz, hby⟩ := info_parts infoI
  subst hn
  have hpl := hp.len
  have hrl := hr.len
  rw [← div_leds]
  obtain ⟨K, hK⟩ : ∃ K, rkey (rows.map Row.xs) p = K := ⟨_, rfl⟩
  have hKe : ∀ i j (hi : i < p.length) (hj : j < p.length), (p[i] == p[j] && (rows.take rows.length).all (fun r => rch p (r.xs.getD i 0#64) == rch p (r.xs.getD j 0#64))) = true ↔ K i = K j := fun i j hi hj => by
    rw [← hK, rkey_iff, Bool.and_eq_true, beq_iff_eq, List.take_length, List.all_eq_true, lowE hi, lowE hj]
    simp
  rw [hK]
  refine Cn.of Tryd.func34 rfl rfl ?_
  refine GoH.seq ?_
  refine GoH.region ?_
  refine GoH.v (Vop.asg rfl rfl rfl rfl) ?_
  refine GoH.regionEnd ?_
  refine GoH.seq ?_
  refine GoH.region ?_
  refine GoH.v (Vop.asg rfl rfl rfl rfl) ?_
  refine GoH.regionEnd ?_
  refine GoH.seq ?_
  refine GoH.seq ?_
  refine GoH.region ?_
  refine GoH.v (Vop.mv rfl rfl rfl rfl) ?_
  refine GoH.v (Vop.blt rfl rfl rfl (blt_len_slice Tryd.underlying28) rfl) ?_
  refine GoH.v (Vop.mv rfl rfl rfl rfl) ?_
  refine GoH.regionEnd ?_
  refine GoH.block ?_
  refine GoH.addNone (ob I64 3 [] []) ?_
  refine GoH.loop (σ := Nat × Option Nat × Nat × List Value) (fun z => [(0, .slice a p.length ca), (1, .slice ra rows.length rc), (5, osv z.2.1 (leds K z.1).length z.2.2.1), (15, .int .i64 p.length), (16, .int .i64 z.1)]) (fun z => [(z.2.1, ob I64 3 (leds K z.1) z.2.2.2)])
    (fun z => z.1 ≤ p.length ∧ (z.2.1 = none → (leds K z.1).length = 0 ∧ z.2.2.1 = 0) ∧ ((leds K z.1).map I64 ++ z.2.2.2).length = z.2.2.1) (fun z => p.length - z.1) (0, none, 0, []) ⟨Nat.zero_le _, fun _ => ⟨rfl, rfl⟩, rfl⟩ ⟨rfl, rfl, rfl, rfl, rfl, trivial⟩ (List.Sublist.refl _) (fun z hI IH => ?_)
  obtain ⟨k, q, cap, sp⟩ := z
  obtain ⟨hk, hq, hcap⟩ := hI
  dsimp only at hk hq hcap IH ⊢
  -- heap: q
  refine GoH.seq ?_
  refine GoH.region ?_
  refine GoH.v (Vop.bin rfl rfl rfl rfl bLt rfl) ?_
  refine GoH.regionEnd ?_
  refine GoH.seq ?_
  refine GoH.cond rfl (fun hc => ?_) (fun hc => ?_)
  · -- yes
    have hlt : k < p.length := by simpa using hc
    have hlk : (leds K k).length = k := leds_len
    refine GoH.skip ?_
    refine GoH.seq ?_
    refine GoH.block ?_
    refine GoH.seq ?_
    refine GoH.region ?_
    refine GoH.v (Vop.mv rfl rfl rfl rfl) ?_
    refine GoH.v (Vop.asg rfl rfl rfl rfl) ?_
    refine GoH.regionEnd ?_
    refine GoH.seq ?_
    refine GoH.region ?_
    refine GoH.v (Vop.mv rfl rfl rfl rfl) ?_
    refine GoH.v (Vop.asg rfl rfl rfl rfl) ?_
    refine GoH.regionEnd ?_
    refine GoH.seq ?_
    refine GoH.seq ?_
    refine GoH.region ?_
    refine GoH.v (Vop.mv rfl rfl rfl rfl) ?_
    refine GoH.v (Vop.bin rfl rfl rfl rfl (bSub (by omega)) rfl) ?_
    refine GoH.v (Vop.asg rfl rfl rfl rfl) ?_
    refine GoH.regionEnd ?_
    refine GoH.block ?_
    refine GoH.loop (σ := Int × Nat) (fun z => [(0, .slice a p.length ca), (1, .slice ra rows.length rc), (5, osv q (leds K k).length cap), (6, .int .i64 k), (7, .int .i64 z.2), (8, .int .i64 z.1), (15, .int .i64 p.length), (16, .int .i64 k)]) (fun _ => [(q, ob I64 3 (leds K k) sp)])
      (fun z => -1 ≤ z.1 ∧ z.1 < k ∧ Down K k z.1 z.2) (fun z => (z.1 + 1).toNat) ((k : Int) - 1, k) ⟨by dsimp only; omega, by dsimp only; omega, Down.start (by omega) (fun m h1 h2 => by omega)⟩ ⟨rfl, rfl, rfl, rfl, rfl, rfl, rfl, rfl, trivial⟩ (List.Sublist.refl _) (fun z hI IH2 => ?_)
    obtain ⟨j, low⟩ := z
    obtain ⟨hj1, hj2, hD⟩ := hI
    dsimp only at hj1 hj2 hD IH2 ⊢
    -- heap: q
    refine GoH.seq ?_
    refine GoH.seq ?_
    refine GoH.region ?_
    refine GoH.v (Vop.mv rfl rfl rfl rfl) ?_
    refine GoH.v (Vop.bin rfl rfl rfl rfl bGe rfl) ?_
    refine GoH.regionEnd ?_
    refine GoH.cond rfl (fun hc => ?_) (fun hc => ?_)
    · -- yes
      have hj0 : 0 ≤ j := by simpa using hc
      obtain ⟨j, rfl⟩ : ∃ J : Nat, j = J := ⟨j.toNat, by omega⟩
      have hjl : j < p.length := by omega
      have hiff := hKe k j hlt hjl
      refine GoH.skip ?_
      refine GoH.seq ?_
      refine GoH.block ?_
      refine GoH.seq ?_
      refine GoH.draw 10 mixed rfl ?_
      refine RdGo.v (Vop.mv rfl rfl rfl rfl) ?_
      refine RdGo.v (Vop.mv rfl rfl rfl rfl) ?_
      refine RdGo.v (Vop.idx rfl rfl rfl rfl rfl Tryd.underlying28 Tryd.sizeOf3 ⟨_, ha⟩ (by simp) (k) ⟨rfl, by simpa using hlt⟩) ?_
      refine RdGo.v (Vop.ld rfl rfl rfl rfl Tryd.isAgg3 (fun w _ hS => (SlI.ex0 ha hS.ext).at (k) hlt)) ?_
      refine RdGo.v (Vop.mv rfl rfl rfl rfl) ?_
      refine RdGo.v (Vop.mv rfl rfl rfl rfl) ?_
      refine RdGo.v (Vop.idx rfl rfl rfl rfl rfl Tryd.underlying28 Tryd.sizeOf3 ⟨_, ha⟩ (by simp) (j) ⟨rfl, by simpa using hjl⟩) ?_
      refine RdGo.v (Vop.ld rfl rfl rfl rfl Tryd.isAgg3 (fun w _ hS => (SlI.ex0 ha hS.ext).at (j) hjl)) ?_
      refine RdGo.v (Vop.bin rfl rfl rfl rfl bEq rfl) ?_
      refine RdGo.v (Vop.asg rfl rfl rfl rfl) ?_
      refine RdGo.nil ?_
      refine GoH.regionEnd ?_
      refine GoH.seq ?_
      refine GoH.seq ?_
      refine GoH.region ?_
      refine GoH.v (Vop.mv rfl rfl rfl rfl) ?_
      refine GoH.v (Vop.blt rfl rfl rfl (blt_len_slice Tryd.underlying23) rfl) ?_
      refine GoH.v (Vop.mv rfl rfl rfl rfl) ?_
      refine GoH.regionEnd ?_
      refine GoH.block ?_
      refine GoH.loop (σ := Nat × Bool) (fun z => [(0, .slice a p.length ca), (1, .slice ra rows.length rc), (5, osv q (leds K k).length cap), (6, .int .i64 k), (7, .int .i64 low), (8, .int .i64 j), (9, .bool z.2), (15, .int .i64 p.length), (16, .int .i64 k), (35, .slice ra rows.length rc), (36, .int .i64 rows.length), (37, .int .i64 z.1)]) (fun _ => [(q, ob I64 3 (leds K k) sp)])
        (fun z => z.1 ≤ rows.length ∧ z.2 = (p[k] == p[j] && (rows.take z.1).all (fun r => rch p (r.xs.getD k 0#64) == rch p (r.xs.getD j 0#64)))) (fun z => rows.length - z.1) (0, p[k] == p[j]) ⟨Nat.zero_le _, by simp⟩ ⟨rfl, rfl, rfl, rfl, rfl, rfl, rfl, rfl, rfl, rfl, rfl, rfl, trivial⟩ (List.Sublist.refl _) (fun z hI IH3 => ?_)
      obtain ⟨i, same⟩ := z
      obtain ⟨hi3, hs3⟩ := hI
      dsimp only at hi3 hs3 IH3 ⊢
      -- heap: q
      refine GoH.seq ?_
      refine GoH.region ?_
      refine GoH.v (Vop.bin rfl rfl rfl rfl bLt rfl) ?_
      refine GoH.regionEnd ?_
      refine GoH.seq ?_
      refine GoH.cond rfl (fun hc => ?_) (fun hc => ?_)
      · -- yes
        have hlti : i < rows.length := by simpa using hc
        obtain ⟨hrow, hrv, hrn⟩ := hr.row rows[i] (List.getElem_mem hlti)
        have hkr : k < rows[i].xs.length := by omega
        have hjr : j < rows[i].xs.length := by omega
        have hstep : ∀ b, b = (same && (rch p (rows[i].xs.getD k 0#64) == rch p (rows[i].xs.getD j 0#64))) → b = (p[k] == p[j] && (rows.take (i + 1)).all (fun r => rch p (r.xs.getD k 0#64) == rch p (r.xs.getD j 0#64))) := fun b hb => by
          rw [hb, hs3, List.take_succ_eq_append_getElem hlti, List.all_append, Bool.and_assoc]
          simp
        refine GoH.skip ?_
        refine GoH.seq ?_
        refine GoH.block ?_
        refine GoH.seq ?_
        refine GoH.region ?_
        refine GoH.v (Vop.idx rfl rfl rfl rfl rfl Tryd.underlying23 Tryd.sizeOf22 ⟨_, hr.rel⟩ (by simp) (i) ⟨rfl, by simpa using hlti⟩) ?_
        refine GoH.v (Vop.ld rfl rfl rfl rfl Tryd.isAgg22 (fun w _ hS => (SlR.ex0 hr.rel hS.ext).at (i) hlti)) ?_
        refine GoH.v (Vop.asg rfl rfl rfl rfl) ?_
        refine GoH.regionEnd ?_
        refine GoH.draw 16 mixed rfl ?_
        refine RdGo.v (Vop.mv rfl rfl rfl rfl) ?_
        refine RdGo.v (Vop.mv rfl rfl rfl rfl) ?_
        -- guard on slot 42 (ref.go:29)
        refine RdGo.cases (d := 42) rfl (fun hc => ?_) (fun hc => ?_)
        · -- yes
          obtain rfl : same = true := hc
          refine RdGo.v (Vop.mv rfl rfl rfl rfl) ?_
          refine RdGo.v (Vop.mv rfl rfl rfl rfl) ?_
          refine RdGo.v (Vop.mv rfl rfl rfl rfl) ?_
          refine RdGo.v (Vop.idx rfl rfl rfl rfl rfl Tryd.underlying22 Tryd.sizeOf44 ⟨_, hrow.at_⟩ (by simp) (k) ⟨rfl, by simpa using hkr⟩) ?_
          refine RdGo.v (Vop.ld rfl rfl rfl rfl Tryd.isAgg44 (fun w _ hS => (SlU.ex0 hrow.at_ hS.ext).at (k) hkr)) ?_
          refine RdGo.callP rfl rfl rfl rfl rfl (fun _ _ => Tryd.call62 _ _) (fun w _ hS => rreach_c a ca p (rows[i].xs.getD k 0#64) w p.length rfl (ha.ex0 hS.ext) hp) ?_
          refine RdGo.v (Vop.mv rfl rfl rfl rfl) ?_
          refine RdGo.v (Vop.mv rfl rfl rfl rfl) ?_
          refine RdGo.v (Vop.mv rfl rfl rfl rfl) ?_
          refine RdGo.v (Vop.idx rfl rfl rfl rfl rfl Tryd.underlying22 Tryd.sizeOf44 ⟨_, hrow.at_⟩ (by simp) (j) ⟨rfl, by simpa using hjr⟩) ?_
          refine RdGo.v (Vop.ld rfl rfl rfl rfl Tryd.isAgg44 (fun w _ hS => (SlU.ex0 hrow.at_ hS.ext).at (j) hjr)) ?_
          refine RdGo.callP rfl rfl rfl rfl rfl (fun _ _ => Tryd.call62 _ _) (fun w _ hS => rreach_c a ca p (rows[i].xs.getD j 0#64) w p.length rfl (ha.ex0 hS.ext) hp) ?_
          refine RdGo.v (Vop.bin rfl rfl rfl rfl bEqU rfl) ?_
          refine RdGo.v (Vop.pickT rfl rfl rfl rfl rfl) ?_
          refine RdGo.nil ?_
          refine GoH.v (Vop.asg rfl rfl rfl rfl) ?_
          refine GoH.regionEnd ?_
          refine GoH.inBlock ?_
          refine GoH.region ?_
          refine GoH.v (Vop.bin rfl rfl rfl rfl (bAdd (by omega)) rfl) ?_
          refine GoH.v (Vop.mv rfl rfl rfl rfl) ?_
          refine GoH.regionEnd ?_
          exact IH3 (i + 1, rch p (rows[i].xs.getD k 0#64) == rch p (rows[i].xs.getD j 0#64)) _ _ ⟨hlti, hstep _ (by simp)⟩ (by dsimp only; omega) ⟨rfl, rfl, rfl, rfl, rfl, rfl, rfl, rfl, rfl, rfl, rfl, rfl, trivial⟩ (List.Sublist.refl _)
        · -- no
          obtain rfl : same = false := hc
          refine RdGo.no rfl rfl rfl rfl rfl ?_
          refine RdGo.no rfl rfl rfl rfl rfl ?_
          refine RdGo.no rfl rfl rfl rfl rfl ?_
          refine RdGo.no rfl rfl rfl rfl rfl ?_
          refine RdGo.no rfl rfl rfl rfl rfl ?_
          refine RdGo.no rfl rfl rfl rfl rfl ?_
          refine RdGo.no rfl rfl rfl rfl rfl ?_
          refine RdGo.no rfl rfl rfl rfl rfl ?_
          refine RdGo.no rfl rfl rfl rfl rfl ?_
          refine RdGo.no rfl rfl rfl rfl rfl ?_
          refine RdGo.no rfl rfl rfl rfl rfl ?_
          refine RdGo.no rfl rfl rfl rfl rfl ?_
          refine RdGo.no rfl rfl rfl rfl rfl ?_
          refine RdGo.v (Vop.pickF rfl rfl rfl rfl rfl) ?_
          refine RdGo.nil ?_
          refine GoH.v (Vop.asg rfl rfl rfl rfl) ?_
          refine GoH.regionEnd ?_
          refine GoH.inBlock ?_
          refine GoH.region ?_
          refine GoH.v (Vop.bin rfl rfl rfl rfl (bAdd (by omega)) rfl) ?_
          refine GoH.v (Vop.mv rfl rfl rfl rfl) ?_
          refine GoH.regionEnd ?_
          exact IH3 (i + 1, false) _ _ ⟨hlti, hstep _ (by simp)⟩ (by dsimp only; omega) ⟨rfl, rfl, rfl, rfl, rfl, rfl, rfl, rfl, rfl, rfl, rfl, rfl, trivial⟩ (List.Sublist.refl _)
      · -- no
        have hge : ¬ i < rows.length := by simpa using hc
        obtain rfl : i = rows.length := by omega
        rw [← hs3] at hiff
        refine GoH.exit rfl ?_
        refine GoH.seq ?_
        refine GoH.region ?_
        refine GoH.v (Vop.mv rfl rfl rfl rfl) ?_
        refine GoH.regionEnd ?_
        refine GoH.cond rfl (fun hc => ?_) (fun hc => ?_)
        · -- yes
          have hkk : K j = K k := (hiff.1 hc).symm
          refine GoH.region ?_
          refine GoH.v (Vop.mv rfl rfl rfl rfl) ?_
          refine GoH.v (Vop.asg rfl rfl rfl rfl) ?_
          refine GoH.regionEnd ?_
          refine GoH.inBlock ?_
          refine GoH.region ?_
          refine GoH.v (Vop.mv rfl rfl rfl rfl) ?_
          refine GoH.v (Vop.bin rfl rfl rfl rfl (bSub (by omega)) rfl) ?_
          refine GoH.v (Vop.asg rfl rfl rfl rfl) ?_
          refine GoH.regionEnd ?_
          exact IH2 ((j : Int) - 1, j) _ _ ⟨by dsimp only; omega, by dsimp only; omega, hD.hit (by omega) hkk⟩ (by dsimp only; omega) ⟨rfl, rfl, rfl, rfl, rfl, rfl, rfl, rfl, trivial⟩ (List.Sublist.refl _)
        · -- no
          have hkk : K j ≠ K k := fun e => by rw [hiff.2 e.symm] at hc; cases hc
          refine GoH.skip ?_
          refine GoH.inBlock ?_
          refine GoH.region ?_
          refine GoH.v (Vop.mv rfl rfl rfl rfl) ?_
          refine GoH.v (Vop.bin rfl rfl rfl rfl (bSub (by omega)) rfl) ?_
          refine GoH.v (Vop.asg rfl rfl rfl rfl) ?_
          refine GoH.regionEnd ?_
          exact IH2 ((j : Int) - 1, low) _ _ ⟨by dsimp only; omega, by dsimp only; omega, hD.skip hkk⟩ (by dsimp only; omega) ⟨rfl, rfl, rfl, rfl, rfl, rfl, rfl, rfl, trivial⟩ (List.Sublist.refl _)
    · -- no
      have hj0 : ¬ 0 ≤ j := by simpa using hc
      have hled : led K k = low := hD.led (by omega)
      refine GoH.exit rfl ?_
      refine GoH.region ?_
      refine GoH.v (Vop.mv rfl rfl rfl rfl) ?_
      refine GoH.v (Vop.mv rfl rfl rfl rfl) ?_
      refine GoH.bs1 (v := I64 (low : Int)) rfl rfl rfl rfl Tryd.underlying28 hi hz hsz rfl rfl (fun b43 => ?_)
      -- heap: b43 q
      refine GoH.appE I64 (xs := leds K k) (sp := sp) (news := [(low : Int)]) (spn := []) rfl rfl rfl rfl rfl Tryd.underlying28 hi hz hsz rfl hq 1 rfl 0 rfl hcap rfl (by decide) (fun _ => rfl) (by unfold maxLen; rw [hlk]; omega) (by rw [hby, hlk]; omega) (fun b' sp' cap' hlen2 => ?_)
      rw [← hled, ← leds_succ] at *
      -- heap: b43 b'
      refine GoH.v (Vop.asg rfl rfl rfl rfl) ?_
      refine GoH.regionEnd ?_
      refine GoH.inBlock ?_
      refine GoH.region ?_
      refine GoH.v (Vop.bin rfl rfl rfl rfl (bAdd (by omega)) rfl) ?_
      refine GoH.v (Vop.mv rfl rfl rfl rfl) ?_
      refine GoH.regionEnd ?_
      exact IH (k + 1, some b', cap', sp') _ _ ⟨hlt, (fun e => by cases e), hlen2⟩ (by dsimp only; omega) ⟨rfl, rfl, rfl, rfl, rfl, trivial⟩ (.cons _ (List.Sublist.refl _))
  · -- no
    have hge : ¬ k < p.length := by simpa using hc
    obtain rfl : k = p.length := by omega
    refine GoH.exit rfl ?_
    refine GoH.seq ?_
    refine GoH.region ?_
    refine GoH.v (Vop.mv rfl rfl rfl rfl) ?_
    refine GoH.v (Vop.mv rfl rfl rfl rfl) ?_
    refine GoH.callM _ rfl rfl rfl rfl rfl (fun _ _ => Tryd.call61 _ _) (fun w _ hS => (by exact rsplit_c a ca p (q.map (fun b => ⟨b, 0, none⟩)) cap (leds K p.length) w (ha.ex0 hS.ext) (sliAt hS 0 rfl (fun e => (hq e).1)) hp leds_len)) ?_
    rintro v w1 w2 Y' hS he ⟨sv, rfl, ho⟩
    obtain ⟨qS, capS, spS, rfl, hqS, hcapS, hS'⟩ := gainS hS he ho
    refine ⟨_, hS', ?_⟩
    -- heap: qS q
    refine GoH.v (Vop.mv rfl rfl rfl rfl) ?_
    refine GoH.v (Vop.ext rfl rfl rfl rfl rfl) ?_
    refine GoH.v (Vop.ext rfl rfl rfl rfl rfl) ?_
    refine GoH.v (Vop.asg rfl rfl rfl rfl) ?_
    refine GoH.v (Vop.asg rfl rfl rfl rfl) ?_
    refine GoH.regionEnd ?_
    refine GoH.seq ?_
    refine GoH.region ?_
    refine GoH.v (Vop.mv rfl rfl rfl rfl) ?_
    refine GoH.v (Vop.asg rfl rfl rfl rfl) ?_
    refine GoH.regionEnd ?_
    refine GoH.ret Tryd.f34 Tryd.func34 rfl (fun w' hS => ?_)
    exact ⟨hS.ext, OwnS.mk hS 0 rfl rfl hqS hcapS⟩
end Go.Proofs.YtpifbcbdbkbbjaaDoor
