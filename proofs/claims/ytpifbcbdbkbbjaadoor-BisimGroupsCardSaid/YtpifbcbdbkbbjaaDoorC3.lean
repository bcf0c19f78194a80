/- Contracts of functions of the program: what each call returns and that nothing else of memory is turned, under the conditions that each theorem states. -/
import Derived.Test.YtpifbcbdbkbbjaaDoorC2
namespace Go.Proofs.YtpifbcbdbkbbjaaDoor
open Go.RowKit Go.Proofs.Wit
/-! the reference's Rounds, Coarsest, Depth -/
theorem rstable_c (m : MV) (n : Nat) (ra : Option Addr) (rc : Nat) (rows : List Row) (a : Option Addr) (ca : Nat) (w : World) (_hT : Tab w) (hv : ValM m.n m.val m.rel) (hn : m.n = (n : Int)) (hr : RelAt w n ra rows) (ha : SlI w a (psM n m rows 0)) :
    Cn Tryd.prog 36 [.slice a n ca, .slice ra rows.length rc] w (fun v w' => ∃ sv, v = .tuple #[sv, .int .i64 (dep n m.val (rows.map Row.xs))] ∧ (dep n m.val (rows.map Row.xs) = 0 ∧ sv = .slice a n ca ∨ OwnS I64 3 w w' sv (psM n m rows (dep n m.val (rows.map Row.xs))))) := by
  have hn64 := hv.n64
  have hn1 := hv.n1
  obtain ⟨hd1, hd2, hd3⟩ := dep_spec (n := n) (val := m.val) (rels := rows.map Row.xs) (by omega) (by omega)
  have hpl : ∀ i, (psM n m rows i).length = n := fun i => psq_len i
  have hpo : ∀ i, OkP (psM n m rows i) := fun i => psq_ok (by omega) i
  refine Cn.of Tryd.func36 rfl rfl ?_
  refine GoH.seq ?_
  refine GoH.region ?_
  refine GoH.v (Vop.asg rfl rfl rfl rfl) ?_
  refine GoH.v (Vop.asg rfl rfl rfl rfl) ?_
  refine GoH.regionEnd ?_
  refine GoH.seq ?_
  refine GoH.region ?_
  refine GoH.v (Vop.asg rfl rfl rfl rfl) ?_
  refine GoH.regionEnd ?_
  refine GoH.block ?_
  refine GoH.addNone (ob I64 3 (psM n m rows 0) []) ?_
  refine GoH.loop (σ := Nat × Option Addr × Nat × Option Nat × List Value) (fun z => [(0, .slice z.2.1 n z.2.2.1), (1, .slice ra rows.length rc), (6, .int .i64 z.1)]) (fun z => [(z.2.2.2.1, ob I64 3 (psM n m rows z.1) z.2.2.2.2)])
    (fun z => z.1 ≤ dep n m.val (rows.map Row.xs) ∧ (z.1 = 0 ∧ z.2.1 = a ∧ z.2.2.1 = ca ∨ ∃ b, z.2.2.2.1 = some b ∧ z.2.1 = some ⟨b, 0, none⟩ ∧ ((psM n m rows z.1).map I64 ++ z.2.2.2.2).length = z.2.2.1)) (fun z => n - z.1) (0, a, ca, none, []) ⟨Nat.zero_le _, .inl ⟨rfl, rfl, rfl⟩⟩ ⟨rfl, rfl, rfl, trivial⟩ (List.Sublist.refl _) (fun z hI IH => ?_)
  obtain ⟨i, ai, ci, q, sp⟩ := z
  obtain ⟨hid, hcase⟩ := hI
  dsimp only at hid hcase IH ⊢
  have hat : ∀ w' (H : Hl) Y', St w [] w' H Y' → ((q, ob I64 3 (psM n m rows i) sp) ∈ H) → SlI w' ai (psM n m rows i) := fun w' H Y' hS hm => by
    rcases hcase with ⟨rfl, rfl, rfl⟩ | ⟨b, rfl, rfl, _⟩
    · exact ha.ex0 hS.ext
    · exact Sl.blk (hS.own _ hm b rfl).1
  -- heap: q
  refine GoH.block ?_
  refine GoH.seq ?_
  refine GoH.region ?_
  refine GoH.v (Vop.mv rfl rfl rfl rfl) ?_
  refine GoH.v (Vop.mv rfl rfl rfl rfl) ?_
  refine GoH.callM _ rfl rfl rfl rfl rfl (fun _ _ => Tryd.call34 _ _) (fun w _ hS => rrefine_c n ai ci (psM n m rows i) ra rc rows w (hat w _ _ hS (List.mem_cons_self ..)) (hpo i) (hpl i) (hr.ex0 hS.ext)) ?_
  rintro v w1 w2 Y' hS he ho
  obtain ⟨q2, cap2, sp2, rfl, hq2, hcap2, hS'⟩ := gainS hS he ho
  have hlen2 : (nxt (rows.map Row.xs) (psM n m rows i)).length = n := hpl (i + 1)
  rw [hlen2] at hq2 ⊢
  refine ⟨_, hS', ?_⟩
  -- heap: q2 q
  refine GoH.v (Vop.asg rfl rfl rfl rfl) ?_
  refine GoH.regionEnd ?_
  refine GoH.seq ?_
  refine GoH.seq ?_
  refine GoH.region ?_
  refine GoH.v (Vop.mv rfl rfl rfl rfl) ?_
  refine GoH.v (Vop.mv rfl rfl rfl rfl) ?_
  refine GoH.callP rfl rfl rfl rfl rfl (fun _ _ => Tryd.call63 _ _) (fun w _ hS => (by
  have := rsame_c ai ci (psM n m rows i) (q2.map (fun b => ⟨b, 0, none⟩)) cap2 (nxt (rows.map Row.xs) (psM n m rows i)) w (hat w _ _ hS (by simp)) (sliAt hS 0 rfl (fun e => by rw [hlen2]; exact (hq2 e).1)) (by rw [hpl]; unfold maxLen; omega)
  rw [hpl, hlen2] at this
  exact this)) ?_
  refine GoH.regionEnd ?_
  refine GoH.cond rfl (fun hc => ?_) (fun hc => ?_)
  · -- yes
    have heq : psM n m rows i = psM n m rows (i + 1) := beq_iff_eq.1 hc
    have hid2 : i = dep n m.val (rows.map Row.xs) := dep_uniq (by omega) (by omega) heq (fun j hj => hd3 j (by omega))
    refine GoH.seq ?_
    refine GoH.region ?_
    refine GoH.v (Vop.mv rfl rfl rfl rfl) ?_
    refine GoH.v (Vop.mv rfl rfl rfl rfl) ?_
    refine GoH.v (Vop.asg rfl rfl rfl rfl) ?_
    refine GoH.v (Vop.asg rfl rfl rfl rfl) ?_
    refine GoH.regionEnd ?_
    refine GoH.ret Tryd.f36 Tryd.func36 rfl (fun w' hS => ?_)
    refine ⟨hS.ext, _, by rw [← hid2]; rfl, ?_⟩
    rw [← hid2]
    rcases hcase with ⟨h0, rfl, rfl⟩ | ⟨b, rfl, rfl, hcap⟩
    · exact .inl ⟨h0, rfl⟩
    · exact .inr (OwnS.mk hS 1 (q := some b) rfl (hpl i).symm (fun e => by cases e) hcap)
  · -- no
    have hne : psM n m rows i ≠ psM n m rows (i + 1) := by
      intro e
      rw [beq_eq_false_iff_ne] at hc
      exact hc e
    have hlt : i < dep n m.val (rows.map Row.xs) := by
      rcases Nat.lt_or_eq_of_le hid with h | h
      · exact h
      · exact absurd (h ▸ hd2) hne
    obtain ⟨b2, rfl⟩ : ∃ b, q2 = some b := by
      cases q2 with
      | none => have := (hq2 rfl).1; omega
      | some b => exact ⟨b, rfl⟩
    refine GoH.skip ?_
    refine GoH.seq ?_
    refine GoH.region ?_
    refine GoH.v (Vop.mv rfl rfl rfl rfl) ?_
    refine GoH.v (Vop.asg rfl rfl rfl rfl) ?_
    refine GoH.regionEnd ?_
    refine GoH.region ?_
    refine GoH.v (Vop.mv rfl rfl rfl rfl) ?_
    refine GoH.v (Vop.bin rfl rfl rfl rfl (bAdd (by omega)) rfl) ?_
    refine GoH.v (Vop.asg rfl rfl rfl rfl) ?_
    refine GoH.regionEnd ?_
    refine GoH.inBlock ?_
    exact IH (i + 1, some ⟨b2, 0, none⟩, cap2, some b2, sp2) _ _ ⟨hlt, .inr ⟨b2, rfl, rfl, hcap2⟩⟩ (by dsimp only; omega) ⟨rfl, rfl, rfl, trivial⟩ (.cons_cons _ (.cons _ .slnil))
set_option maxRecDepth 4000 in
theorem rrounds_c (m : MV) (k : Int) (w : World) (_hT : Tab w) (hm : m.At w) :
    Cn Tryd.prog 13 [m.v, .int .i64 k] w (fun v w' => ∃ sv, v = .tuple #[sv, .int .i64 (rndsE m.n m.val m.rel k)] ∧ OwnS I64 3 w w' sv (rnds m.n m.val m.rel k)) := by
  refine Cn.of Tryd.func13 rfl rfl ?_
  refine GoH.seq ?_
  refine GoH.region ?_
  refine GoH.bx rfl rfl rfl rfl (fun b2 => ?_)
  refine GoH.v (Vop.asg rfl rfl rfl rfl) ?_
  refine GoH.v (Vop.asg rfl rfl rfl rfl) ?_
  refine GoH.regionEnd ?_
  refine GoH.seq ?_
  refine GoH.seq ?_
  refine GoH.region ?_
  refine GoH.v (Vop.ldB rfl rfl rfl rfl Tryd.isAgg25 0 rfl Tryd.sizeOf25 rfl) ?_
  refine GoH.callP rfl rfl rfl rfl rfl (fun _ _ => Tryd.call26 _ _) (fun w _ hS => (by exact rmCheck_c m w (hm.ex0 hS.ext))) ?_
  refine GoH.v (Vop.asg rfl rfl rfl rfl) ?_
  refine GoH.regionEnd ?_
  refine GoH.seq ?_
  refine GoH.region ?_
  refine GoH.v (Vop.mv rfl rfl rfl rfl) ?_
  refine GoH.v (Vop.bin rfl rfl rfl rfl bNe rfl) ?_
  refine GoH.regionEnd ?_
  refine GoH.cond rfl (fun hc => ?_) (fun hc => ?_)
  · -- yes
    have h1 : checkM m.n m.val m.rel ≠ 0 := by simpa using hc
    have h2 : rndsE m.n m.val m.rel k ≠ 0 := by rw [rndsE, if_pos h1]; exact h1
    refine GoH.seq ?_
    refine GoH.region ?_
    refine GoH.v (Vop.mv rfl rfl rfl rfl) ?_
    refine GoH.v (Vop.asg rfl rfl rfl rfl) ?_
    refine GoH.v (Vop.asg rfl rfl rfl rfl) ?_
    refine GoH.regionEnd ?_
    refine GoH.ret Tryd.f13 Tryd.func13 rfl (fun w' hS => ?_)
    exact ⟨hS.ext, _, by rw [rndsE, if_pos h1]; rfl, by rw [rnds_bad h2]; exact OwnS.nil0⟩
  · -- no
    have h1 : checkM m.n m.val m.rel = 0 := by simpa using hc
    have hv := checkM_zero.1 h1
    obtain ⟨n, hn⟩ : ∃ n : Nat, m.n = n := ⟨m.n.toNat, by have := hv.n1; omega⟩
    have hn64 := hv.n64
    have hn1 := hv.n1
    have hpl : ∀ i, (psM n m m.rows i).length = n := fun i => psq_len i
    refine GoH.skip ?_
    refine GoH.seq ?_
    refine GoH.seq ?_
    refine GoH.region ?_
    refine GoH.v (Vop.mv rfl rfl rfl rfl) ?_
    refine GoH.v (Vop.bin rfl rfl rfl rfl bLt rfl) ?_
    refine GoH.regionEnd ?_
    refine GoH.cond rfl (fun hc => ?_) (fun hc => ?_)
    · -- yes
      have h3 : k < 0 := by simpa using hc
      have h2 : rndsE m.n m.val m.rel k = 2 := by rw [rndsE, if_neg (by simp [h1]), if_pos h3]
      refine GoH.seq ?_
      refine GoH.region ?_
      refine GoH.v (Vop.asg rfl rfl rfl rfl) ?_
      refine GoH.v (Vop.asg rfl rfl rfl rfl) ?_
      refine GoH.regionEnd ?_
      refine GoH.ret Tryd.f13 Tryd.func13 rfl (fun w' hS => ?_)
      exact ⟨hS.ext, _, by rw [h2]; rfl, by rw [rnds_bad (by rw [h2]; decide)]; exact OwnS.nil0⟩
    · -- no
      have h3 : ¬ k < 0 := by simpa using hc
      have h2 : rndsE m.n m.val m.rel k = 0 := by rw [rndsE, if_neg (by simp [h1]), if_neg h3]
      refine GoH.skip ?_
      refine GoH.seq ?_
      refine GoH.region ?_
      refine GoH.v (Vop.ldB rfl rfl rfl rfl Tryd.isAgg25 0 rfl Tryd.sizeOf25 rfl) ?_
      refine GoH.callM _ rfl rfl rfl rfl rfl (fun _ _ => Tryd.call33 _ _) (fun w _ hS => rfactsP_c m n w (hm.ex0 hS.ext) hv hn) ?_
      rintro v w1 w2 Y' hS he ho
      obtain ⟨qF, capF, spF, rfl, hqF, hcapF, hS'⟩ := gainS hS he ho
      rw [hpl] at hqF ⊢
      refine ⟨_, hS', ?_⟩
      -- heap: qF b2
      refine GoH.v (Vop.asg rfl rfl rfl rfl) ?_
      refine GoH.regionEnd ?_
      refine GoH.seq ?_
      refine GoH.seq ?_
      refine GoH.region ?_
      refine GoH.v (Vop.asg rfl rfl rfl rfl) ?_
      refine GoH.regionEnd ?_
      refine GoH.block ?_
      refine GoH.loop (σ := Nat × Option Nat × Nat × List Value) (fun z => [(1, .int .i64 k), (2, .pointer (some ⟨b2, 0, none⟩)), (7, osv z.2.1 n z.2.2.1), (8, .int .i64 z.1)]) (fun z => [(z.2.1, ob I64 3 (psM n m m.rows z.1) z.2.2.2), (some b2, .cells m.v.cells 25 (0, 0))])
        (fun z => z.1 ≤ n ∧ (z.1 : Int) ≤ k ∧ (z.2.1 = none → n = 0 ∧ z.2.2.1 = 0) ∧ ((psM n m m.rows z.1).map I64 ++ z.2.2.2).length = z.2.2.1) (fun z => n - z.1) (0, qF, capF, spF) ⟨Nat.zero_le _, by dsimp only; omega, hqF, hcapF⟩ ⟨rfl, rfl, rfl, rfl, trivial⟩ (List.Sublist.refl _) (fun z hI IH => ?_)
      obtain ⟨i, q, cap, sp⟩ := z
      obtain ⟨hin, hik, hq, hcap⟩ := hI
      dsimp only at hin hik hq hcap IH ⊢
      -- heap: q b2
      -- ptr: 2=b2
      refine GoH.seq ?_
      refine GoH.seq ?_
      refine GoH.region ?_
      refine GoH.v (Vop.mv rfl rfl rfl rfl) ?_
      refine GoH.v (Vop.mv rfl rfl rfl rfl) ?_
      refine GoH.v (Vop.bin rfl rfl rfl rfl bLt rfl) ?_
      refine GoH.v (Vop.mv rfl rfl rfl rfl) ?_
      -- guard on slot 21 (ref.go:61)
      refine GoH.cases (d := 21) rfl (fun hc => ?_) (fun hc => ?_)
      · -- yes
        have hlk : (i : Int) < k := by simpa using hc
        refine GoH.v (Vop.mv rfl rfl rfl rfl) ?_
        refine GoH.v (Vop.fldP rfl rfl rfl rfl Tryd.underlying25 rfl (by exact Tryd.sizeOf3) 0 rfl) ?_
        refine GoH.v (Vop.ldo (v := .int .i64 m.n) rfl rfl rfl rfl Tryd.isAgg3 1 rfl rfl) ?_
        refine GoH.v (Vop.bin rfl rfl rfl rfl bLt rfl) ?_
        refine GoH.v (Vop.pickT rfl rfl rfl rfl rfl) ?_
        refine GoH.regionEnd ?_
        refine GoH.cond rfl (fun hc => ?_) (fun hc => ?_)
        · -- yes
          have hln : (i : Int) < m.n := by simpa using hc
          refine GoH.skip ?_
          refine GoH.seq ?_
          refine GoH.block ?_
          refine GoH.region ?_
          refine GoH.v (Vop.mv rfl rfl rfl rfl) ?_
          refine GoH.v (Vop.fldP rfl rfl rfl rfl Tryd.underlying25 rfl (by exact Tryd.sizeOf23) 2 rfl) ?_
          refine GoH.v (Vop.ldo (v := .slice m.ra m.rows.length m.rc) rfl rfl rfl rfl Tryd.isAgg23 1 rfl rfl) ?_
          refine GoH.callM _ rfl rfl rfl rfl rfl (fun _ _ => Tryd.call34 _ _) (fun w _ hS => rrefine_c n (q.map (fun b => ⟨b, 0, none⟩)) cap (psM n m m.rows i) m.ra m.rc m.rows w (sliAt hS 0 rfl (fun e => by rw [hpl]; exact (hq e).1)) (psq_ok (by omega) i) (hpl i) (ValM.relAt hv (hm.ex0 hS.ext) hn)) ?_
          rintro v w1 w2 Y' hS he ho
          obtain ⟨q2, cap2, sp2, rfl, hq2, hcap2, hS'⟩ := gainS hS he ho
          have hlen2 : (nxt (m.rows.map Row.xs) (psM n m m.rows i)).length = n := hpl (i + 1)
          rw [hlen2] at hq2 ⊢
          refine ⟨_, hS', ?_⟩
          -- heap: q2 q b2
          refine GoH.v (Vop.asg rfl rfl rfl rfl) ?_
          refine GoH.regionEnd ?_
          refine GoH.inBlock ?_
          refine GoH.region ?_
          refine GoH.v (Vop.mv rfl rfl rfl rfl) ?_
          refine GoH.v (Vop.bin rfl rfl rfl rfl (bAdd (by omega)) rfl) ?_
          refine GoH.v (Vop.asg rfl rfl rfl rfl) ?_
          refine GoH.regionEnd ?_
          exact IH (i + 1, q2, cap2, sp2) _ _ ⟨by dsimp only; omega, by dsimp only; omega, hq2, hcap2⟩ (by dsimp only; omega) ⟨rfl, rfl, rfl, rfl, trivial⟩ (.cons_cons _ (.cons _ (List.Sublist.refl _)))
        · -- no
          have hln : ¬ (i : Int) < m.n := by simpa using hc
          have hmin : min k.toNat n = i := by omega
          refine GoH.exit rfl ?_
          refine GoH.seq ?_
          refine GoH.region ?_
          refine GoH.v (Vop.mv rfl rfl rfl rfl) ?_
          refine GoH.v (Vop.asg rfl rfl rfl rfl) ?_
          refine GoH.v (Vop.asg rfl rfl rfl rfl) ?_
          refine GoH.regionEnd ?_
          refine GoH.ret Tryd.f13 Tryd.func13 rfl (fun w' hS => ?_)
          refine ⟨hS.ext, _, by rw [h2]; rfl, ?_⟩
          rw [rnds_ok h2, hn, show min k.toNat ((n : Int)).toNat = i from hmin]
          exact OwnS.mk hS 0 rfl (hpl i).symm (fun e => by rw [psq_len]; exact hq e) hcap
      · -- no
        have hlk : ¬ (i : Int) < k := by simpa using hc
        have hmin : min k.toNat n = i := by omega
        refine GoH.no rfl rfl rfl rfl ?_
        refine GoH.no rfl rfl rfl rfl ?_
        refine GoH.no rfl rfl rfl rfl ?_
        refine GoH.no rfl rfl rfl rfl ?_
        refine GoH.v (Vop.pickF rfl rfl rfl rfl rfl) ?_
        refine GoH.regionEnd ?_
        refine GoH.condF rfl ?_
        refine GoH.exit rfl ?_
        refine GoH.seq ?_
        refine GoH.region ?_
        refine GoH.v (Vop.mv rfl rfl rfl rfl) ?_
        refine GoH.v (Vop.asg rfl rfl rfl rfl) ?_
        refine GoH.v (Vop.asg rfl rfl rfl rfl) ?_
        refine GoH.regionEnd ?_
        refine GoH.ret Tryd.f13 Tryd.func13 rfl (fun w' hS => ?_)
        refine ⟨hS.ext, _, by rw [h2]; rfl, ?_⟩
        rw [rnds_ok h2, hn, show min k.toNat ((n : Int)).toNat = i from hmin]
        exact OwnS.mk hS 0 rfl (hpl i).symm (fun e => by rw [psq_len]; exact hq e) hcap
set_option maxRecDepth 4000 in
theorem rcoarsest_c (m : MV) (w : World) (hT : Tab w) (hm : m.At w) :
    Cn Tryd.prog 15 [m.v] w (fun v w' => ∃ sv, v = .tuple #[sv, .int .i64 (checkM m.n m.val m.rel)] ∧ OwnS I64 3 w w' sv (crs m.n m.val m.rel)) := by
  refine Cn.of Tryd.func15 rfl rfl ?_
  refine GoH.seq ?_
  refine GoH.region ?_
  refine GoH.bx rfl rfl rfl rfl (fun b1 => ?_)
  refine GoH.v (Vop.asg rfl rfl rfl rfl) ?_
  refine GoH.v (Vop.asg rfl rfl rfl rfl) ?_
  refine GoH.regionEnd ?_
  refine GoH.seq ?_
  refine GoH.seq ?_
  refine GoH.region ?_
  refine GoH.v (Vop.ldB rfl rfl rfl rfl Tryd.isAgg25 0 rfl Tryd.sizeOf25 rfl) ?_
  refine GoH.callP rfl rfl rfl rfl rfl (fun _ _ => Tryd.call26 _ _) (fun w _ hS => (by exact rmCheck_c m w (hm.ex0 hS.ext))) ?_
  refine GoH.v (Vop.asg rfl rfl rfl rfl) ?_
  refine GoH.regionEnd ?_
  refine GoH.seq ?_
  refine GoH.region ?_
  refine GoH.v (Vop.mv rfl rfl rfl rfl) ?_
  refine GoH.v (Vop.bin rfl rfl rfl rfl bNe rfl) ?_
  refine GoH.regionEnd ?_
  refine GoH.cond rfl (fun hc => ?_) (fun hc => ?_)
  · -- yes
    have h1 : checkM m.n m.val m.rel ≠ 0 := by simpa using hc
    refine GoH.seq ?_
    refine GoH.region ?_
    refine GoH.v (Vop.mv rfl rfl rfl rfl) ?_
    refine GoH.v (Vop.asg rfl rfl rfl rfl) ?_
    refine GoH.v (Vop.asg rfl rfl rfl rfl) ?_
    refine GoH.regionEnd ?_
    refine GoH.ret Tryd.f15 Tryd.func15 rfl (fun w' hS => ?_)
    exact ⟨hS.ext, _, rfl, by rw [crs_bad h1]; exact OwnS.nil0⟩
  · -- no
    have h1 : checkM m.n m.val m.rel = 0 := by simpa using hc
    have hv := checkM_zero.1 h1
    obtain ⟨n, hn⟩ : ∃ n : Nat, m.n = n := ⟨m.n.toNat, by have := hv.n1; omega⟩
    refine GoH.skip ?_
    refine GoH.seq ?_
    refine GoH.regionK (α := {x : Option Nat × Nat × List Value // (x.1 = none → n = 0 ∧ x.2.1 = 0) ∧ ((psM n m m.rows (dep n m.val m.rel)).map I64 ++ x.2.2).length = x.2.1}) []
      (fun x => [(1, .pointer (some ⟨b1, 0, none⟩)), (5, osv x.1.1 n x.1.2.1), (6, .int .i64 (dep n m.val m.rel))])
      (fun x => [(x.1.1, ob I64 3 (psM n m m.rows (dep n m.val m.rel)) x.1.2.2), (some b1, .cells m.v.cells 25 (0, 0))])
      (fun x => ?_) (fun K => ?_)
    -- at: ref.go:85
    -- rest: 
    -- heap: q b1
    -- ptr: 1=b1
    · -- what comes behind the region
      obtain ⟨⟨q, cap, sp⟩, hq, hcap⟩ := x
      dsimp only at hq hcap ⊢
      refine GoH.regionEnd ?_
      refine GoH.seq ?_
      refine GoH.region ?_
      refine GoH.v (Vop.mv rfl rfl rfl rfl) ?_
      refine GoH.v (Vop.asg rfl rfl rfl rfl) ?_
      refine GoH.v (Vop.asg rfl rfl rfl rfl) ?_
      refine GoH.regionEnd ?_
      refine GoH.ret Tryd.f15 Tryd.func15 rfl (fun w' hS => ?_)
      exact ⟨hS.ext, _, by rw [h1]; rfl, by rw [crs_ok h1, hn]; exact OwnS.mk hS 0 rfl (psq_len _).symm (fun e => by rw [psq_len]; exact hq e) hcap⟩
    · -- the region
      refine GoH.drawT 1 11 mixed rfl ?_
      refine RdT.v (Vop.ldB rfl rfl rfl rfl Tryd.isAgg25 0 rfl Tryd.sizeOf25 rfl) ?_
      refine RdT.nil ?_
      refine Tl.two (d := 14) (d2 := 15) rfl ?_ ?_
      · -- operation 1 next
        refine Mop.call _ rfl rfl rfl rfl rfl (fun _ _ => Tryd.call33 _ _) (fun w _ hS => rfactsP_c m n w (hm.ex0 hS.ext) hv hn) ?_
        rintro v w1 w2 Y' hS he ho
        obtain ⟨qF, capF, spF, rfl, hqF, hcapF, hS'⟩ := gainS hS he ho
        obtain ⟨lF, hlF⟩ : ∃ lF, psM n m m.rows 0 = lF := ⟨_, rfl⟩
        rw [hlF] at hS' hcapF hqF
        have hlFn : lF.length = n := by rw [← hlF]; exact psq_len _
        rw [hlF, hlFn]
        refine ⟨_, hS', by repeat (first | exact List.Sublist.refl _ | refine List.Sublist.cons _ ?_), ?_⟩
        -- heap: qF b1
        refine Tl.one (d := 15) rfl ?_
        refine Mop.v (Vop.fldP rfl rfl rfl rfl Tryd.underlying25 rfl (by exact Tryd.sizeOf23) 2 rfl) (fun _ h => by cases h; rfl) ⟨by repeat (first | exact List.Sublist.refl _ | refine List.Sublist.cons _ ?_), ?_⟩
        refine Tl.one (d := 16) rfl ?_
        refine Mop.v (Vop.ldo (v := .slice m.ra m.rows.length m.rc) rfl rfl rfl rfl Tryd.isAgg23 1 rfl rfl) (fun _ h => by cases h; rfl) ⟨by repeat (first | exact List.Sublist.refl _ | refine List.Sublist.cons _ ?_), ?_⟩
        refine Tl.one (d := 17) rfl ?_
        refine Mop.call _ rfl rfl rfl rfl rfl (fun _ _ => Tryd.call36 _ _) (fun w _ hS => (by exact rstable_c m n m.ra m.rc m.rows (qF.map (fun b => ⟨b, 0, none⟩)) capF w (hT.ex hS.ext) hv hn (ValM.relAt hv (hm.ex0 hS.ext) hn) (hlF ▸ sliAt hS 0 rfl (fun e => (hqF e).1)))) ?_
        rintro v w1 w2 Y' hS he ⟨sv, rfl, hsv⟩
        have hfin : ∃ q cap sp, sv = osv q n cap ∧ (q = none → n = 0 ∧ cap = 0) ∧ ((psM n m m.rows (dep n m.val m.rel)).map I64 ++ sp).length = cap ∧ St w [] w2 [(q, ob I64 3 (psM n m m.rows (dep n m.val m.rel)) sp), (some b1, .cells m.v.cells 25 (0, 0))] Y' := by
          rcases hsv with ⟨hd, rfl⟩ | ho
          · refine ⟨qF, capF, spF, rfl, fun e => ⟨by have := (hqF e).1; omega, (hqF e).2⟩, ?_, ?_⟩
            · rw [show dep n m.val m.rel = 0 from hd, hlF]; exact hcapF
            · rw [show dep n m.val m.rel = 0 from hd, hlF]; exact hS.later he
          · obtain ⟨q, cap, sp, h1, h2, h3, hS'⟩ := gainS hS he ho
            rw [psq_len] at h1 h2
            exact ⟨q, cap, sp, h1, h2, h3, hS'.subH (.cons_cons _ (.cons _ (List.Sublist.refl _)))⟩
        obtain ⟨q, cap, sp, rfl, hq, hcap, hS'⟩ := hfin
        refine ⟨_, hS', by repeat (first | exact List.Sublist.refl _ | refine List.Sublist.cons _ ?_), ?_⟩
        -- heap: q b1
        refine Tl.one (d := 12) rfl ?_
        refine Mop.v (Vop.mv rfl rfl rfl rfl) (fun _ h => by cases h; rfl) ⟨by repeat (first | exact List.Sublist.refl _ | refine List.Sublist.cons _ ?_), ?_⟩
        refine Tl.two (d := 18) (d2 := 19) rfl ?_ ?_
        · -- operation 6 next
          refine Mop.v (Vop.ext rfl rfl rfl rfl rfl) (fun _ h => by cases h; rfl) ⟨by repeat (first | exact List.Sublist.refl _ | refine List.Sublist.cons _ ?_), ?_⟩
          refine Tl.two (d := 19) (d2 := 5) rfl ?_ ?_
          · -- operation 7 next
            refine Mop.v (Vop.ext rfl rfl rfl rfl rfl) (fun _ h => by cases h; rfl) ⟨by repeat (first | exact List.Sublist.refl _ | refine List.Sublist.cons _ ?_), ?_⟩
            refine Tl.one (d := 5) rfl ?_
            refine Mop.v (Vop.asg rfl rfl rfl rfl) (fun _ h => by cases h; rfl) ⟨by repeat (first | exact List.Sublist.refl _ | refine List.Sublist.cons _ ?_), ?_⟩
            refine Tl.one (d := 6) rfl ?_
            refine Mop.v (Vop.asg rfl rfl rfl rfl) (fun _ h => by cases h; rfl) ⟨by repeat (first | exact List.Sublist.refl _ | refine List.Sublist.cons _ ?_), ?_⟩
            refine Tl.sw [] rfl rfl ?_
            exact K ⟨(q, cap, sp), hq, hcap⟩ _ _ (by repeat (first | exact SubF.nil | refine SubF.cons rfl ?_)) (fun _ _ hS => hS)
          · -- operation 8 next
            refine Mop.v (Vop.asg rfl rfl rfl rfl) (fun _ h => by cases h; rfl) ⟨by repeat (first | exact List.Sublist.refl _ | refine List.Sublist.cons _ ?_), ?_⟩
            refine Tl.one (d := 19) rfl ?_
            refine Mop.v (Vop.ext rfl rfl rfl rfl rfl) (fun _ h => by cases h; rfl) ⟨by repeat (first | exact List.Sublist.refl _ | refine List.Sublist.cons _ ?_), ?_⟩
            refine Tl.one (d := 6) rfl ?_
            refine Mop.v (Vop.asg rfl rfl rfl rfl) (fun _ h => by cases h; rfl) ⟨by repeat (first | exact List.Sublist.refl _ | refine List.Sublist.cons _ ?_), ?_⟩
            refine Tl.sw [] rfl rfl ?_
            exact K ⟨(q, cap, sp), hq, hcap⟩ _ _ (by repeat (first | exact SubF.nil | refine SubF.cons rfl ?_)) (fun _ _ hS => hS)
        · -- operation 7 next
          refine Mop.v (Vop.ext rfl rfl rfl rfl rfl) (fun _ h => by cases h; rfl) ⟨by repeat (first | exact List.Sublist.refl _ | refine List.Sublist.cons _ ?_), ?_⟩
          refine Tl.one (d := 18) rfl ?_
          refine Mop.v (Vop.ext rfl rfl rfl rfl rfl) (fun _ h => by cases h; rfl) ⟨by repeat (first | exact List.Sublist.refl _ | refine List.Sublist.cons _ ?_), ?_⟩
          refine Tl.one (d := 5) rfl ?_
          refine Mop.v (Vop.asg rfl rfl rfl rfl) (fun _ h => by cases h; rfl) ⟨by repeat (first | exact List.Sublist.refl _ | refine List.Sublist.cons _ ?_), ?_⟩
          refine Tl.one (d := 6) rfl ?_
          refine Mop.v (Vop.asg rfl rfl rfl rfl) (fun _ h => by cases h; rfl) ⟨by repeat (first | exact List.Sublist.refl _ | refine List.Sublist.cons _ ?_), ?_⟩
          refine Tl.sw [] rfl rfl ?_
          exact K ⟨(q, cap, sp), hq, hcap⟩ _ _ (by repeat (first | exact SubF.nil | refine SubF.cons rfl ?_)) (fun _ _ hS => hS)
      · -- operation 2 next
        refine Mop.v (Vop.fldP rfl rfl rfl rfl Tryd.underlying25 rfl (by exact Tryd.sizeOf23) 2 rfl) (fun _ h => by cases h; rfl) ⟨by repeat (first | exact List.Sublist.refl _ | refine List.Sublist.cons _ ?_), ?_⟩
        refine Tl.two (d := 14) (d2 := 16) rfl ?_ ?_
        · -- operation 1 next
          refine Mop.call _ rfl rfl rfl rfl rfl (fun _ _ => Tryd.call33 _ _) (fun w _ hS => rfactsP_c m n w (hm.ex0 hS.ext) hv hn) ?_
          rintro v w1 w2 Y' hS he ho
          obtain ⟨qF, capF, spF, rfl, hqF, hcapF, hS'⟩ := gainS hS he ho
          obtain ⟨lF, hlF⟩ : ∃ lF, psM n m m.rows 0 = lF := ⟨_, rfl⟩
          rw [hlF] at hS' hcapF hqF
          have hlFn : lF.length = n := by rw [← hlF]; exact psq_len _
          rw [hlF, hlFn]
          refine ⟨_, hS', by repeat (first | exact List.Sublist.refl _ | refine List.Sublist.cons _ ?_), ?_⟩
          -- heap: qF b1
          refine Tl.one (d := 16) rfl ?_
          refine Mop.v (Vop.ldo (v := .slice m.ra m.rows.length m.rc) rfl rfl rfl rfl Tryd.isAgg23 1 rfl rfl) (fun _ h => by cases h; rfl) ⟨by repeat (first | exact List.Sublist.refl _ | refine List.Sublist.cons _ ?_), ?_⟩
          refine Tl.one (d := 17) rfl ?_
          refine Mop.call _ rfl rfl rfl rfl rfl (fun _ _ => Tryd.call36 _ _) (fun w _ hS => (by exact rstable_c m n m.ra m.rc m.rows (qF.map (fun b => ⟨b, 0, none⟩)) capF w (hT.ex hS.ext) hv hn (ValM.relAt hv (hm.ex0 hS.ext) hn) (hlF ▸ sliAt hS 0 rfl (fun e => (hqF e).1)))) ?_
          rintro v w1 w2 Y' hS he ⟨sv, rfl, hsv⟩
          have hfin : ∃ q cap sp, sv = osv q n cap ∧ (q = none → n = 0 ∧ cap = 0) ∧ ((psM n m m.rows (dep n m.val m.rel)).map I64 ++ sp).length = cap ∧ St w [] w2 [(q, ob I64 3 (psM n m m.rows (dep n m.val m.rel)) sp), (some b1, .cells m.v.cells 25 (0, 0))] Y' := by
            rcases hsv with ⟨hd, rfl⟩ | ho
            · refine ⟨qF, capF, spF, rfl, fun e => ⟨by have := (hqF e).1; omega, (hqF e).2⟩, ?_, ?_⟩
              · rw [show dep n m.val m.rel = 0 from hd, hlF]; exact hcapF
              · rw [show dep n m.val m.rel = 0 from hd, hlF]; exact hS.later he
            · obtain ⟨q, cap, sp, h1, h2, h3, hS'⟩ := gainS hS he ho
              rw [psq_len] at h1 h2
              exact ⟨q, cap, sp, h1, h2, h3, hS'.subH (.cons_cons _ (.cons _ (List.Sublist.refl _)))⟩
          obtain ⟨q, cap, sp, rfl, hq, hcap, hS'⟩ := hfin
          refine ⟨_, hS', by repeat (first | exact List.Sublist.refl _ | refine List.Sublist.cons _ ?_), ?_⟩
          -- heap: q b1
          refine Tl.one (d := 12) rfl ?_
          refine Mop.v (Vop.mv rfl rfl rfl rfl) (fun _ h => by cases h; rfl) ⟨by repeat (first | exact List.Sublist.refl _ | refine List.Sublist.cons _ ?_), ?_⟩
          refine Tl.two (d := 18) (d2 := 19) rfl ?_ ?_
          · -- operation 6 next
            refine Mop.v (Vop.ext rfl rfl rfl rfl rfl) (fun _ h => by cases h; rfl) ⟨by repeat (first | exact List.Sublist.refl _ | refine List.Sublist.cons _ ?_), ?_⟩
            refine Tl.two (d := 19) (d2 := 5) rfl ?_ ?_
            · -- operation 7 next
              refine Mop.v (Vop.ext rfl rfl rfl rfl rfl) (fun _ h => by cases h; rfl) ⟨by repeat (first | exact List.Sublist.refl _ | refine List.Sublist.cons _ ?_), ?_⟩
              refine Tl.one (d := 5) rfl ?_
              refine Mop.v (Vop.asg rfl rfl rfl rfl) (fun _ h => by cases h; rfl) ⟨by repeat (first | exact List.Sublist.refl _ | refine List.Sublist.cons _ ?_), ?_⟩
              refine Tl.one (d := 6) rfl ?_
              refine Mop.v (Vop.asg rfl rfl rfl rfl) (fun _ h => by cases h; rfl) ⟨by repeat (first | exact List.Sublist.refl _ | refine List.Sublist.cons _ ?_), ?_⟩
              refine Tl.sw [] rfl rfl ?_
              exact K ⟨(q, cap, sp), hq, hcap⟩ _ _ (by repeat (first | exact SubF.nil | refine SubF.cons rfl ?_)) (fun _ _ hS => hS)
            · -- operation 8 next
              refine Mop.v (Vop.asg rfl rfl rfl rfl) (fun _ h => by cases h; rfl) ⟨by repeat (first | exact List.Sublist.refl _ | refine List.Sublist.cons _ ?_), ?_⟩
              refine Tl.one (d := 19) rfl ?_
              refine Mop.v (Vop.ext rfl rfl rfl rfl rfl) (fun _ h => by cases h; rfl) ⟨by repeat (first | exact List.Sublist.refl _ | refine List.Sublist.cons _ ?_), ?_⟩
              refine Tl.one (d := 6) rfl ?_
              refine Mop.v (Vop.asg rfl rfl rfl rfl) (fun _ h => by cases h; rfl) ⟨by repeat (first | exact List.Sublist.refl _ | refine List.Sublist.cons _ ?_), ?_⟩
              refine Tl.sw [] rfl rfl ?_
              exact K ⟨(q, cap, sp), hq, hcap⟩ _ _ (by repeat (first | exact SubF.nil | refine SubF.cons rfl ?_)) (fun _ _ hS => hS)
          · -- operation 7 next
            refine Mop.v (Vop.ext rfl rfl rfl rfl rfl) (fun _ h => by cases h; rfl) ⟨by repeat (first | exact List.Sublist.refl _ | refine List.Sublist.cons _ ?_), ?_⟩
            refine Tl.one (d := 18) rfl ?_
            refine Mop.v (Vop.ext rfl rfl rfl rfl rfl) (fun _ h => by cases h; rfl) ⟨by repeat (first | exact List.Sublist.refl _ | refine List.Sublist.cons _ ?_), ?_⟩
            refine Tl.one (d := 5) rfl ?_
            refine Mop.v (Vop.asg rfl rfl rfl rfl) (fun _ h => by cases h; rfl) ⟨by repeat (first | exact List.Sublist.refl _ | refine List.Sublist.cons _ ?_), ?_⟩
            refine Tl.one (d := 6) rfl ?_
            refine Mop.v (Vop.asg rfl rfl rfl rfl) (fun _ h => by cases h; rfl) ⟨by repeat (first | exact List.Sublist.refl _ | refine List.Sublist.cons _ ?_), ?_⟩
            refine Tl.sw [] rfl rfl ?_
            exact K ⟨(q, cap, sp), hq, hcap⟩ _ _ (by repeat (first | exact SubF.nil | refine SubF.cons rfl ?_)) (fun _ _ hS => hS)
        · -- operation 3 next
          refine Mop.v (Vop.ldo (v := .slice m.ra m.rows.length m.rc) rfl rfl rfl rfl Tryd.isAgg23 0 rfl rfl) (fun _ h => by cases h; rfl) ⟨by repeat (first | exact List.Sublist.refl _ | refine List.Sublist.cons _ ?_), ?_⟩
          refine Tl.one (d := 14) rfl ?_
          refine Mop.call _ rfl rfl rfl rfl rfl (fun _ _ => Tryd.call33 _ _) (fun w _ hS => rfactsP_c m n w (hm.ex0 hS.ext) hv hn) ?_
          rintro v w1 w2 Y' hS he ho
          obtain ⟨qF, capF, spF, rfl, hqF, hcapF, hS'⟩ := gainS hS he ho
          obtain ⟨lF, hlF⟩ : ∃ lF, psM n m m.rows 0 = lF := ⟨_, rfl⟩
          rw [hlF] at hS' hcapF hqF
          have hlFn : lF.length = n := by rw [← hlF]; exact psq_len _
          rw [hlF, hlFn]
          refine ⟨_, hS', by repeat (first | exact List.Sublist.refl _ | refine List.Sublist.cons _ ?_), ?_⟩
          -- heap: qF b1
          refine Tl.one (d := 17) rfl ?_
          refine Mop.call _ rfl rfl rfl rfl rfl (fun _ _ => Tryd.call36 _ _) (fun w _ hS => (by exact rstable_c m n m.ra m.rc m.rows (qF.map (fun b => ⟨b, 0, none⟩)) capF w (hT.ex hS.ext) hv hn (ValM.relAt hv (hm.ex0 hS.ext) hn) (hlF ▸ sliAt hS 0 rfl (fun e => (hqF e).1)))) ?_
          rintro v w1 w2 Y' hS he ⟨sv, rfl, hsv⟩
          have hfin : ∃ q cap sp, sv = osv q n cap ∧ (q = none → n = 0 ∧ cap = 0) ∧ ((psM n m m.rows (dep n m.val m.rel)).map I64 ++ sp).length = cap ∧ St w [] w2 [(q, ob I64 3 (psM n m m.rows (dep n m.val m.rel)) sp), (some b1, .cells m.v.cells 25 (0, 0))] Y' := by
            rcases hsv with ⟨hd, rfl⟩ | ho
            · refine ⟨qF, capF, spF, rfl, fun e => ⟨by have := (hqF e).1; omega, (hqF e).2⟩, ?_, ?_⟩
              · rw [show dep n m.val m.rel = 0 from hd, hlF]; exact hcapF
              · rw [show dep n m.val m.rel = 0 from hd, hlF]; exact hS.later he
            · obtain ⟨q, cap, sp, h1, h2, h3, hS'⟩ := gainS hS he ho
              rw [psq_len] at h1 h2
              exact ⟨q, cap, sp, h1, h2, h3, hS'.subH (.cons_cons _ (.cons _ (List.Sublist.refl _)))⟩
          obtain ⟨q, cap, sp, rfl, hq, hcap, hS'⟩ := hfin
          refine ⟨_, hS', by repeat (first | exact List.Sublist.refl _ | refine List.Sublist.cons _ ?_), ?_⟩
          -- heap: q b1
          refine Tl.one (d := 12) rfl ?_
          refine Mop.v (Vop.mv rfl rfl rfl rfl) (fun _ h => by cases h; rfl) ⟨by repeat (first | exact List.Sublist.refl _ | refine List.Sublist.cons _ ?_), ?_⟩
          refine Tl.two (d := 18) (d2 := 19) rfl ?_ ?_
          · -- operation 6 next
            refine Mop.v (Vop.ext rfl rfl rfl rfl rfl) (fun _ h => by cases h; rfl) ⟨by repeat (first | exact List.Sublist.refl _ | refine List.Sublist.cons _ ?_), ?_⟩
            refine Tl.two (d := 19) (d2 := 5) rfl ?_ ?_
            · -- operation 7 next
              refine Mop.v (Vop.ext rfl rfl rfl rfl rfl) (fun _ h => by cases h; rfl) ⟨by repeat (first | exact List.Sublist.refl _ | refine List.Sublist.cons _ ?_), ?_⟩
              refine Tl.one (d := 5) rfl ?_
              refine Mop.v (Vop.asg rfl rfl rfl rfl) (fun _ h => by cases h; rfl) ⟨by repeat (first | exact List.Sublist.refl _ | refine List.Sublist.cons _ ?_), ?_⟩
              refine Tl.one (d := 6) rfl ?_
              refine Mop.v (Vop.asg rfl rfl rfl rfl) (fun _ h => by cases h; rfl) ⟨by repeat (first | exact List.Sublist.refl _ | refine List.Sublist.cons _ ?_), ?_⟩
              refine Tl.sw [] rfl rfl ?_
              exact K ⟨(q, cap, sp), hq, hcap⟩ _ _ (by repeat (first | exact SubF.nil | refine SubF.cons rfl ?_)) (fun _ _ hS => hS)
            · -- operation 8 next
              refine Mop.v (Vop.asg rfl rfl rfl rfl) (fun _ h => by cases h; rfl) ⟨by repeat (first | exact List.Sublist.refl _ | refine List.Sublist.cons _ ?_), ?_⟩
              refine Tl.one (d := 19) rfl ?_
              refine Mop.v (Vop.ext rfl rfl rfl rfl rfl) (fun _ h => by cases h; rfl) ⟨by repeat (first | exact List.Sublist.refl _ | refine List.Sublist.cons _ ?_), ?_⟩
              refine Tl.one (d := 6) rfl ?_
              refine Mop.v (Vop.asg rfl rfl rfl rfl) (fun _ h => by cases h; rfl) ⟨by repeat (first | exact List.Sublist.refl _ | refine List.Sublist.cons _ ?_), ?_⟩
              refine Tl.sw [] rfl rfl ?_
              exact K ⟨(q, cap, sp), hq, hcap⟩ _ _ (by repeat (first | exact SubF.nil | refine SubF.cons rfl ?_)) (fun _ _ hS => hS)
          · -- operation 7 next
            refine Mop.v (Vop.ext rfl rfl rfl rfl rfl) (fun _ h => by cases h; rfl) ⟨by repeat (first | exact List.Sublist.refl _ | refine List.Sublist.cons _ ?_), ?_⟩
            refine Tl.one (d := 18) rfl ?_
            refine Mop.v (Vop.ext rfl rfl rfl rfl rfl) (fun _ h => by cases h; rfl) ⟨by repeat (first | exact List.Sublist.refl _ | refine List.Sublist.cons _ ?_), ?_⟩
            refine Tl.one (d := 5) rfl ?_
            refine Mop.v (Vop.asg rfl rfl rfl rfl) (fun _ h => by cases h; rfl) ⟨by repeat (first | exact List.Sublist.refl _ | refine List.Sublist.cons _ ?_), ?_⟩
            refine Tl.one (d := 6) rfl ?_
            refine Mop.v (Vop.asg rfl rfl rfl rfl) (fun _ h => by cases h; rfl) ⟨by repeat (first | exact List.Sublist.refl _ | refine List.Sublist.cons _ ?_), ?_⟩
            refine Tl.sw [] rfl rfl ?_
            exact K ⟨(q, cap, sp), hq, hcap⟩ _ _ (by repeat (first | exact SubF.nil | refine SubF.cons rfl ?_)) (fun _ _ hS => hS)
set_option maxRecDepth 4000 in
theorem rdepth_c (m : MV) (w : World) (hT : Tab w) (hm : m.At w) :
    Cn Tryd.prog 17 [m.v] w (fun v _ => v = .tuple #[.int .i64 (dpt m.n m.val m.rel), .int .i64 (checkM m.n m.val m.rel)]) := by
  refine Cn.of Tryd.func17 rfl rfl ?_
  refine GoH.seq ?_
  refine GoH.region ?_
  refine GoH.bx rfl rfl rfl rfl (fun b1 => ?_)
  refine GoH.v (Vop.asg rfl rfl rfl rfl) ?_
  refine GoH.v (Vop.asg rfl rfl rfl rfl) ?_
  refine GoH.regionEnd ?_
  refine GoH.seq ?_
  refine GoH.seq ?_
  refine GoH.region ?_
  refine GoH.v (Vop.ldB rfl rfl rfl rfl Tryd.isAgg25 0 rfl Tryd.sizeOf25 rfl) ?_
  refine GoH.callP rfl rfl rfl rfl rfl (fun _ _ => Tryd.call26 _ _) (fun w _ hS => (by exact rmCheck_c m w (hm.ex0 hS.ext))) ?_
  refine GoH.v (Vop.asg rfl rfl rfl rfl) ?_
  refine GoH.regionEnd ?_
  refine GoH.seq ?_
  refine GoH.region ?_
  refine GoH.v (Vop.mv rfl rfl rfl rfl) ?_
  refine GoH.v (Vop.bin rfl rfl rfl rfl bNe rfl) ?_
  refine GoH.regionEnd ?_
  refine GoH.cond rfl (fun hc => ?_) (fun hc => ?_)
  · -- yes
    have h1 : checkM m.n m.val m.rel ≠ 0 := by simpa using hc
    refine GoH.seq ?_
    refine GoH.region ?_
    refine GoH.v (Vop.mv rfl rfl rfl rfl) ?_
    refine GoH.v (Vop.asg rfl rfl rfl rfl) ?_
    refine GoH.v (Vop.asg rfl rfl rfl rfl) ?_
    refine GoH.regionEnd ?_
    refine GoH.ret Tryd.f17 Tryd.func17 rfl (fun w' hS => ?_)
    exact ⟨hS.ext, by rw [dpt, if_pos h1]; rfl⟩
  · -- no
    have h1 : checkM m.n m.val m.rel = 0 := by simpa using hc
    have hv := checkM_zero.1 h1
    obtain ⟨n, hn⟩ : ∃ n : Nat, m.n = n := ⟨m.n.toNat, by have := hv.n1; omega⟩
    refine GoH.skip ?_
    refine GoH.seq ?_
    refine GoH.regionK (α := {x : Option Nat × Nat × List Value // (x.1 = none → n = 0 ∧ x.2.1 = 0) ∧ ((psM n m m.rows (dep n m.val m.rel)).map I64 ++ x.2.2).length = x.2.1}) []
      (fun x => [(1, .pointer (some ⟨b1, 0, none⟩)), (5, osv x.1.1 n x.1.2.1), (6, .int .i64 (dep n m.val m.rel))])
      (fun x => [(x.1.1, ob I64 3 (psM n m m.rows (dep n m.val m.rel)) x.1.2.2), (some b1, .cells m.v.cells 25 (0, 0))])
      (fun x => ?_) (fun K => ?_)
    -- at: ref.go:94
    -- rest: 
    -- heap: q b1
    -- ptr: 1=b1
    · -- what comes behind the region
      obtain ⟨⟨q, cap, sp⟩, hq, hcap⟩ := x
      dsimp only at hq hcap ⊢
      refine GoH.regionEnd ?_
      refine GoH.seq ?_
      refine GoH.region ?_
      refine GoH.v (Vop.mv rfl rfl rfl rfl) ?_
      refine GoH.v (Vop.asg rfl rfl rfl rfl) ?_
      refine GoH.v (Vop.asg rfl rfl rfl rfl) ?_
      refine GoH.regionEnd ?_
      refine GoH.ret Tryd.f17 Tryd.func17 rfl (fun w' hS => ?_)
      exact ⟨hS.ext, by rw [dpt, if_neg (by simp [h1]), h1, hn]; rfl⟩
    · -- the region
      refine GoH.drawT 1 11 mixed rfl ?_
      refine RdT.v (Vop.ldB rfl rfl rfl rfl Tryd.isAgg25 0 rfl Tryd.sizeOf25 rfl) ?_
      refine RdT.nil ?_
      refine Tl.two (d := 14) (d2 := 15) rfl ?_ ?_
      · -- operation 1 next
        refine Mop.call _ rfl rfl rfl rfl rfl (fun _ _ => Tryd.call33 _ _) (fun w _ hS => rfactsP_c m n w (hm.ex0 hS.ext) hv hn) ?_
        rintro v w1 w2 Y' hS he ho
        obtain ⟨qF, capF, spF, rfl, hqF, hcapF, hS'⟩ := gainS hS he ho
        obtain ⟨lF, hlF⟩ : ∃ lF, psM n m m.rows 0 = lF := ⟨_, rfl⟩
        rw [hlF] at hS' hcapF hqF
        have hlFn : lF.length = n := by rw [← hlF]; exact psq_len _
        rw [hlF, hlFn]
        refine ⟨_, hS', by repeat (first | exact List.Sublist.refl _ | refine List.Sublist.cons _ ?_), ?_⟩
        -- heap: qF b1
        refine Tl.one (d := 15) rfl ?_
        refine Mop.v (Vop.fldP rfl rfl rfl rfl Tryd.underlying25 rfl (by exact Tryd.sizeOf23) 2 rfl) (fun _ h => by cases h; rfl) ⟨by repeat (first | exact List.Sublist.refl _ | refine List.Sublist.cons _ ?_), ?_⟩
        refine Tl.one (d := 16) rfl ?_
        refine Mop.v (Vop.ldo (v := .slice m.ra m.rows.length m.rc) rfl rfl rfl rfl Tryd.isAgg23 1 rfl rfl) (fun _ h => by cases h; rfl) ⟨by repeat (first | exact List.Sublist.refl _ | refine List.Sublist.cons _ ?_), ?_⟩
        refine Tl.one (d := 17) rfl ?_
        refine Mop.call _ rfl rfl rfl rfl rfl (fun _ _ => Tryd.call36 _ _) (fun w _ hS => (by exact rstable_c m n m.ra m.rc m.rows (qF.map (fun b => ⟨b, 0, none⟩)) capF w (hT.ex hS.ext) hv hn (ValM.relAt hv (hm.ex0 hS.ext) hn) (hlF ▸ sliAt hS 0 rfl (fun e => (hqF e).1)))) ?_
        rintro v w1 w2 Y' hS he ⟨sv, rfl, hsv⟩
        have hfin : ∃ q cap sp, sv = osv q n cap ∧ (q = none → n = 0 ∧ cap = 0) ∧ ((psM n m m.rows (dep n m.val m.rel)).map I64 ++ sp).length = cap ∧ St w [] w2 [(q, ob I64 3 (psM n m m.rows (dep n m.val m.rel)) sp), (some b1, .cells m.v.cells 25 (0, 0))] Y' := by
          rcases hsv with ⟨hd, rfl⟩ | ho
          · refine ⟨qF, capF, spF, rfl, fun e => ⟨by have := (hqF e).1; omega, (hqF e).2⟩, ?_, ?_⟩
            · rw [show dep n m.val m.rel = 0 from hd, hlF]; exact hcapF
            · rw [show dep n m.val m.rel = 0 from hd, hlF]; exact hS.later he
          · obtain ⟨q, cap, sp, h1, h2, h3, hS'⟩ := gainS hS he ho
            rw [psq_len] at h1 h2
            exact ⟨q, cap, sp, h1, h2, h3, hS'.subH (.cons_cons _ (.cons _ (List.Sublist.refl _)))⟩
        obtain ⟨q, cap, sp, rfl, hq, hcap, hS'⟩ := hfin
        refine ⟨_, hS', by repeat (first | exact List.Sublist.refl _ | refine List.Sublist.cons _ ?_), ?_⟩
        -- heap: q b1
        refine Tl.one (d := 12) rfl ?_
        refine Mop.v (Vop.mv rfl rfl rfl rfl) (fun _ h => by cases h; rfl) ⟨by repeat (first | exact List.Sublist.refl _ | refine List.Sublist.cons _ ?_), ?_⟩
        refine Tl.two (d := 18) (d2 := 19) rfl ?_ ?_
        · -- operation 6 next
          refine Mop.v (Vop.ext rfl rfl rfl rfl rfl) (fun _ h => by cases h; rfl) ⟨by repeat (first | exact List.Sublist.refl _ | refine List.Sublist.cons _ ?_), ?_⟩
          refine Tl.two (d := 19) (d2 := 5) rfl ?_ ?_
          · -- operation 7 next
            refine Mop.v (Vop.ext rfl rfl rfl rfl rfl) (fun _ h => by cases h; rfl) ⟨by repeat (first | exact List.Sublist.refl _ | refine List.Sublist.cons _ ?_), ?_⟩
            refine Tl.one (d := 5) rfl ?_
            refine Mop.v (Vop.asg rfl rfl rfl rfl) (fun _ h => by cases h; rfl) ⟨by repeat (first | exact List.Sublist.refl _ | refine List.Sublist.cons _ ?_), ?_⟩
            refine Tl.one (d := 6) rfl ?_
            refine Mop.v (Vop.asg rfl rfl rfl rfl) (fun _ h => by cases h; rfl) ⟨by repeat (first | exact List.Sublist.refl _ | refine List.Sublist.cons _ ?_), ?_⟩
            refine Tl.sw [] rfl rfl ?_
            exact K ⟨(q, cap, sp), hq, hcap⟩ _ _ (by repeat (first | exact SubF.nil | refine SubF.cons rfl ?_)) (fun _ _ hS => hS)
          · -- operation 8 next
            refine Mop.v (Vop.asg rfl rfl rfl rfl) (fun _ h => by cases h; rfl) ⟨by repeat (first | exact List.Sublist.refl _ | refine List.Sublist.cons _ ?_), ?_⟩
            refine Tl.one (d := 19) rfl ?_
            refine Mop.v (Vop.ext rfl rfl rfl rfl rfl) (fun _ h => by cases h; rfl) ⟨by repeat (first | exact List.Sublist.refl _ | refine List.Sublist.cons _ ?_), ?_⟩
            refine Tl.one (d := 6) rfl ?_
            refine Mop.v (Vop.asg rfl rfl rfl rfl) (fun _ h => by cases h; rfl) ⟨by repeat (first | exact List.Sublist.refl _ | refine List.Sublist.cons _ ?_), ?_⟩
            refine Tl.sw [] rfl rfl ?_
            exact K ⟨(q, cap, sp), hq, hcap⟩ _ _ (by repeat (first | exact SubF.nil | refine SubF.cons rfl ?_)) (fun _ _ hS => hS)
        · -- operation 7 next
          refine Mop.v (Vop.ext rfl rfl rfl rfl rfl) (fun _ h => by cases h; rfl) ⟨by repeat (first | exact List.Sublist.refl _ | refine List.Sublist.cons _ ?_), ?_⟩
          refine Tl.one (d := 18) rfl ?_
          refine Mop.v (Vop.ext rfl rfl rfl rfl rfl) (fun _ h => by cases h; rfl) ⟨by repeat (first | exact List.Sublist.refl _ | refine List.Sublist.cons _ ?_), ?_⟩
          refine Tl.one (d := 5) rfl ?_
          refine Mop.v (Vop.asg rfl rfl rfl rfl) (fun _ h => by cases h; rfl) ⟨by repeat (first | exact List.Sublist.refl _ | refine List.Sublist.cons _ ?_), ?_⟩
          refine Tl.one (d := 6) rfl ?_
          refine Mop.v (Vop.asg rfl rfl rfl rfl) (fun _ h => by cases h; rfl) ⟨by repeat (first | exact List.Sublist.refl _ | refine List.Sublist.cons _ ?_), ?_⟩
          refine Tl.sw [] rfl rfl ?_
          exact K ⟨(q, cap, sp), hq, hcap⟩ _ _ (by repeat (first | exact SubF.nil | refine SubF.cons rfl ?_)) (fun _ _ hS => hS)
      · -- operation 2 next
        refine Mop.v (Vop.fldP rfl rfl rfl rfl Tryd.underlying25 rfl (by exact Tryd.sizeOf23) 2 rfl) (fun _ h => by cases h; rfl) ⟨by repeat (first | exact List.Sublist.refl _ | refine List.Sublist.cons _ ?_), ?_⟩
        refine Tl.two (d := 14) (d2 := 16) rfl ?_ ?_
        · -- operation 1 next
          refine Mop.call _ rfl rfl rfl rfl rfl (fun _ _ => Tryd.call33 _ _) (fun w _ hS => rfactsP_c m n w (hm.ex0 hS.ext) hv hn) ?_
          rintro v w1 w2 Y' hS he ho
          obtain ⟨qF, capF, spF, rfl, hqF, hcapF, hS'⟩ := gainS hS he ho
          obtain ⟨lF, hlF⟩ : ∃ lF, psM n m m.rows 0 = lF := ⟨_, rfl⟩
          rw [hlF] at hS' hcapF hqF
          have hlFn : lF.length = n := by rw [← hlF]; exact psq_len _
          rw [hlF, hlFn]
          refine ⟨_, hS', by repeat (first | exact List.Sublist.refl _ | refine List.Sublist.cons _ ?_), ?_⟩
          -- heap: qF b1
          refine Tl.one (d := 16) rfl ?_
          refine Mop.v (Vop.ldo (v := .slice m.ra m.rows.length m.rc) rfl rfl rfl rfl Tryd.isAgg23 1 rfl rfl) (fun _ h => by cases h; rfl) ⟨by repeat (first | exact List.Sublist.refl _ | refine List.Sublist.cons _ ?_), ?_⟩
          refine Tl.one (d := 17) rfl ?_
          refine Mop.call _ rfl rfl rfl rfl rfl (fun _ _ => Tryd.call36 _ _) (fun w _ hS => (by exact rstable_c m n m.ra m.rc m.rows (qF.map (fun b => ⟨b, 0, none⟩)) capF w (hT.ex hS.ext) hv hn (ValM.relAt hv (hm.ex0 hS.ext) hn) (hlF ▸ sliAt hS 0 rfl (fun e => (hqF e).1)))) ?_
          rintro v w1 w2 Y' hS he ⟨sv, rfl, hsv⟩
          have hfin : ∃ q cap sp, sv = osv q n cap ∧ (q = none → n = 0 ∧ cap = 0) ∧ ((psM n m m.rows (dep n m.val m.rel)).map I64 ++ sp).length = cap ∧ St w [] w2 [(q, ob I64 3 (psM n m m.rows (dep n m.val m.rel)) sp), (some b1, .cells m.v.cells 25 (0, 0))] Y' := by
            rcases hsv with ⟨hd, rfl⟩ | ho
            · refine ⟨qF, capF, spF, rfl, fun e => ⟨by have := (hqF e).1; omega, (hqF e).2⟩, ?_, ?_⟩
              · rw [show dep n m.val m.rel = 0 from hd, hlF]; exact hcapF
              · rw [show dep n m.val m.rel = 0 from hd, hlF]; exact hS.later he
            · obtain ⟨q, cap, sp, h1, h2, h3, hS'⟩ := gainS hS he ho
              rw [psq_len] at h1 h2
              exact ⟨q, cap, sp, h1, h2, h3, hS'.subH (.cons_cons _ (.cons _ (List.Sublist.refl _)))⟩
          obtain ⟨q, cap, sp, rfl, hq, hcap, hS'⟩ := hfin
          refine ⟨_, hS', by repeat (first | exact List.Sublist.refl _ | refine List.Sublist.cons _ ?_), ?_⟩
          -- heap: q b1
          refine Tl.one (d := 12) rfl ?_
          refine Mop.v (Vop.mv rfl rfl rfl rfl) (fun _ h => by cases h; rfl) ⟨by repeat (first | exact List.Sublist.refl _ | refine List.Sublist.cons _ ?_), ?_⟩
          refine Tl.two (d := 18) (d2 := 19) rfl ?_ ?_
          · -- operation 6 next
            refine Mop.v (Vop.ext rfl rfl rfl rfl rfl) (fun _ h => by cases h; rfl) ⟨by repeat (first | exact List.Sublist.refl _ | refine List.Sublist.cons _ ?_), ?_⟩
            refine Tl.two (d := 19) (d2 := 5) rfl ?_ ?_
            · -- operation 7 next
              refine Mop.v (Vop.ext rfl rfl rfl rfl rfl) (fun _ h => by cases h; rfl) ⟨by repeat (first | exact List.Sublist.refl _ | refine List.Sublist.cons _ ?_), ?_⟩
              refine Tl.one (d := 5) rfl ?_
              refine Mop.v (Vop.asg rfl rfl rfl rfl) (fun _ h => by cases h; rfl) ⟨by repeat (first | exact List.Sublist.refl _ | refine List.Sublist.cons _ ?_), ?_⟩
              refine Tl.one (d := 6) rfl ?_
              refine Mop.v (Vop.asg rfl rfl rfl rfl) (fun _ h => by cases h; rfl) ⟨by repeat (first | exact List.Sublist.refl _ | refine List.Sublist.cons _ ?_), ?_⟩
              refine Tl.sw [] rfl rfl ?_
              exact K ⟨(q, cap, sp), hq, hcap⟩ _ _ (by repeat (first | exact SubF.nil | refine SubF.cons rfl ?_)) (fun _ _ hS => hS)
            · -- operation 8 next
              refine Mop.v (Vop.asg rfl rfl rfl rfl) (fun _ h => by cases h; rfl) ⟨by repeat (first | exact List.Sublist.refl _ | refine List.Sublist.cons _ ?_), ?_⟩
              refine Tl.one (d := 19) rfl ?_
              refine Mop.v (Vop.ext rfl rfl rfl rfl rfl) (fun _ h => by cases h; rfl) ⟨by repeat (first | exact List.Sublist.refl _ | refine List.Sublist.cons _ ?_), ?_⟩
              refine Tl.one (d := 6) rfl ?_
              refine Mop.v (Vop.asg rfl rfl rfl rfl) (fun _ h => by cases h; rfl) ⟨by repeat (first | exact List.Sublist.refl _ | refine List.Sublist.cons _ ?_), ?_⟩
              refine Tl.sw [] rfl rfl ?_
              exact K ⟨(q, cap, sp), hq, hcap⟩ _ _ (by repeat (first | exact SubF.nil | refine SubF.cons rfl ?_)) (fun _ _ hS => hS)
          · -- operation 7 next
            refine Mop.v (Vop.ext rfl rfl rfl rfl rfl) (fun _ h => by cases h; rfl) ⟨by repeat (first | exact List.Sublist.refl _ | refine List.Sublist.cons _ ?_), ?_⟩
            refine Tl.one (d := 18) rfl ?_
            refine Mop.v (Vop.ext rfl rfl rfl rfl rfl) (fun _ h => by cases h; rfl) ⟨by repeat (first | exact List.Sublist.refl _ | refine List.Sublist.cons _ ?_), ?_⟩
            refine Tl.one (d := 5) rfl ?_
            refine Mop.v (Vop.asg rfl rfl rfl rfl) (fun _ h => by cases h; rfl) ⟨by repeat (first | exact List.Sublist.refl _ | refine List.Sublist.cons _ ?_), ?_⟩
            refine Tl.one (d := 6) rfl ?_
            refine Mop.v (Vop.asg rfl rfl rfl rfl) (fun _ h => by cases h; rfl) ⟨by repeat (first | exact List.Sublist.refl _ | refine List.Sublist.cons _ ?_), ?_⟩
            refine Tl.sw [] rfl rfl ?_
            exact K ⟨(q, cap, sp), hq, hcap⟩ _ _ (by repeat (first | exact SubF.nil | refine SubF.cons rfl ?_)) (fun _ _ hS => hS)
        · -- operation 3 next
          refine Mop.v (Vop.ldo (v := .slice m.ra m.rows.length m.rc) rfl rfl rfl rfl Tryd.isAgg23 0 rfl rfl) (fun _ h => by cases h; rfl) ⟨by repeat (first | exact List.Sublist.refl _ | refine List.Sublist.cons _ ?_), ?_⟩
          refine Tl.one (d := 14) rfl ?_
          refine Mop.call _ rfl rfl rfl rfl rfl (fun _ _ => Tryd.call33 _ _) (fun w _ hS => rfactsP_c m n w (hm.ex0 hS.ext) hv hn) ?_
          rintro v w1 w2 Y' hS he ho
          obtain ⟨qF, capF, spF, rfl, hqF, hcapF, hS'⟩ := gainS hS he ho
          obtain ⟨lF, hlF⟩ : ∃ lF, psM n m m.rows 0 = lF := ⟨_, rfl⟩
          rw [hlF] at hS' hcapF hqF
          have hlFn : lF.length = n := by rw [← hlF]; exact psq_len _
          rw [hlF, hlFn]
          refine ⟨_, hS', by repeat (first | exact List.Sublist.refl _ | refine List.Sublist.cons _ ?_), ?_⟩
          -- heap: qF b1
          refine Tl.one (d := 17) rfl ?_
          refine Mop.call _ rfl rfl rfl rfl rfl (fun _ _ => Tryd.call36 _ _) (fun w _ hS => (by exact rstable_c m n m.ra m.rc m.rows (qF.map (fun b => ⟨b, 0, none⟩)) capF w (hT.ex hS.ext) hv hn (ValM.relAt hv (hm.ex0 hS.ext) hn) (hlF ▸ sliAt hS 0 rfl (fun e => (hqF e).1)))) ?_
          rintro v w1 w2 Y' hS he ⟨sv, rfl, hsv⟩
          have hfin : ∃ q cap sp, sv = osv q n cap ∧ (q = none → n = 0 ∧ cap = 0) ∧ ((psM n m m.rows (dep n m.val m.rel)).map I64 ++ sp).length = cap ∧ St w [] w2 [(q, ob I64 3 (psM n m m.rows (dep n m.val m.rel)) sp), (some b1, .cells m.v.cells 25 (0, 0))] Y' := by
            rcases hsv with ⟨hd, rfl⟩ | ho
            · refine ⟨qF, capF, spF, rfl, fun e => ⟨by have := (hqF e).1; omega, (hqF e).2⟩, ?_, ?_⟩
              · rw [show dep n m.val m.rel = 0 from hd, hlF]; exact hcapF
              · rw [show dep n m.val m.rel = 0 from hd, hlF]; exact hS.later he
            · obtain ⟨q, cap, sp, h1, h2, h3, hS'⟩ := gainS hS he ho
              rw [psq_len] at h1 h2
              exact ⟨q, cap, sp, h1, h2, h3, hS'.subH (.cons_cons _ (.cons _ (List.Sublist.refl _)))⟩
          obtain ⟨q, cap, sp, rfl, hq, hcap, hS'⟩ := hfin
          refine ⟨_, hS', by repeat (first | exact List.Sublist.refl _ | refine List.Sublist.cons _ ?_), ?_⟩
          -- heap: q b1
          refine Tl.one (d := 12) rfl ?_
          refine Mop.v (Vop.mv rfl rfl rfl rfl) (fun _ h => by cases h; rfl) ⟨by repeat (first | exact List.Sublist.refl _ | refine List.Sublist.cons _ ?_), ?_⟩
          refine Tl.two (d := 18) (d2 := 19) rfl ?_ ?_
          · -- operation 6 next
            refine Mop.v (Vop.ext rfl rfl rfl rfl rfl) (fun _ h => by cases h; rfl) ⟨by repeat (first | exact List.Sublist.refl _ | refine List.Sublist.cons _ ?_), ?_⟩
            refine Tl.two (d := 19) (d2 := 5) rfl ?_ ?_
            · -- operation 7 next
              refine Mop.v (Vop.ext rfl rfl rfl rfl rfl) (fun _ h => by cases h; rfl) ⟨by repeat (first | exact List.Sublist.refl _ | refine List.Sublist.cons _ ?_), ?_⟩
              refine Tl.one (d := 5) rfl ?_
              refine Mop.v (Vop.asg rfl rfl rfl rfl) (fun _ h => by cases h; rfl) ⟨by repeat (first | exact List.Sublist.refl _ | refine List.Sublist.cons _ ?_), ?_⟩
              refine Tl.one (d := 6) rfl ?_
              refine Mop.v (Vop.asg rfl rfl rfl rfl) (fun _ h => by cases h; rfl) ⟨by repeat (first | exact List.Sublist.refl _ | refine List.Sublist.cons _ ?_), ?_⟩
              refine Tl.sw [] rfl rfl ?_
              exact K ⟨(q, cap, sp), hq, hcap⟩ _ _ (by repeat (first | exact SubF.nil | refine SubF.cons rfl ?_)) (fun _ _ hS => hS)
            · -- operation 8 next
              refine Mop.v (Vop.asg rfl rfl rfl rfl) (fun _ h => by cases h; rfl) ⟨by repeat (first | exact List.Sublist.refl _ | refine List.Sublist.cons _ ?_), ?_⟩
              refine Tl.one (d := 19) rfl ?_
              refine Mop.v (Vop.ext rfl rfl rfl rfl rfl) (fun _ h => by cases h; rfl) ⟨by repeat (first | exact List.Sublist.refl _ | refine List.Sublist.cons _ ?_), ?_⟩
              refine Tl.one (d := 6) rfl ?_
              refine Mop.v (Vop.asg rfl rfl rfl rfl) (fun _ h => by cases h; rfl) ⟨by repeat (first | exact List.Sublist.refl _ | refine List.Sublist.cons _ ?_), ?_⟩
              refine Tl.sw [] rfl rfl ?_
              exact K ⟨(q, cap, sp), hq, hcap⟩ _ _ (by repeat (first | exact SubF.nil | refine SubF.cons rfl ?_)) (fun _ _ hS => hS)
          · -- operation 7 next
            refine Mop.v (Vop.ext rfl rfl rfl rfl rfl) (fun _ h => by cases h; rfl) ⟨by repeat (first | exact List.Sublist.refl _ | refine List.Sublist.cons _ ?_), ?_⟩
            refine Tl.one (d := 18) rfl ?_
            refine Mop.v (Vop.ext rfl rfl rfl rfl rfl) (fun _ h => by cases h; rfl) ⟨by repeat (first | exact List.Sublist.refl _ | refine List.Sublist.cons _ ?_), ?_⟩
            refine Tl.one (d := 5) rfl ?_
            refine Mop.v (Vop.asg rfl rfl rfl rfl) (fun _ h => by cases h; rfl) ⟨by repeat (first | exact List.Sublist.refl _ | refine List.Sublist.cons _ ?_), ?_⟩
            refine Tl.one (d := 6) rfl ?_
            refine Mop.v (Vop.asg rfl rfl rfl rfl) (fun _ h => by cases h; rfl) ⟨by repeat (first | exact List.Sublist.refl _ | refine List.Sublist.cons _ ?_), ?_⟩
            refine Tl.sw [] rfl rfl ?_
            exact K ⟨(q, cap, sp), hq, hcap⟩ _ _ (by repeat (first | exact SubF.nil | refine SubF.cons rfl ?_)) (fun _ _ hS => hS)
end Go.Proofs.YtpifbcbdbkbbjaaDoor
