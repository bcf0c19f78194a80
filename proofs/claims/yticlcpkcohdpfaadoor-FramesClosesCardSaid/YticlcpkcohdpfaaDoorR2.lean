/- Contracts of functions of the program: what each call returns and that nothing else of memory is turned, under the conditions that each theorem states. -/
import Derived.Test.YticlcpkcohdpfaaDoorR1
import Derived.Test.YticlcpkcohdpfaaDoorWB
namespace Go.Proofs.YticlcpkcohdpfaaDoor
open Go.RowKit Go.Proofs.Wit
/-! the reference, 2 -/
theorem rReflexive_c (a : Option Addr) (ca : Nat) (r : List W64) (w : World) (ha : SlU w a r) (hl : r.length ≤ maxLen) :
    Cn Tryd.prog 65 [.slice a r.length ca] w (fun v w' => ∃ p, OwnE w w' v p ∧ Grown reflR r p) := by
  obtain ⟨i0, hi, hz, hsz, hby⟩ := info_parts infoU
  refine Cn.of Tryd.func65 rfl rfl ?_
  refine GoH.seq ?_
  refine GoH.region ?_
  refine GoH.v (Vop.asg rfl rfl rfl rfl) ?_
  refine GoH.v (Vop.asg rfl rfl rfl rfl) ?_
  refine GoH.regionEnd ?_
  refine GoH.seq ?_
  refine GoH.seq ?_
  refine GoH.region ?_
  refine GoH.v (Vop.mv rfl rfl rfl rfl) ?_
  refine GoH.v (Vop.blt rfl rfl rfl (blt_len_slice Tryd.underlying22) rfl) ?_
  refine GoH.v (Vop.mv rfl rfl rfl rfl) ?_
  refine GoH.callP rfl rfl rfl rfl rfl (fun _ _ => Tryd.call74 _ _) (fun w _ hS => rCheck_c _ a ca r w (ha.ex0 hS.ext) hl) ?_
  refine GoH.v (Vop.asg rfl rfl rfl rfl) ?_
  refine GoH.regionEnd ?_
  refine GoH.seq ?_
  refine GoH.region ?_
  refine GoH.v (Vop.mv rfl rfl rfl rfl) ?_
  refine GoH.v (Vop.bin rfl rfl rfl rfl bNe rfl) ?_
  refine GoH.regionEnd ?_
  refine GoH.cond rfl (fun hc => ?_) (fun hc => ?_)
  · -- yes
    have h1 : checkR r.length r ≠ 0 := by simpa using hc
    refine GoH.seq ?_
    refine GoH.region ?_
    refine GoH.v (Vop.mv rfl rfl rfl rfl) ?_
    refine GoH.v (Vop.asg rfl rfl rfl rfl) ?_
    refine GoH.v (Vop.asg rfl rfl rfl rfl) ?_
    refine GoH.regionEnd ?_
    refine GoH.ret Tryd.f65 Tryd.func65 rfl (fun w' hS => ?_)
    exact ⟨hS.ext, ([], checkR r.length r), ⟨_, rfl, own_nil _ _⟩, by rw [Grown, if_pos h1]⟩
  · -- no
    have h1 : ¬ checkR r.length r ≠ 0 := by simpa using hc
    have hv := check_zero.1 (by simpa using h1)
    have hlen := hv.len
    refine GoH.skip ?_
    refine GoH.seq ?_
    refine GoH.region ?_
    refine GoH.bs0 U rfl rfl rfl Tryd.underlying22 hi (fun b0 => ?_)
    -- heap: b0
    refine GoH.v (Vop.mv rfl rfl rfl rfl) ?_
    refine GoH.appZ U r rfl rfl rfl rfl rfl Tryd.underlying22 hi hz hsz rfl 0 rfl (fun w Y' hS => ha.ex0 hS.ext) rfl rfl (fun _ => rfl) (by simp [maxLen]; omega) (by simp [hby]; omega) (fun b sp cap hcap => ?_)
    rw [List.nil_append] at *
    -- heap: b
    refine GoH.v (Vop.asg rfl rfl rfl rfl) ?_
    refine GoH.regionEnd ?_
    refine GoH.seq ?_
    refine GoH.seq ?_
    refine GoH.region ?_
    refine GoH.v (Vop.asg rfl rfl rfl rfl) ?_
    refine GoH.regionEnd ?_
    refine GoH.block ?_
    refine GoH.loop (σ := Nat) (fun k => [(0, .slice a r.length ca), (5, osv (some b) r.length cap), (6, .int .i64 k)]) (fun k => [(some b, ob U 41 (upTo reflS r k) sp)])
      (fun k => k ≤ r.length) (fun k => r.length - k) 0 (Nat.zero_le _) ⟨rfl, rfl, rfl, trivial⟩ (List.Sublist.refl _) (fun k hk IH => ?_)
    -- heap: b
    refine GoH.seq ?_
    refine GoH.seq ?_
    refine GoH.region ?_
    refine GoH.v (Vop.mv rfl rfl rfl rfl) ?_
    refine GoH.v (Vop.mv rfl rfl rfl rfl) ?_
    refine GoH.v (Vop.blt rfl rfl rfl (blt_len_slice Tryd.underlying22) rfl) ?_
    refine GoH.v (Vop.bin rfl rfl rfl rfl bLt rfl) ?_
    refine GoH.regionEnd ?_
    refine GoH.cond rfl (fun hc => ?_) (fun hc => ?_)
    · -- yes
      have hlt : k < r.length := by simpa using hc
      have hlt2 : k < (upTo reflS r k).length := by rw [upTo_refl_length]; exact hlt
      refine GoH.skip ?_
      refine GoH.seq ?_
      refine GoH.block ?_
      refine GoH.region ?_
      refine GoH.v (Vop.mv rfl rfl rfl rfl) ?_
      refine GoH.v (Vop.mv rfl rfl rfl rfl) ?_
      refine GoH.v (Vop.idxS rfl rfl rfl rfl rfl Tryd.underlying22 Tryd.sizeOf41 (k) ⟨rfl, hlt⟩) ?_
      refine GoH.v (Vop.ldE U 0#64 rfl rfl rfl rfl Tryd.isAgg41 0 rfl hlt2) ?_
      refine GoH.v (Vop.mv rfl rfl rfl rfl) ?_
      refine GoH.v (Vop.conv rfl rfl rfl (cInt (k := .u64) Tryd.underlying3 Tryd.underlying50 (wrapN64 (by omega))) rfl) ?_
      refine GoH.v (Vop.bin (a := U 1#64) rfl rfl rfl rfl (bShl _ rfl) rfl) ?_
      refine GoH.v (Vop.bin rfl rfl rfl rfl bOr rfl) ?_
      refine GoH.v (Vop.idxS rfl rfl rfl rfl rfl Tryd.underlying22 Tryd.sizeOf41 (k) ⟨rfl, hlt⟩) ?_
      refine GoH.stE U _ rfl rfl rfl rfl Tryd.sizeOf41 rfl 0 rfl hlt2 ?_
      refine GoH.regionEnd ?_
      refine GoH.inBlock ?_
      refine GoH.region ?_
      refine GoH.v (Vop.mv rfl rfl rfl rfl) ?_
      refine GoH.v (Vop.bin rfl rfl rfl rfl (bAdd (by omega)) rfl) ?_
      refine GoH.v (Vop.asg rfl rfl rfl rfl) ?_
      refine GoH.regionEnd ?_
      exact IH (k + 1) _ _ hlt (by omega) ⟨rfl, rfl, rfl, trivial⟩ (List.Sublist.refl _)
    · -- no
      have hge : ¬ k < r.length := by simpa using hc
      obtain rfl : k = r.length := by omega
      refine GoH.exit rfl ?_
      refine GoH.seq ?_
      refine GoH.region ?_
      refine GoH.v (Vop.mv rfl rfl rfl rfl) ?_
      refine GoH.v (Vop.asg rfl rfl rfl rfl) ?_
      refine GoH.v (Vop.asg rfl rfl rfl rfl) ?_
      refine GoH.regionEnd ?_
      refine GoH.ret Tryd.f65 Tryd.func65 rfl (fun w' hS => ?_)
      exact ⟨hS.ext, (upTo reflS r r.length, 0), ⟨_, rfl, ownAt hS (q := some b) 0 rfl upTo_refl_length.symm (fun h => by cases h) (by rw [← hcap]; simp [upTo_refl_length])⟩, by rw [Grown, if_neg h1]; exact ⟨rfl, refl_least hv⟩⟩
theorem rSymmetric_c (a : Option Addr) (ca : Nat) (r : List W64) (w : World) (ha : SlU w a r) (hl : r.length ≤ maxLen) :
    Cn Tryd.prog 75 [.slice a r.length ca] w (fun v w' => ∃ p, OwnE w w' v p ∧ Grown symmR r p) := by
  refine Cn.of Tryd.func75 rfl rfl ?_
  refine GoH.seq ?_
  refine GoH.region ?_
  refine GoH.v (Vop.asg rfl rfl rfl rfl) ?_
  refine GoH.v (Vop.asg rfl rfl rfl rfl) ?_
  refine GoH.regionEnd ?_
  refine GoH.seq ?_
  refine GoH.region ?_
  refine GoH.v (Vop.mv rfl rfl rfl rfl) ?_
  refine GoH.callM _ rfl rfl rfl rfl rfl (fun _ _ => Tryd.call96 _ _) (fun w _ hS => rConverse_c a ca r w (ha.ex0 hS.ext) hl) ?_
  rintro v w1 w2 Y' hS he ⟨sv, rfl, ho⟩
  obtain ⟨q, cap, sp, rfl, hq, hcap, hS'⟩ := gainO hS he ho
  refine ⟨_, hS', ?_⟩
  -- heap: q
  refine GoH.v (Vop.mv rfl rfl rfl rfl) ?_
  refine GoH.v (Vop.ext rfl rfl rfl rfl rfl) ?_
  refine GoH.v (Vop.ext rfl rfl rfl rfl rfl) ?_
  refine GoH.v (Vop.asg rfl rfl rfl rfl) ?_
  refine GoH.v (Vop.asg rfl rfl rfl rfl) ?_
  refine GoH.regionEnd ?_
  refine GoH.seq ?_
  refine GoH.seq ?_
  refine GoH.region ?_
  refine GoH.v (Vop.mv rfl rfl rfl rfl) ?_
  refine GoH.v (Vop.bin rfl rfl rfl rfl bNe rfl) ?_
  refine GoH.regionEnd ?_
  refine GoH.cond rfl (fun hc => ?_) (fun hc => ?_)
  · -- yes
    have h1 : checkR r.length r ≠ 0 := by
      intro h0
      have : (convR r).2 ≠ 0 := by simpa using hc
      rw [convR, if_neg (by simp [h0])] at this
      exact this rfl
    refine GoH.seq ?_
    refine GoH.region ?_
    refine GoH.v (Vop.mv rfl rfl rfl rfl) ?_
    refine GoH.v (Vop.asg rfl rfl rfl rfl) ?_
    refine GoH.v (Vop.asg rfl rfl rfl rfl) ?_
    refine GoH.regionEnd ?_
    refine GoH.ret Tryd.f75 Tryd.func75 rfl (fun w' hS => ?_)
    exact ⟨hS.ext, ([], checkR r.length r), ⟨_, by rw [convR, if_pos h1]; rfl, own_nil _ _⟩, by rw [Grown, if_pos h1]⟩
  · -- no
    have h1 : ¬ checkR r.length r ≠ 0 := by
      intro h0
      have : (convR r).2 = 0 := by simpa using hc
      rw [convR, if_pos h0] at this
      exact h0 this
    have hv := check_zero.1 (by simpa using h1)
    have hlen := hv.len
    have hr : (convR r).1 = revR r := by rw [convR, if_neg h1]
    have hvr : Val (revR r) := ⟨by rw [revR_length]; exact hlen, fun u v x => by
      have hd := x.dom
      rw [revR_length] at *
      exact ((revR_bit hv hd).1 x).dom⟩
    rw [hr] at hq hcap
    rw [hr]
    refine GoH.skip ?_
    refine GoH.seq ?_
    refine GoH.region ?_
    refine GoH.v (Vop.mv rfl rfl rfl rfl) ?_
    refine GoH.v (Vop.mv rfl rfl rfl rfl) ?_
    refine GoH.callM _ rfl rfl rfl rfl rfl (fun _ _ => Tryd.call97 _ _) (fun w _ hS => rUnion_c a ca r (q.map (fun b => ⟨b, 0, none⟩)) cap (revR r) w (ha.ex0 hS.ext) (sluAt hS 0 rfl hq) hl (by rw [revR_length]; exact hl)) ?_
    rintro v w1 w2 Y' hS he ⟨sv, rfl, ho⟩
    obtain ⟨q2, cap2, sp2, rfl, hq2, hcap2, hS'⟩ := gainO hS he ho
    refine ⟨_, hS', ?_⟩
    -- heap: q2 q
    refine GoH.v (Vop.ext rfl rfl rfl rfl rfl) ?_
    refine GoH.v (Vop.ext rfl rfl rfl rfl rfl) ?_
    refine GoH.v (Vop.asg rfl rfl rfl rfl) ?_
    refine GoH.v (Vop.asg rfl rfl rfl rfl) ?_
    refine GoH.regionEnd ?_
    refine GoH.ret Tryd.f75 Tryd.func75 rfl (fun w' hS => ?_)
    have e1 : unionR r (revR r) = (symmG r, 0) := by rw [unionR, if_neg (by rw [ne_eq, Classical.not_not]; exact two_zero.2 ⟨hv, hvr, (revR_length r).symm⟩)]; rfl
    exact ⟨hS.ext, unionR r (revR r), ⟨_, rfl, ownAt hS 0 rfl rfl hq2 hcap2⟩, by rw [Grown, if_neg h1, e1]; exact ⟨rfl, symm_least hv⟩⟩
theorem rGrow_c (a : Option Addr) (ca : Nat) (r : List W64) (e : Bool) (w : World) (ha : SlU w a r) (hv : Val r) :
    Cn Tryd.prog 88 [.slice a r.length ca, .bool e] w (fun v w' => ∃ out, Own w w' v out ∧ Least (allG e) r out) := by
  obtain ⟨i0, hi, hz, hsz, hby⟩ := info_parts infoU
  have hlen := hv.len
  refine Cn.of Tryd.func88 rfl rfl ?_
  refine GoH.seq ?_
  refine GoH.region ?_
  refine GoH.v (Vop.asg rfl rfl rfl rfl) ?_
  refine GoH.regionEnd ?_
  refine GoH.seq ?_
  refine GoH.region ?_
  refine GoH.bs0 U rfl rfl rfl Tryd.underlying22 hi (fun b0 => ?_)
  -- heap: b0
  refine GoH.v (Vop.mv rfl rfl rfl rfl) ?_
  refine GoH.appZ U r rfl rfl rfl rfl rfl Tryd.underlying22 hi hz hsz rfl 0 rfl (fun w Y' hS => ha.ex0 hS.ext) rfl rfl (fun _ => rfl) (by simp [maxLen]; omega) (by simp [hby]; omega) (fun b sp cap hcap => ?_)
  rw [List.nil_append] at *
  -- heap: b
  refine GoH.v (Vop.asg rfl rfl rfl rfl) ?_
  refine GoH.regionEnd ?_
  refine GoH.seq ?_
  refine GoH.seq ?_
  refine GoH.region ?_
  refine GoH.v (Vop.asg rfl rfl rfl rfl) ?_
  refine GoH.regionEnd ?_
  refine GoH.block ?_
  refine GoH.loop (σ := List W64 × Bool) (fun s => [(1, .bool e), (5, osv (some b) r.length cap), (6, .bool s.2)]) (fun s => [(some b, ob U 41 s.1 sp)])
    (fun s => Val s.1 ∧ Le r s.1 ∧ (∀ c, Val c → Le r c → allG e c → Le s.1 c) ∧ (s.2 = false → allG e s.1)) (fun s => 2 * room s.1 + s.2.toNat) (r, true) ⟨hv, .refl _, fun c _ h _ => h, fun h => by cases h⟩ ⟨rfl, rfl, rfl, trivial⟩ (List.Sublist.refl _) (fun s hI IH => ?_)
  obtain ⟨o0, again0⟩ := s
  obtain ⟨hvo, hle, hmin, hdone⟩ := hI
  dsimp only at hvo hle hmin hdone IH
  -- heap: b
  refine GoH.seq ?_
  refine GoH.seq ?_
  refine GoH.region ?_
  refine GoH.v (Vop.mv rfl rfl rfl rfl) ?_
  refine GoH.regionEnd ?_
  refine GoH.cond rfl (fun hc => ?_) (fun hc => ?_)
  · -- yes
    have ha0 : again0 = true := hc
    subst ha0
    refine GoH.skip ?_
    refine GoH.block ?_
    refine GoH.seq ?_
    refine GoH.region ?_
    refine GoH.v (Vop.asg rfl rfl rfl rfl) ?_
    refine GoH.regionEnd ?_
    refine GoH.seq ?_
    refine GoH.region ?_
    refine GoH.v (Vop.asg rfl rfl rfl rfl) ?_
    refine GoH.regionEnd ?_
    refine GoH.block ?_
    refine GoH.loop (σ := Nat × List W64 × Bool) (fun s => [(1, .bool e), (5, osv (some b) r.length cap), (6, .bool s.2.2), (7, .int .i64 s.1)]) (fun s => [(some b, ob U 41 s.2.1 sp)])
      (fun s => s.1 ≤ r.length ∧ Pass e r o0 s.2.1 s.2.2 s.1 0) (fun s => r.length - s.1) (0, o0, false) ⟨Nat.zero_le _, hvo, hle, hmin, .refl _, fun h => (by cases h), fun _ => ⟨rfl, fun w u h => by omega⟩⟩ ⟨rfl, rfl, rfl, rfl, trivial⟩ (List.Sublist.refl _) (fun s hI2 IH2 => ?_)
    obtain ⟨k, o1, again1⟩ := s
    obtain ⟨hk, hp1⟩ := hI2
    dsimp only at hk hp1 IH2
    -- heap: b
    refine GoH.seq ?_
    refine GoH.seq ?_
    refine GoH.region ?_
    refine GoH.v (Vop.mv rfl rfl rfl rfl) ?_
    refine GoH.v (Vop.mv rfl rfl rfl rfl) ?_
    refine GoH.v (Vop.blt rfl rfl rfl (blt_len_slice Tryd.underlying22) rfl) ?_
    refine GoH.v (Vop.bin rfl rfl rfl rfl bLt rfl) ?_
    refine GoH.regionEnd ?_
    refine GoH.cond rfl (fun hc => ?_) (fun hc => ?_)
    · -- yes
      have hlt : k < r.length := by simpa using hc
      refine GoH.skip ?_
      refine GoH.seq ?_
      refine GoH.block ?_
      refine GoH.seq ?_
      refine GoH.region ?_
      refine GoH.v (Vop.asg rfl rfl rfl rfl) ?_
      refine GoH.regionEnd ?_
      refine GoH.block ?_
      refine GoH.loop (σ := Nat × List W64 × Bool) (fun s => [(1, .bool e), (5, osv (some b) r.length cap), (6, .bool s.2.2), (7, .int .i64 k), (8, .int .i64 s.1)]) (fun s => [(some b, ob U 41 s.2.1 sp)])
        (fun s => s.1 ≤ r.length ∧ Pass e r o0 s.2.1 s.2.2 k s.1) (fun s => r.length - s.1) (0, o1, again1) ⟨Nat.zero_le _, hp1⟩ ⟨rfl, rfl, rfl, rfl, rfl, trivial⟩ (List.Sublist.refl _) (fun s hI3 IH3 => ?_)
      obtain ⟨j, o2, again2⟩ := s
      obtain ⟨hj, hp2⟩ := hI3
      dsimp only at hj hp2 IH3
      have hol : o2.length = r.length := hp2.le.len.symm
      -- heap: b
      refine GoH.seq ?_
      refine GoH.seq ?_
      refine GoH.region ?_
      refine GoH.v (Vop.mv rfl rfl rfl rfl) ?_
      refine GoH.v (Vop.mv rfl rfl rfl rfl) ?_
      refine GoH.v (Vop.blt rfl rfl rfl (blt_len_slice Tryd.underlying22) rfl) ?_
      refine GoH.v (Vop.bin rfl rfl rfl rfl bLt rfl) ?_
      refine GoH.regionEnd ?_
      refine GoH.cond rfl (fun hc => ?_) (fun hc => ?_)
      · -- yes
        have hlt2 : j < r.length := by simpa using hc
        have hk2 : k < o2.length := by omega
        have hj2 : j < o2.length := by omega
        refine GoH.skip ?_
        refine GoH.seq ?_
        refine GoH.block ?_
        refine GoH.seq ?_
        refine GoH.seq ?_
        refine GoH.region ?_
        refine GoH.v (Vop.mv rfl rfl rfl rfl) ?_
        refine GoH.v (Vop.mv rfl rfl rfl rfl) ?_
        refine GoH.v (Vop.idxS rfl rfl rfl rfl rfl Tryd.underlying22 Tryd.sizeOf41 (k) ⟨rfl, hlt⟩) ?_
        refine GoH.v (Vop.ldE U 0#64 rfl rfl rfl rfl Tryd.isAgg41 0 rfl hk2) ?_
        refine GoH.v (Vop.mv rfl rfl rfl rfl) ?_
        refine GoH.callP rfl rfl rfl rfl rfl (fun _ _ => Tryd.call95 _ _) (fun w _ hS => rIn_c _ j w (by omega)) ?_
        refine GoH.v (Vop.un rfl rfl rfl uNot rfl) ?_
        refine GoH.regionEnd ?_
        refine GoH.cond rfl (fun hc => ?_) (fun hc => ?_)
        · -- yes
          have hno : stG e k j o2 = o2 := by rw [stG, if_neg]; intro h; rw [h] at hc; cases hc
          refine GoH.exit rfl ?_
          refine GoH.region ?_
          refine GoH.v (Vop.mv rfl rfl rfl rfl) ?_
          refine GoH.v (Vop.bin rfl rfl rfl rfl (bAdd (by omega)) rfl) ?_
          refine GoH.v (Vop.asg rfl rfl rfl rfl) ?_
          refine GoH.regionEnd ?_
          exact IH3 (j + 1, o2, again2) _ _ ⟨hlt2, hno ▸ hp2.go again2 (fun h => .inl h) (fun h => ⟨h, hno⟩)⟩ (by omega) ⟨rfl, rfl, rfl, rfl, rfl, trivial⟩ (List.Sublist.refl _)
        · -- no
          have hyes : stG e k j o2 = pairS e k j o2 := by rw [stG, if_pos]; simpa using hc
          refine GoH.skip ?_
          refine GoH.seq ?_
          refine GoH.draw 7 mixed rfl ?_
          refine RdGo.v (Vop.mv rfl rfl rfl rfl) ?_
          refine RdGo.v (Vop.mv rfl rfl rfl rfl) ?_
          refine RdGo.v (Vop.mv rfl rfl rfl rfl) ?_
          refine RdGo.v (Vop.idxS rfl rfl rfl rfl rfl Tryd.underlying22 Tryd.sizeOf41 (j) ⟨rfl, hlt2⟩) ?_
          refine RdGo.v (Vop.ldE U 0#64 rfl rfl rfl rfl Tryd.isAgg41 0 rfl hj2) ?_
          refine RdGo.v (Vop.asg rfl rfl rfl rfl) ?_
          refine RdGo.v (Vop.asg rfl rfl rfl rfl) ?_
          refine RdGo.nil ?_
          refine GoH.regionEnd ?_
          refine GoH.seq ?_
          refine GoH.seq ?_
          refine GoH.region ?_
          refine GoH.v (Vop.mv rfl rfl rfl rfl) ?_
          refine GoH.regionEnd ?_
          refine GoH.cond rfl (fun hc => ?_) (fun hc => ?_)
          · -- yes
            obtain rfl : e = true := hc
            refine GoH.sub (l' := [(1, .bool true), (5, osv (some b) r.length cap), (6, .bool again2), (7, .int .i64 k), (8, .int .i64 j)]) ⟨rfl, rfl, rfl, rfl, rfl, trivial⟩ ?_
            refine GoH.draw 7 mixed rfl ?_
            refine RdGo.v (Vop.mv rfl rfl rfl rfl) ?_
            refine RdGo.v (Vop.mv rfl rfl rfl rfl) ?_
            refine RdGo.v (Vop.mv rfl rfl rfl rfl) ?_
            refine RdGo.v (Vop.idxS rfl rfl rfl rfl rfl Tryd.underlying22 Tryd.sizeOf41 (k) ⟨rfl, hlt⟩) ?_
            refine RdGo.v (Vop.ldE U 0#64 rfl rfl rfl rfl Tryd.isAgg41 0 rfl hk2) ?_
            refine RdGo.v (Vop.asg rfl rfl rfl rfl) ?_
            refine RdGo.v (Vop.asg rfl rfl rfl rfl) ?_
            refine RdGo.nil ?_
            refine GoH.regionEnd ?_
            refine GoH.seq ?_
            refine GoH.draw 11 mixed rfl ?_
            refine RdGo.v (Vop.mv rfl rfl rfl rfl) ?_
            refine RdGo.v (Vop.mv rfl rfl rfl rfl) ?_
            refine RdGo.v (Vop.idxS rfl rfl rfl rfl rfl Tryd.underlying22 Tryd.sizeOf41 (j) ⟨rfl, hlt2⟩) ?_
            refine RdGo.v (Vop.ldE U 0#64 rfl rfl rfl rfl Tryd.isAgg41 0 rfl hj2) ?_
            refine RdGo.v (Vop.mv rfl rfl rfl rfl) ?_
            refine RdGo.v (Vop.bin rfl rfl rfl rfl bOr rfl) ?_
            refine RdGo.v (Vop.mv rfl rfl rfl rfl) ?_
            refine RdGo.v (Vop.mv rfl rfl rfl rfl) ?_
            refine RdGo.v (Vop.idxS rfl rfl rfl rfl rfl Tryd.underlying22 Tryd.sizeOf41 (j) ⟨rfl, hlt2⟩) ?_
            refine RdGo.v (Vop.ldE U 0#64 rfl rfl rfl rfl Tryd.isAgg41 0 rfl hj2) ?_
            refine RdGo.v (Vop.bin rfl rfl rfl rfl bNeU rfl) ?_
            refine RdGo.nil ?_
            refine GoH.regionEnd ?_
            refine GoH.cond rfl (fun hc => ?_) (fun hc => ?_)
            · -- yes
              have hch : stG true k j o2 ≠ o2 := by
                rw [hyes]; intro h
                have h2 := congrArg (fun l => l.getD j 0#64) h
                simp only [pairS, pairAt, pairSrc, if_true] at h2
                rw [show (o2.set j (o2.getD j 0#64 ||| o2.getD k 0#64)).getD j 0#64 = o2.getD j 0#64 ||| o2.getD k 0#64 from by simp [List.getD_eq_getElem?_getD, hj2]] at h2
                rw [h2] at hc; simp at hc
              refine GoH.seq ?_
              refine GoH.region ?_
              refine GoH.v (Vop.mv rfl rfl rfl rfl) ?_
              refine GoH.v (Vop.mv rfl rfl rfl rfl) ?_
              refine GoH.v (Vop.idxS rfl rfl rfl rfl rfl Tryd.underlying22 Tryd.sizeOf41 (j) ⟨rfl, hlt2⟩) ?_
              refine GoH.v (Vop.ldE U 0#64 rfl rfl rfl rfl Tryd.isAgg41 0 rfl hj2) ?_
              refine GoH.v (Vop.mv rfl rfl rfl rfl) ?_
              refine GoH.v (Vop.bin rfl rfl rfl rfl bOr rfl) ?_
              refine GoH.v (Vop.idxS rfl rfl rfl rfl rfl Tryd.underlying22 Tryd.sizeOf41 (j) ⟨rfl, hlt2⟩) ?_
              refine GoH.stE U _ rfl rfl rfl rfl Tryd.sizeOf41 rfl 0 rfl hj2 ?_
              refine GoH.regionEnd ?_
              refine GoH.region ?_
              refine GoH.v (Vop.asg rfl rfl rfl rfl) ?_
              refine GoH.regionEnd ?_
              refine GoH.inBlock ?_
              refine GoH.region ?_
              refine GoH.v (Vop.mv rfl rfl rfl rfl) ?_
              refine GoH.v (Vop.bin rfl rfl rfl rfl (bAdd (by omega)) rfl) ?_
              refine GoH.v (Vop.asg rfl rfl rfl rfl) ?_
              refine GoH.regionEnd ?_
              exact IH3 (j + 1, pairS true k j o2, true) _ _ ⟨hlt2, hyes ▸ hp2.go true (fun _ => .inr hch) (fun h => by cases h)⟩ (by omega) ⟨rfl, rfl, rfl, rfl, rfl, trivial⟩ (List.Sublist.refl _)
            · -- no
              have hno : stG true k j o2 = o2 := by
                rw [hyes]
                simp only [pairS, pairAt, pairSrc, if_true]
                rw [show o2.getD j 0#64 ||| o2.getD k 0#64 = o2.getD j 0#64 from by simpa using hc]
                exact set_same hj2
              refine GoH.skip ?_
              refine GoH.inBlock ?_
              refine GoH.region ?_
              refine GoH.v (Vop.mv rfl rfl rfl rfl) ?_
              refine GoH.v (Vop.bin rfl rfl rfl rfl (bAdd (by omega)) rfl) ?_
              refine GoH.v (Vop.asg rfl rfl rfl rfl) ?_
              refine GoH.regionEnd ?_
              exact IH3 (j + 1, o2, again2) _ _ ⟨hlt2, hno ▸ hp2.go again2 (fun h => .inl h) (fun h => ⟨h, hno⟩)⟩ (by omega) ⟨rfl, rfl, rfl, rfl, rfl, trivial⟩ (List.Sublist.refl _)
          · -- no
            obtain rfl : e = false := hc
            refine GoH.skip ?_
            refine GoH.seq ?_
            refine GoH.draw 11 mixed rfl ?_
            refine RdGo.v (Vop.mv rfl rfl rfl rfl) ?_
            refine RdGo.v (Vop.mv rfl rfl rfl rfl) ?_
            refine RdGo.v (Vop.idxS rfl rfl rfl rfl rfl Tryd.underlying22 Tryd.sizeOf41 (k) ⟨rfl, hlt⟩) ?_
            refine RdGo.v (Vop.ldE U 0#64 rfl rfl rfl rfl Tryd.isAgg41 0 rfl hk2) ?_
            refine RdGo.v (Vop.mv rfl rfl rfl rfl) ?_
            refine RdGo.v (Vop.bin rfl rfl rfl rfl bOr rfl) ?_
            refine RdGo.v (Vop.mv rfl rfl rfl rfl) ?_
            refine RdGo.v (Vop.mv rfl rfl rfl rfl) ?_
            refine RdGo.v (Vop.idxS rfl rfl rfl rfl rfl Tryd.underlying22 Tryd.sizeOf41 (k) ⟨rfl, hlt⟩) ?_
            refine RdGo.v (Vop.ldE U 0#64 rfl rfl rfl rfl Tryd.isAgg41 0 rfl hk2) ?_
            refine RdGo.v (Vop.bin rfl rfl rfl rfl bNeU rfl) ?_
            refine RdGo.nil ?_
            refine GoH.regionEnd ?_
            refine GoH.cond rfl (fun hc => ?_) (fun hc => ?_)
            · -- yes
              have hch : stG false k j o2 ≠ o2 := by
                rw [hyes]; intro h
                have h2 := congrArg (fun l => l.getD k 0#64) h
                simp only [pairS, pairAt, pairSrc, Bool.false_eq_true, if_false] at h2
                rw [show (o2.set k (o2.getD k 0#64 ||| o2.getD j 0#64)).getD k 0#64 = o2.getD k 0#64 ||| o2.getD j 0#64 from by simp [List.getD_eq_getElem?_getD, hk2]] at h2
                rw [h2] at hc; simp at hc
              refine GoH.seq ?_
              refine GoH.region ?_
              refine GoH.v (Vop.mv rfl rfl rfl rfl) ?_
              refine GoH.v (Vop.mv rfl rfl rfl rfl) ?_
              refine GoH.v (Vop.idxS rfl rfl rfl rfl rfl Tryd.underlying22 Tryd.sizeOf41 (k) ⟨rfl, hlt⟩) ?_
              refine GoH.v (Vop.ldE U 0#64 rfl rfl rfl rfl Tryd.isAgg41 0 rfl hk2) ?_
              refine GoH.v (Vop.mv rfl rfl rfl rfl) ?_
              refine GoH.v (Vop.bin rfl rfl rfl rfl bOr rfl) ?_
              refine GoH.v (Vop.idxS rfl rfl rfl rfl rfl Tryd.underlying22 Tryd.sizeOf41 (k) ⟨rfl, hlt⟩) ?_
              refine GoH.stE U _ rfl rfl rfl rfl Tryd.sizeOf41 rfl 0 rfl hk2 ?_
              refine GoH.regionEnd ?_
              refine GoH.region ?_
              refine GoH.v (Vop.asg rfl rfl rfl rfl) ?_
              refine GoH.regionEnd ?_
              refine GoH.inBlock ?_
              refine GoH.region ?_
              refine GoH.v (Vop.mv rfl rfl rfl rfl) ?_
              refine GoH.v (Vop.bin rfl rfl rfl rfl (bAdd (by omega)) rfl) ?_
              refine GoH.v (Vop.asg rfl rfl rfl rfl) ?_
              refine GoH.regionEnd ?_
              exact IH3 (j + 1, pairS false k j o2, true) _ _ ⟨hlt2, hyes ▸ hp2.go true (fun _ => .inr hch) (fun h => by cases h)⟩ (by omega) ⟨rfl, rfl, rfl, rfl, rfl, trivial⟩ (List.Sublist.refl _)
            · -- no
              have hno : stG false k j o2 = o2 := by
                rw [hyes]
                simp only [pairS, pairAt, pairSrc, Bool.false_eq_true, if_false]
                rw [show o2.getD k 0#64 ||| o2.getD j 0#64 = o2.getD k 0#64 from by simpa using hc]
                exact set_same hk2
              refine GoH.skip ?_
              refine GoH.inBlock ?_
              refine GoH.region ?_
              refine GoH.v (Vop.mv rfl rfl rfl rfl) ?_
              refine GoH.v (Vop.bin rfl rfl rfl rfl (bAdd (by omega)) rfl) ?_
              refine GoH.v (Vop.asg rfl rfl rfl rfl) ?_
              refine GoH.regionEnd ?_
              exact IH3 (j + 1, o2, again2) _ _ ⟨hlt2, hno ▸ hp2.go again2 (fun h => .inl h) (fun h => ⟨h, hno⟩)⟩ (by omega) ⟨rfl, rfl, rfl, rfl, rfl, trivial⟩ (List.Sublist.refl _)
      · -- no
        have hge : ¬ j < r.length := by simpa using hc
        refine GoH.exit rfl ?_
        refine GoH.inBlock ?_
        refine GoH.region ?_
        refine GoH.v (Vop.mv rfl rfl rfl rfl) ?_
        refine GoH.v (Vop.bin rfl rfl rfl rfl (bAdd (by omega)) rfl) ?_
        refine GoH.v (Vop.asg rfl rfl rfl rfl) ?_
        refine GoH.regionEnd ?_
        exact IH2 (k + 1, o2, again2) _ _ ⟨hlt, hp2.row (by omega)⟩ (by omega) ⟨rfl, rfl, rfl, rfl, trivial⟩ (List.Sublist.refl _)
    · -- no
      have hge : ¬ k < r.length := by simpa using hc
      have hol : o1.length = r.length := hp1.le.len.symm
      refine GoH.exit rfl ?_
      refine GoH.inBlock ?_
      refine IH (o1, again1) _ _ ⟨hp1.val, hp1.le, hp1.min, fun h => by subst h; exact hp1.done (by omega)⟩ ?_ ⟨rfl, rfl, rfl, trivial⟩ (List.Sublist.refl _)
      have h3 := hp1.up.room
      cases again1 with
      | false => simp; omega
      | true => have := hp1.up.room_lt (hp1.yes rfl); simp; omega
  · -- no
    have ha0 : again0 = false := hc
    refine GoH.exit rfl ?_
    refine GoH.seq ?_
    refine GoH.region ?_
    refine GoH.v (Vop.mv rfl rfl rfl rfl) ?_
    refine GoH.v (Vop.asg rfl rfl rfl rfl) ?_
    refine GoH.regionEnd ?_
    refine GoH.ret Tryd.f88 Tryd.func88 rfl (fun w' hS => ?_)
    exact ⟨hS.ext, o0, ownAt hS (q := some b) 0 rfl hle.len (fun h => by cases h) (by rw [← hcap]; simp [hle.len]), hvo, hle, hdone ha0, hmin⟩
end Go.Proofs.YticlcpkcohdpfaaDoor
