/- Contracts of functions of the program: what each call returns and that nothing else of memory is turned, under the conditions that each theorem states. -/
import Derived.Test.YticlcpkcohdpfaaDoorF18
import Derived.Test.YticlcpkcohdpfaaDoorWG
namespace Go.Proofs.YticlcpkcohdpfaaDoor
open Go.RowKit Go.Proofs.Wit
/-! the laws of chapter 15, 8 -/
theorem hasI_c (a : Option Addr) (ca : Nat) (xs : List Int) (s : Int) (w : World) (ha : SlI w a xs) (hl : xs.length ≤ maxLen) :
    Cn Tryd.prog 64 [.slice a xs.length ca, .int .i64 s] w (fun v _ => v = .bool (decide (s ∈ xs))) := by
  unfold maxLen at hl
  refine Cn.of Tryd.func64 rfl rfl ?_
  refine GoH.seq ?_
  refine GoH.region ?_
  refine GoH.v (Vop.asg rfl rfl rfl rfl) ?_
  refine GoH.regionEnd ?_
  refine GoH.seq ?_
  refine GoH.seq ?_
  refine GoH.region ?_
  refine GoH.v (Vop.asg rfl rfl rfl rfl) ?_
  refine GoH.regionEnd ?_
  refine GoH.block ?_
  refine GoH.loop (σ := Nat) (fun k => [(0, .slice a xs.length ca), (1, .int .i64 s), (5, .int .i64 k)]) (fun _ => [])
    (fun k => k ≤ xs.length ∧ ∀ i y, i < k → xs[i]? = some y → y ≠ s) (fun k => xs.length - k) 0 ⟨Nat.zero_le _, fun i y hi => by omega⟩ ⟨rfl, rfl, rfl, trivial⟩ .slnil (fun k hI IH => ?_)
  obtain ⟨hk, hno⟩ := hI
  refine GoH.seq ?_
  refine GoH.seq ?_
  refine GoH.region ?_
  refine GoH.v (Vop.mv rfl rfl rfl rfl) ?_
  refine GoH.v (Vop.mv rfl rfl rfl rfl) ?_
  refine GoH.v (Vop.blt rfl rfl rfl (blt_len_slice Tryd.underlying35) rfl) ?_
  refine GoH.v (Vop.bin rfl rfl rfl rfl bLt rfl) ?_
  refine GoH.regionEnd ?_
  refine GoH.cond rfl (fun hc => ?_) (fun hc => ?_)
  · -- yes
    have hlt : k < xs.length := by simpa using hc
    refine GoH.skip ?_
    refine GoH.seq ?_
    refine GoH.block ?_
    refine GoH.seq ?_
    refine GoH.region ?_
    refine GoH.v (Vop.mv rfl rfl rfl rfl) ?_
    refine GoH.v (Vop.mv rfl rfl rfl rfl) ?_
    refine GoH.v (Vop.idx rfl rfl rfl rfl rfl Tryd.underlying35 Tryd.sizeOf3 ⟨_, ha⟩ (by simp) (k) ⟨rfl, by simpa using hlt⟩) ?_
    refine GoH.v (Vop.ld rfl rfl rfl rfl Tryd.isAgg3 (fun w _ hS => (SlI.ex0 ha hS.ext).at (k) hlt)) ?_
    refine GoH.v (Vop.mv rfl rfl rfl rfl) ?_
    refine GoH.v (Vop.bin rfl rfl rfl rfl bEq rfl) ?_
    refine GoH.regionEnd ?_
    refine GoH.cond rfl (fun hc => ?_) (fun hc => ?_)
    · -- yes
      have h1 : xs[k] = s := by simpa using hc
      refine GoH.seq ?_
      refine GoH.region ?_
      refine GoH.v (Vop.asg rfl rfl rfl rfl) ?_
      refine GoH.regionEnd ?_
      refine GoH.ret Tryd.f64 Tryd.func64 rfl (fun w' hS => ?_)
      exact ⟨hS.ext, by rw [decide_eq_true (show s ∈ xs from h1 ▸ List.getElem_mem hlt)]; rfl⟩
    · -- no
      have h1 : xs[k] ≠ s := by simpa using hc
      refine GoH.skip ?_
      refine GoH.inBlock ?_
      refine GoH.region ?_
      refine GoH.v (Vop.mv rfl rfl rfl rfl) ?_
      refine GoH.v (Vop.bin rfl rfl rfl rfl (bAdd (by omega)) rfl) ?_
      refine GoH.v (Vop.asg rfl rfl rfl rfl) ?_
      refine GoH.regionEnd ?_
      exact IH (k + 1) _ _ ⟨hlt, fun i y hi hy => by
      by_cases e : i = k
      · subst e; rw [List.getElem?_eq_getElem hlt] at hy; cases hy; exact h1
      · exact hno i y (by omega) hy⟩ (by omega) ⟨rfl, rfl, rfl, trivial⟩ .slnil
  · -- no
    have hge : ¬ k < xs.length := by simpa using hc
    obtain rfl : k = xs.length := by omega
    refine GoH.exit rfl ?_
    refine GoH.seq ?_
    refine GoH.region ?_
    refine GoH.v (Vop.asg rfl rfl rfl rfl) ?_
    refine GoH.regionEnd ?_
    refine GoH.ret Tryd.f64 Tryd.func64 rfl (fun w' hS => ?_)
    exact ⟨hS.ext, by rw [decide_eq_false (fun h => by
    obtain ⟨i, hi, e⟩ := List.mem_iff_getElem.1 h
    exact hno i _ hi (List.getElem?_eq_getElem hi) e)]; rfl⟩
set_option maxRecDepth 8000 in
theorem rClosure_c (a : Option Addr) (ca : Nat) (r : List W64) (l : Int) (w : World) (ha : SlU w a r) (hv : Val r) (hca : r.length ≤ ca) :
    Cn Tryd.prog 40 [.slice a r.length ca, .int .i64 l] w (fun v w' => ∃ c, Least (closP (propsL l)) r c ∧ Own w w' v (serU (propsL l) c)) := by
  obtain ⟨i0, hi, hz, hsz, hby⟩ := info_parts infoU
  have hn64 := hv.len
  have hpl := propsL_len l
  have hpm : (propsL l).length ≤ maxLen := by unfold maxLen; omega
  refine Cn.of Tryd.func40 rfl rfl ?_
  refine GoH.seq ?_
  refine GoH.region ?_
  refine GoH.v (Vop.asg rfl rfl rfl rfl) ?_
  refine GoH.regionEnd ?_
  refine GoH.seq ?_
  refine GoH.region ?_
  refine GoH.v (Vop.mv rfl rfl rfl rfl) ?_
  refine GoH.callM _ rfl rfl rfl rfl rfl (fun _ _ => Tryd.call19 _ _) (fun w _ hS => rProps_c l w) ?_
  rintro v w1 w2 Y' hS he ho
  obtain ⟨q5, cap5, sp5, rfl, hq5, hcap5, hS'⟩ := gainP hS he ho
  refine ⟨_, hS', ?_⟩
  -- heap: q5
  refine GoH.v (Vop.mv rfl rfl rfl rfl) ?_
  refine GoH.v (Vop.ext rfl rfl rfl rfl rfl) ?_
  refine GoH.v (Vop.ext rfl rfl rfl rfl rfl) ?_
  refine GoH.v (Vop.asg rfl rfl rfl rfl) ?_
  refine GoH.v (Vop.asg rfl rfl rfl rfl) ?_
  refine GoH.regionEnd ?_
  refine GoH.seq ?_
  refine GoH.seqK (α := {z : List W64 × Option Addr × Nat × Option Nat × List Value // CurAt a ca r z.2.1 z.2.2.1 z.1 z.2.2.2.1 z.2.2.2.2 ∧ Clos (propsL l) r 0 z.1}) (fun z => [(0, .slice z.1.2.1 z.1.1.length z.1.2.2.1), (5, osv q5 (propsL l).length cap5)]) (fun z => [(q5, ob I64 3 (propsL l) sp5), (z.1.2.2.2.1, ob U 41 z.1.1 z.1.2.2.2.2)]) (fun z => ?_) (fun K => ?_)
  -- at: ref.go:72
  -- heap: q5 q
  · -- what comes behind
    obtain ⟨⟨cur, A, cA, q, sp⟩, hA, hC⟩ := z
    dsimp only at hA hC ⊢
    refine GoH.seq ?_
    refine GoH.seq ?_
    refine GoH.region ?_
    refine GoH.v (Vop.asg rfl rfl rfl rfl) ?_
    refine GoH.regionEnd ?_
    refine GoH.block ?_
    refine GoH.loop (σ := Nat × List W64 × Option Addr × Nat × Option Nat × List Value) (fun z => [(0, .slice z.2.2.1 z.2.1.length z.2.2.2.1), (5, osv q5 (propsL l).length cap5), (7, .int .i64 z.1)]) (fun z => [(q5, ob I64 3 (propsL l) sp5), (z.2.2.2.2.1, ob U 41 z.2.1 z.2.2.2.2.2)])
      (fun z => z.1 ≤ 2 * r.length + 1 ∧ CurAt a ca r z.2.2.1 z.2.2.2.1 z.2.1 z.2.2.2.2.1 z.2.2.2.2.2 ∧ Clos (propsL l) r z.1 z.2.1) (fun z => 2 * r.length + 1 - z.1) (0, cur, A, cA, q, sp)
      ⟨Nat.zero_le _, hA, hC⟩ ⟨rfl, rfl, rfl, trivial⟩ (List.Sublist.refl _) (fun z hI IH => ?_)
    obtain ⟨i, x, A, cA, q, sp⟩ := z
    obtain ⟨hi1, hA, hC⟩ := hI
    dsimp only at hi1 hA hC IH ⊢
    have hxl : r.length = x.length := hC.le.len
    have hxm : x.length ≤ maxLen := by unfold maxLen; omega
    -- heap: q5 q
    refine GoH.seq ?_
    refine GoH.seq ?_
    refine GoH.region ?_
    refine GoH.v (Vop.mv rfl rfl rfl rfl) ?_
    refine GoH.v (Vop.mv rfl rfl rfl rfl) ?_
    refine GoH.v (Vop.blt rfl rfl rfl (blt_len_slice Tryd.underlying22) rfl) ?_
    refine GoH.v (Vop.bin rfl rfl rfl rfl (bMulE (c := ((2 * r.length : Nat) : Int)) (by omega) (by omega)) rfl) ?_
    refine GoH.v (Vop.bin rfl rfl rfl rfl bLe rfl) ?_
    refine GoH.regionEnd ?_
    refine GoH.cond rfl (fun hc => ?_) (fun hc => ?_)
    · -- yes
      have hil : i ≤ 2 * r.length := by have : (i : Int) ≤ ((2 * r.length : Nat) : Int) := by simpa using hc
                                        omega
      refine GoH.skip ?_
      refine GoH.seq ?_
      refine GoH.block ?_
      refine GoH.seq ?_
      refine GoH.seq ?_
      refine GoH.region ?_
      refine GoH.v (Vop.mv rfl rfl rfl rfl) ?_
      refine GoH.callP rfl rfl rfl rfl rfl (fun _ _ => Tryd.call64 _ _) (fun w _ hS => (by exact hasI_c (q5.map (fun b => ⟨b, 0, none⟩)) cap5 (propsL l) 4 w (sliAt hS 0 rfl (fun e => (hq5 e).1)) hpm)) ?_
      refine GoH.regionEnd ?_
      refine GoH.cond rfl (fun hc => ?_) (fun hc => ?_)
      · -- yes
        have h4 : (4 : Int) ∈ propsL l := by simpa using hc
        refine GoH.region ?_
        refine GoH.v (Vop.mv rfl rfl rfl rfl) ?_
        refine GoH.callM _ rfl rfl rfl rfl rfl (fun _ _ => Tryd.call66 _ _) (fun w _ hS => rTransitive_c A cA x w (hA.slu hS ha 1 rfl) hxm) ?_
        rintro v w1 w2 Y' hS he ⟨⟨y, e⟩, ⟨sv, rfl, ho⟩, hg⟩
        obtain ⟨q3, cap3, sp3, rfl, hq3, hcap3, hS'⟩ := gainO hS he ho
        have hLy := (hg.least hC.val).2
        dsimp only at hLy
        have hyl := hLy.le.len
        have hym : y.length ≤ maxLen := by unfold maxLen; omega
        refine ⟨_, hS', ?_⟩
        -- heap: q3 q5 q
        refine GoH.v (Vop.mv rfl rfl rfl rfl) ?_
        refine GoH.v (Vop.ext rfl rfl rfl rfl rfl) ?_
        refine GoH.v (Vop.ext rfl rfl rfl rfl rfl) ?_
        refine GoH.v (Vop.asg rfl rfl rfl rfl) ?_
        refine GoH.regionEnd ?_
        refine GoH.seq ?_
        refine GoH.region ?_
        refine GoH.v (Vop.mv rfl rfl rfl rfl) ?_
        refine GoH.callP rfl rfl rfl rfl rfl (fun _ _ => Tryd.call64 _ _) (fun w _ hS => (by exact hasI_c (q5.map (fun b => ⟨b, 0, none⟩)) cap5 (propsL l) 5 w (sliAt hS 1 rfl (fun e => (hq5 e).1)) hpm)) ?_
        refine GoH.regionEnd ?_
        refine GoH.cond rfl (fun hc => ?_) (fun hc => ?_)
        · -- yes
          have h5 : (5 : Int) ∈ propsL l := by simpa using hc
          refine GoH.region ?_
          refine GoH.v (Vop.mv rfl rfl rfl rfl) ?_
          refine GoH.callM _ rfl rfl rfl rfl rfl (fun _ _ => Tryd.call67 _ _) (fun w _ hS => rEuclidean_c (q3.map (fun b => ⟨b, 0, none⟩)) cap3 y w (sluAt hS 0 rfl hq3) hym) ?_
          rintro v w1 w2 Y' hS he ⟨⟨z, e⟩, ⟨sv, rfl, ho⟩, hg⟩
          obtain ⟨q4, cap4, sp4, rfl, hq4, hcap4, hS'⟩ := gainO hS he ho
          have hLz := (hg.least hLy.val).2
          dsimp only at hLz
          refine ⟨_, hS', ?_⟩
          -- heap: q4 q3 q5 q
          refine GoH.v (Vop.mv rfl rfl rfl rfl) ?_
          refine GoH.v (Vop.ext rfl rfl rfl rfl rfl) ?_
          refine GoH.v (Vop.ext rfl rfl rfl rfl rfl) ?_
          refine GoH.v (Vop.asg rfl rfl rfl rfl) ?_
          refine GoH.regionEnd ?_
          refine GoH.inBlock ?_
          refine GoH.region ?_
          refine GoH.v (Vop.mv rfl rfl rfl rfl) ?_
          refine GoH.v (Vop.bin rfl rfl rfl rfl (bAdd (by omega)) rfl) ?_
          refine GoH.v (Vop.asg rfl rfl rfl rfl) ?_
          refine GoH.regionEnd ?_
          refine GoH.pick (pre' := [(q5, ob I64 3 (propsL l) sp5), (q4, ob U 41 z sp4)]) [2, 0] (by decide) rfl ?_
          exact IH (i + 1, z, q4.map (fun b => ⟨b, 0, none⟩), cap4, q4, sp4) _ _ ⟨by dsimp only; omega, ⟨by rw [← hcap4]; simp, .inr ⟨rfl, fun e => (hq4 e).1⟩⟩, hC.turn propsL_54 ⟨y, by rw [if_pos h4]; exact hLy, by rw [if_pos h5]; exact hLz⟩⟩ (by dsimp only; omega) ⟨rfl, rfl, rfl, trivial⟩ (List.Sublist.refl _)
        · -- no
          have h5 : ¬ (5 : Int) ∈ propsL l := by simpa using hc
          refine GoH.skip ?_
          refine GoH.inBlock ?_
          refine GoH.region ?_
          refine GoH.v (Vop.mv rfl rfl rfl rfl) ?_
          refine GoH.v (Vop.bin rfl rfl rfl rfl (bAdd (by omega)) rfl) ?_
          refine GoH.v (Vop.asg rfl rfl rfl rfl) ?_
          refine GoH.regionEnd ?_
          refine GoH.pick (pre' := [(q5, ob I64 3 (propsL l) sp5), (q3, ob U 41 y sp3)]) [1, 0] (by decide) rfl ?_
          exact IH (i + 1, y, q3.map (fun b => ⟨b, 0, none⟩), cap3, q3, sp3) _ _ ⟨by dsimp only; omega, ⟨by rw [← hcap3]; simp, .inr ⟨rfl, fun e => (hq3 e).1⟩⟩, hC.turn propsL_54 ⟨y, by rw [if_pos h4]; exact hLy, by rw [if_neg h5]⟩⟩ (by dsimp only; omega) ⟨rfl, rfl, rfl, trivial⟩ (List.Sublist.refl _)
      · -- no
        have h4 : ¬ (4 : Int) ∈ propsL l := by simpa using hc
        refine GoH.skip ?_
        refine GoH.seq ?_
        refine GoH.region ?_
        refine GoH.v (Vop.mv rfl rfl rfl rfl) ?_
        refine GoH.callP rfl rfl rfl rfl rfl (fun _ _ => Tryd.call64 _ _) (fun w _ hS => (by exact hasI_c (q5.map (fun b => ⟨b, 0, none⟩)) cap5 (propsL l) 5 w (sliAt hS 0 rfl (fun e => (hq5 e).1)) hpm)) ?_
        refine GoH.regionEnd ?_
        refine GoH.cond rfl (fun hc => ?_) (fun hc => ?_)
        · -- yes
          exact absurd (propsL_54 (by simpa using hc)) h4
        · -- no
          have h5 : ¬ (5 : Int) ∈ propsL l := by simpa using hc
          refine GoH.skip ?_
          refine GoH.inBlock ?_
          refine GoH.region ?_
          refine GoH.v (Vop.mv rfl rfl rfl rfl) ?_
          refine GoH.v (Vop.bin rfl rfl rfl rfl (bAdd (by omega)) rfl) ?_
          refine GoH.v (Vop.asg rfl rfl rfl rfl) ?_
          refine GoH.regionEnd ?_
          exact IH (i + 1, x, A, cA, q, sp) _ _ ⟨by dsimp only; omega, hA, hC.turn propsL_54 ⟨x, by rw [if_neg h4], by rw [if_neg h5]⟩⟩ (by dsimp only; omega) ⟨rfl, rfl, rfl, trivial⟩ (List.Sublist.refl _)
    · -- no
      have hil : 2 * r.length < i := by have : ¬ (i : Int) ≤ ((2 * r.length : Nat) : Int) := by simpa using hc
                                        omega
      have hL := hC.done hil
      refine GoH.exit rfl ?_
      refine GoH.seq ?_
      refine GoH.region ?_
      refine GoH.bs0 U rfl rfl rfl Tryd.underlying22 hi (fun b0 => ?_)
      -- heap: b0 q5 q
      refine GoH.v (Vop.mv rfl rfl rfl rfl) ?_
      refine GoH.appZ U x rfl rfl rfl rfl rfl Tryd.underlying22 hi hz hsz rfl 0 rfl (fun w Y' hS => hA.slu hS ha 2 rfl) rfl rfl (fun _ => rfl) (by simp [maxLen]; omega) (by simp [hby]; omega) (fun b8 sp8 cap8 hcap8 => ?_)
      rw [List.nil_append] at *
      -- heap: b8 q5 q
      refine GoH.v (Vop.asg rfl rfl rfl rfl) ?_
      refine GoH.regionEnd ?_
      refine GoH.seq ?_
      refine GoH.seq ?_
      refine GoH.region ?_
      refine GoH.v (Vop.asg rfl rfl rfl rfl) ?_
      refine GoH.regionEnd ?_
      refine GoH.block ?_
      refine GoH.loop (σ := Nat) (fun k => [(5, osv q5 (propsL l).length cap5), (8, osv (some b8) x.length cap8), (9, .int .i64 k)]) (fun k => [(some b8, ob U 41 (upTo (serS (propsL l)) x k) sp8), (q5, ob I64 3 (propsL l) sp5)])
        (fun k => k ≤ x.length) (fun k => x.length - k) 0 (Nat.zero_le _) ⟨rfl, rfl, rfl, trivial⟩ (.cons_cons _ (.cons_cons _ (.cons _ .slnil))) (fun k hk IH3 => ?_)
      -- heap: b8 q5
      refine GoH.seq ?_
      refine GoH.seq ?_
      refine GoH.region ?_
      refine GoH.v (Vop.mv rfl rfl rfl rfl) ?_
      refine GoH.v (Vop.mv rfl rfl rfl rfl) ?_
      refine GoH.v (Vop.blt rfl rfl rfl (blt_len_slice Tryd.underlying22) rfl) ?_
      refine GoH.v (Vop.bin rfl rfl rfl rfl bLt rfl) ?_
      refine GoH.regionEnd ?_
      refine GoH.cond rfl (fun hc => ?_) (fun hc => ?_)
      · -- yes
        have hlt : k < x.length := by simpa using hc
        have hlt2 : k < (upTo (serS (propsL l)) x k).length := by rw [upSer_length]; exact hlt
        refine GoH.skip ?_
        refine GoH.seq ?_
        refine GoH.block ?_
        refine GoH.seq ?_
        refine GoH.region ?_
        refine GoH.v (Vop.mv rfl rfl rfl rfl) ?_
        refine GoH.v (Vop.mv rfl rfl rfl rfl) ?_
        refine GoH.v (Vop.idxS rfl rfl rfl rfl rfl Tryd.underlying22 Tryd.sizeOf41 (k) ⟨rfl, hlt⟩) ?_
        refine GoH.v (Vop.ldE U 0#64 rfl rfl rfl rfl Tryd.isAgg41 0 rfl hlt2) ?_
        refine GoH.v (Vop.bin (b := U 0#64) rfl rfl rfl rfl bEqU rfl) ?_
        refine GoH.v (Vop.mv rfl rfl rfl rfl) ?_
        -- guard on slot 57 (ref.go:85)
        refine GoH.cases (d := 57) rfl (fun hc => ?_) (fun hc => ?_)
        · -- yes
          have h2 : (upTo (serS (propsL l)) x k).getD k 0#64 = 0#64 := by simpa using hc
          refine GoH.v (Vop.mv rfl rfl rfl rfl) ?_
          refine GoH.callP rfl rfl rfl rfl rfl (fun _ _ => Tryd.call64 _ _) (fun w _ hS => (by exact hasI_c (q5.map (fun b => ⟨b, 0, none⟩)) cap5 (propsL l) 1 w (sliAt hS 1 rfl (fun e => (hq5 e).1)) hpm)) ?_
          refine GoH.v (Vop.pickT rfl rfl rfl rfl rfl) ?_
          refine GoH.regionEnd ?_
          refine GoH.cond rfl (fun hc => ?_) (fun hc => ?_)
          · -- yes
            have h1 : (1 : Int) ∈ propsL l := by simpa using hc
            have h3 : upTo (serS (propsL l)) x (k + 1) = (upTo (serS (propsL l)) x k).set k (1#64 <<< k) := by rw [upTo, serS, if_pos ⟨h1, h2⟩]
            refine GoH.region ?_
            refine GoH.v (Vop.mv rfl rfl rfl rfl) ?_
            refine GoH.v (Vop.mv rfl rfl rfl rfl) ?_
            refine GoH.v (Vop.mv rfl rfl rfl rfl) ?_
            refine GoH.v (Vop.conv rfl rfl rfl (cInt (k := .u64) Tryd.underlying3 Tryd.underlying50 (wrapN64 (by omega))) rfl) ?_
            refine GoH.v (Vop.bin (a := U 1#64) rfl rfl rfl rfl (bShl _ rfl) rfl) ?_
            refine GoH.v (Vop.idxS rfl rfl rfl rfl rfl Tryd.underlying22 Tryd.sizeOf41 (k) ⟨rfl, hlt⟩) ?_
            refine GoH.stE U _ rfl rfl rfl rfl Tryd.sizeOf41 rfl 0 rfl hlt2 ?_
            refine GoH.regionEnd ?_
            refine GoH.inBlock ?_
            refine GoH.region ?_
            refine GoH.v (Vop.mv rfl rfl rfl rfl) ?_
            refine GoH.v (Vop.bin rfl rfl rfl rfl (bAdd (by omega)) rfl) ?_
            refine GoH.v (Vop.asg rfl rfl rfl rfl) ?_
            refine GoH.regionEnd ?_
            rw [← h3]
            exact IH3 (k + 1) _ _ hlt (by omega) ⟨rfl, rfl, rfl, trivial⟩ (List.Sublist.refl _)
          · -- no
            have h1 : ¬ (1 : Int) ∈ propsL l := by simpa using hc
            have h3 : upTo (serS (propsL l)) x (k + 1) = upTo (serS (propsL l)) x k := by rw [upTo, serS, if_neg (fun h => h1 h.1)]
            refine GoH.skip ?_
            refine GoH.inBlock ?_
            refine GoH.region ?_
            refine GoH.v (Vop.mv rfl rfl rfl rfl) ?_
            refine GoH.v (Vop.bin rfl rfl rfl rfl (bAdd (by omega)) rfl) ?_
            refine GoH.v (Vop.asg rfl rfl rfl rfl) ?_
            refine GoH.regionEnd ?_
            rw [← h3]
            exact IH3 (k + 1) _ _ hlt (by omega) ⟨rfl, rfl, rfl, trivial⟩ (List.Sublist.refl _)
        · -- no
          have h2 : (upTo (serS (propsL l)) x k).getD k 0#64 ≠ 0#64 := by simpa using hc
          have h3 : upTo (serS (propsL l)) x (k + 1) = upTo (serS (propsL l)) x k := by rw [upTo, serS, if_neg (fun h => h2 h.2)]
          refine GoH.no rfl rfl rfl rfl ?_
          refine GoH.no rfl rfl rfl rfl ?_
          refine GoH.v (Vop.pickF rfl rfl rfl rfl rfl) ?_
          refine GoH.regionEnd ?_
          refine GoH.condF rfl ?_
          refine GoH.skip ?_
          refine GoH.inBlock ?_
          refine GoH.region ?_
          refine GoH.v (Vop.mv rfl rfl rfl rfl) ?_
          refine GoH.v (Vop.bin rfl rfl rfl rfl (bAdd (by omega)) rfl) ?_
          refine GoH.v (Vop.asg rfl rfl rfl rfl) ?_
          refine GoH.regionEnd ?_
          rw [← h3]
          exact IH3 (k + 1) _ _ hlt (by omega) ⟨rfl, rfl, rfl, trivial⟩ (List.Sublist.refl _)
      · -- no
        have hge : ¬ k < x.length := by simpa using hc
        obtain rfl : k = x.length := by omega
        refine GoH.exit rfl ?_
        refine GoH.seq ?_
        refine GoH.region ?_
        refine GoH.v (Vop.mv rfl rfl rfl rfl) ?_
        refine GoH.v (Vop.asg rfl rfl rfl rfl) ?_
        refine GoH.regionEnd ?_
        refine GoH.ret Tryd.f40 Tryd.func40 rfl (fun w' hS => ?_)
        exact ⟨hS.ext, x, hL, ownAt (q := some b8) hS 0 rfl (by rw [upSer_length]) (fun e => by cases e) (by rw [← hcap8]; simp [upSer_length])⟩
  · -- the first part
    refine GoH.seq ?_
    refine GoH.region ?_
    refine GoH.v (Vop.mv rfl rfl rfl rfl) ?_
    refine GoH.callP rfl rfl rfl rfl rfl (fun _ _ => Tryd.call64 _ _) (fun w _ hS => (by exact hasI_c (q5.map (fun b => ⟨b, 0, none⟩)) cap5 (propsL l) 2 w (sliAt hS 0 rfl (fun e => (hq5 e).1)) hpm)) ?_
    refine GoH.regionEnd ?_
    refine GoH.cond rfl (fun hc => ?_) (fun hc => ?_)
    · -- yes
      have h2 : (2 : Int) ∈ propsL l := by simpa using hc
      refine GoH.region ?_
      refine GoH.v (Vop.mv rfl rfl rfl rfl) ?_
      refine GoH.callM _ rfl rfl rfl rfl rfl (fun _ _ => Tryd.call65 _ _) (fun w _ hS => rReflexive_c a ca r w (ha.ex0 hS.ext) (by unfold maxLen; omega)) ?_
      rintro v w1 w2 Y' hS he ⟨⟨y, e⟩, ⟨sv, rfl, ho⟩, hg⟩
      obtain ⟨q3, cap3, sp3, rfl, hq3, hcap3, hS'⟩ := gainO hS he ho
      have hLy := (hg.least hv).2
      dsimp only at hLy
      refine ⟨_, hS', ?_⟩
      -- heap: q3 q5
      refine GoH.v (Vop.mv rfl rfl rfl rfl) ?_
      refine GoH.v (Vop.ext rfl rfl rfl rfl rfl) ?_
      refine GoH.v (Vop.ext rfl rfl rfl rfl rfl) ?_
      refine GoH.v (Vop.asg rfl rfl rfl rfl) ?_
      refine GoH.regionEnd ?_
      exact K ⟨(y, q3.map (fun b => ⟨b, 0, none⟩), cap3, q3, sp3), ⟨by rw [← hcap3]; simp, .inr ⟨rfl, fun e => (hq3 e).1⟩⟩, ⟨hLy.val, hLy.le, fun c a1 a2 a3 => hLy.least c a1 a2 (a3.1 h2), fun _ => hLy.has, fun h => absurd h (by decide), fun h => absurd h (by decide), fun h => absurd h (by decide)⟩⟩ _ _ (by repeat (first | exact SubF.nil | refine SubF.cons rfl ?_)) (fun _ _ hS => hS.swap2)
    · -- no
      have h2 : ¬ (2 : Int) ∈ propsL l := by simpa using hc
      refine GoH.skip ?_
      exact K ⟨(r, a, ca, none, []), ⟨hca, .inl ⟨rfl, rfl⟩⟩, ⟨hv, .refl _, fun c _ a2 _ => a2, fun h => absurd h h2, fun h => absurd h (by decide), fun h => absurd h (by decide), fun h => absurd h (by decide)⟩⟩ _ _ (by repeat (first | exact SubF.nil | refine SubF.cons rfl ?_)) (fun _ _ hS => (hS.none (ob U 41 r [])).swap2)
end Go.Proofs.YticlcpkcohdpfaaDoor
