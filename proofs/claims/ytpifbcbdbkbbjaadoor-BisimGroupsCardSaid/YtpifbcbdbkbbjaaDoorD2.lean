/- Contracts of functions of the program: what each call returns and that nothing else of memory is turned, under the conditions that each theorem states. -/
import Derived.Test.YtpifbcbdbkbbjaaDoorD1
namespace Go.Proofs.YtpifbcbdbkbbjaaDoor
open Go.RowKit Go.Proofs.Wit
/-! the laws of chapter 19, 1 -/
theorem rnds_mx {n : Int} {val : List W64} {rel : List (List W64)} {k : Int} : (rnds n val rel k).length ≤ maxLen := by
  by_cases h : rndsE n val rel k = 0
  · rw [rnds_len h]
    have h1 : checkM n val rel = 0 := by
      unfold rndsE at h
      split at h
      · exact h
      · rename_i hh; exact Classical.not_not.1 hh
    have := (checkM_zero.1 h1).n64
    exact le_mx (by omega)
  · rw [rnds_bad h]; exact Nat.zero_le _
theorem crs_mx {n : Int} {val : List W64} {rel : List (List W64)} : (crs n val rel).length ≤ maxLen := by
  by_cases h : checkM n val rel = 0
  · rw [crs_len h]
    have := (checkM_zero.1 h).n64
    exact le_mx (by omega)
  · rw [crs_bad h]; exact Nat.zero_le _
theorem bet_mx {na nb : Int} {va vb : List W64} {ra rb : List (List W64)} {z : List W64} (h : BetZ na va ra nb vb rb z) : z.length ≤ maxLen := by
  by_cases e : bothE na va ra nb vb rb = 0
  · rw [(h.2 e).len]
    have := (bothE_zero.1 e).1.n64
    exact le_mx (by omega)
  · rw [h.1 e]; exact Nat.zero_le _
theorem equalUT_c (a : Option Addr) (ca : Nat) (xs : List W64) (b : Option Addr) (cb : Nat) (ys : List W64) (w : World) (ha : SlU w a xs) (hb : SlU w b ys) (h : xs = ys) (hl : ys.length ≤ maxLen) :
    Cn Tryd.prog 25 [.slice a xs.length ca, .slice b ys.length cb] w (fun v _ => v = .bool true) :=
  (equal_c a ca xs b cb ys w ha hb (by rw [h]; unfold maxLen at hl; omega)).mono (fun v w' _ e => by rw [e, h, beq_self_eq_true])
set_option maxRecDepth 4000 in
theorem bisimRounds_c (m : MV) (n : Int) (w : World) (hT : Tab w) (hm : m.At w) : Cn Tryd.prog 3 [m.v, .int .i64 n] w (fun v _ => v = .bool true) := by
  refine Cn.of Tryd.func3 rfl rfl ?_
  refine GoH.seq ?_
  refine GoH.region ?_
  refine GoH.bx rfl rfl rfl rfl (fun b2 => ?_)
  refine GoH.v (Vop.asg rfl rfl rfl rfl) ?_
  refine GoH.regionEnd ?_
  refine GoH.seq ?_
  refine GoH.seq ?_
  refine GoH.region ?_
  refine GoH.v (Vop.ldB rfl rfl rfl rfl Tryd.isAgg25 0 rfl Tryd.sizeOf25 rfl) ?_
  refine GoH.callM _ rfl rfl rfl rfl rfl (fun _ _ => Tryd.call10 _ _) (fun w _ hS => few_c m 16 w (hm.ex0 hS.ext)) ?_
  rintro v w1 w2 Y' hS he ⟨b, rfl⟩
  refine ⟨_, hS.later he, ?_⟩
  refine GoH.v (Vop.un rfl rfl rfl uNot rfl) ?_
  refine GoH.regionEnd ?_
  refine GoH.cond rfl (fun hc => ?_) (fun hc => ?_)
  · -- yes
    refine GoH.seq ?_
    refine GoH.region ?_
    refine GoH.callP rfl rfl rfl rfl rfl (fun _ _ => Tryd.call11 _ _) (fun w _ hS => awake19_c w (hT.ex hS.ext)) ?_
    refine GoH.v (Vop.asg rfl rfl rfl rfl) ?_
    refine GoH.regionEnd ?_
    refine GoH.ret Tryd.f3 Tryd.func3 rfl (fun w' hS => ?_)
    exact ⟨hS.ext, rfl⟩
  · -- no
    refine GoH.skip ?_
    refine GoH.seq ?_
    refine GoH.region ?_
    refine GoH.v (Vop.ldB rfl rfl rfl rfl Tryd.isAgg25 0 rfl Tryd.sizeOf25 rfl) ?_
    refine GoH.v (Vop.mv rfl rfl rfl rfl) ?_
    refine GoH.callM _ rfl rfl rfl rfl rfl (fun _ _ => Tryd.call12 _ _) (fun w _ hS => roundsX_c m n w (hT.ex hS.ext) (hm.ex0 hS.ext)) ?_
    rintro v w1 w2 Y' hS he ⟨sv, rfl, ho⟩
    obtain ⟨q5, cap5, sp5, rfl, hq5, hcap5, hS'⟩ := gainS hS he ho
    refine ⟨_, hS', ?_⟩
    -- heap: q5 b2
    refine GoH.v (Vop.mv rfl rfl rfl rfl) ?_
    refine GoH.v (Vop.ext rfl rfl rfl rfl rfl) ?_
    refine GoH.v (Vop.ext rfl rfl rfl rfl rfl) ?_
    refine GoH.v (Vop.asg rfl rfl rfl rfl) ?_
    refine GoH.v (Vop.asg rfl rfl rfl rfl) ?_
    refine GoH.regionEnd ?_
    refine GoH.seq ?_
    refine GoH.region ?_
    refine GoH.v (Vop.ldB rfl rfl rfl rfl Tryd.isAgg25 1 rfl Tryd.sizeOf25 rfl) ?_
    refine GoH.v (Vop.mv rfl rfl rfl rfl) ?_
    refine GoH.callM _ rfl rfl rfl rfl rfl (fun _ _ => Tryd.call13 _ _) (fun w _ hS => rrounds_c m n w (hT.ex hS.ext) (hm.ex0 hS.ext)) ?_
    rintro v w1 w2 Y' hS he ⟨sv, rfl, ho⟩
    obtain ⟨q7, cap7, sp7, rfl, hq7, hcap7, hS'⟩ := gainS hS he ho
    refine ⟨_, hS', ?_⟩
    -- heap: q7 q5 b2
    refine GoH.v (Vop.mv rfl rfl rfl rfl) ?_
    refine GoH.v (Vop.ext rfl rfl rfl rfl rfl) ?_
    refine GoH.v (Vop.ext rfl rfl rfl rfl rfl) ?_
    refine GoH.v (Vop.asg rfl rfl rfl rfl) ?_
    refine GoH.v (Vop.asg rfl rfl rfl rfl) ?_
    refine GoH.regionEnd ?_
    refine GoH.seq ?_
    refine GoH.region ?_
    refine GoH.v (Vop.ldB rfl rfl rfl rfl Tryd.isAgg25 2 rfl Tryd.sizeOf25 rfl) ?_
    refine GoH.callM _ rfl rfl rfl rfl rfl (fun _ _ => Tryd.call14 _ _) (fun w _ hS => coarsest_c m w (hT.ex hS.ext) (hm.ex0 hS.ext)) ?_
    rintro v w1 w2 Y' hS he ⟨sv, rfl, ho⟩
    obtain ⟨q9, cap9, sp9, rfl, hq9, hcap9, hS'⟩ := gainS hS he ho
    refine ⟨_, hS', ?_⟩
    -- heap: q9 q7 q5 b2
    refine GoH.v (Vop.mv rfl rfl rfl rfl) ?_
    refine GoH.v (Vop.ext rfl rfl rfl rfl rfl) ?_
    refine GoH.v (Vop.ext rfl rfl rfl rfl rfl) ?_
    refine GoH.v (Vop.asg rfl rfl rfl rfl) ?_
    refine GoH.v (Vop.asg rfl rfl rfl rfl) ?_
    refine GoH.regionEnd ?_
    refine GoH.seq ?_
    refine GoH.region ?_
    refine GoH.v (Vop.ldB rfl rfl rfl rfl Tryd.isAgg25 3 rfl Tryd.sizeOf25 rfl) ?_
    refine GoH.callM _ rfl rfl rfl rfl rfl (fun _ _ => Tryd.call15 _ _) (fun w _ hS => rcoarsest_c m w (hT.ex hS.ext) (hm.ex0 hS.ext)) ?_
    rintro v w1 w2 Y' hS he ⟨sv, rfl, ho⟩
    obtain ⟨q11, cap11, sp11, rfl, hq11, hcap11, hS'⟩ := gainS hS he ho
    refine ⟨_, hS', ?_⟩
    -- heap: q11 q9 q7 q5 b2
    refine GoH.v (Vop.mv rfl rfl rfl rfl) ?_
    refine GoH.v (Vop.ext rfl rfl rfl rfl rfl) ?_
    refine GoH.v (Vop.ext rfl rfl rfl rfl rfl) ?_
    refine GoH.v (Vop.asg rfl rfl rfl rfl) ?_
    refine GoH.v (Vop.asg rfl rfl rfl rfl) ?_
    refine GoH.regionEnd ?_
    refine GoH.seq ?_
    refine GoH.region ?_
    refine GoH.v (Vop.ldB rfl rfl rfl rfl Tryd.isAgg25 4 rfl Tryd.sizeOf25 rfl) ?_
    refine GoH.callP rfl rfl rfl rfl rfl (fun _ _ => Tryd.call16 _ _) (fun w _ hS => depth_c m w (hT.ex hS.ext) (hm.ex0 hS.ext)) ?_
    refine GoH.v (Vop.mv rfl rfl rfl rfl) ?_
    refine GoH.v (Vop.ext rfl rfl rfl rfl rfl) ?_
    refine GoH.v (Vop.ext rfl rfl rfl rfl rfl) ?_
    refine GoH.v (Vop.asg rfl rfl rfl rfl) ?_
    refine GoH.v (Vop.asg rfl rfl rfl rfl) ?_
    refine GoH.regionEnd ?_
    refine GoH.seq ?_
    refine GoH.region ?_
    refine GoH.v (Vop.ldB rfl rfl rfl rfl Tryd.isAgg25 4 rfl Tryd.sizeOf25 rfl) ?_
    refine GoH.callP rfl rfl rfl rfl rfl (fun _ _ => Tryd.call17 _ _) (fun w _ hS => rdepth_c m w (hT.ex hS.ext) (hm.ex0 hS.ext)) ?_
    refine GoH.v (Vop.mv rfl rfl rfl rfl) ?_
    refine GoH.v (Vop.ext rfl rfl rfl rfl rfl) ?_
    refine GoH.v (Vop.ext rfl rfl rfl rfl rfl) ?_
    refine GoH.v (Vop.asg rfl rfl rfl rfl) ?_
    refine GoH.v (Vop.asg rfl rfl rfl rfl) ?_
    refine GoH.regionEnd ?_
    refine GoH.seq ?_
    refine GoH.region ?_
    refine GoH.v (Vop.mv rfl rfl rfl rfl) ?_
    refine GoH.v (Vop.mv rfl rfl rfl rfl) ?_
    refine GoH.callP rfl rfl rfl rfl rfl (fun _ _ => Tryd.call18 _ _) (fun w _ hS => (by exact equalT_c (q5.map (fun b => ⟨b, 0, none⟩)) cap5 _ (q7.map (fun b => ⟨b, 0, none⟩)) cap7 _ w (sliAt hS 3 rfl (fun e => (hq5 e).1)) (sliAt hS 2 rfl (fun e => (hq7 e).1)) rfl rnds_mx)) ?_
    refine GoH.v (Vop.mv rfl rfl rfl rfl) ?_
    refine GoH.v (Vop.mv rfl rfl rfl rfl) ?_
    refine GoH.v (Vop.mv rfl rfl rfl rfl) ?_
    refine GoH.v (Vop.bin rfl rfl rfl rfl (bEqV (v := true) (beq_self_eq_true _)) rfl) ?_
    refine GoH.v (Vop.pickT rfl rfl rfl rfl rfl) ?_
    refine GoH.v (Vop.mv rfl rfl rfl rfl) ?_
    refine GoH.v (Vop.mv rfl rfl rfl rfl) ?_
    refine GoH.v (Vop.mv rfl rfl rfl rfl) ?_
    refine GoH.callP rfl rfl rfl rfl rfl (fun _ _ => Tryd.call18 _ _) (fun w _ hS => (by exact equalT_c (q9.map (fun b => ⟨b, 0, none⟩)) cap9 _ (q11.map (fun b => ⟨b, 0, none⟩)) cap11 _ w (sliAt hS 1 rfl (fun e => (hq9 e).1)) (sliAt hS 0 rfl (fun e => (hq11 e).1)) rfl crs_mx)) ?_
    refine GoH.v (Vop.pickT rfl rfl rfl rfl rfl) ?_
    refine GoH.v (Vop.mv rfl rfl rfl rfl) ?_
    refine GoH.v (Vop.mv rfl rfl rfl rfl) ?_
    refine GoH.v (Vop.mv rfl rfl rfl rfl) ?_
    refine GoH.v (Vop.bin rfl rfl rfl rfl (bEqV (v := true) (beq_self_eq_true _)) rfl) ?_
    refine GoH.v (Vop.pickT rfl rfl rfl rfl rfl) ?_
    refine GoH.v (Vop.mv rfl rfl rfl rfl) ?_
    refine GoH.v (Vop.mv rfl rfl rfl rfl) ?_
    refine GoH.v (Vop.mv rfl rfl rfl rfl) ?_
    refine GoH.v (Vop.bin rfl rfl rfl rfl (bEqV (v := true) (beq_self_eq_true _)) rfl) ?_
    refine GoH.v (Vop.pickT rfl rfl rfl rfl rfl) ?_
    refine GoH.v (Vop.mv rfl rfl rfl rfl) ?_
    refine GoH.v (Vop.mv rfl rfl rfl rfl) ?_
    refine GoH.v (Vop.mv rfl rfl rfl rfl) ?_
    refine GoH.v (Vop.bin rfl rfl rfl rfl (bEqV (v := true) (beq_self_eq_true _)) rfl) ?_
    refine GoH.v (Vop.pickT rfl rfl rfl rfl rfl) ?_
    refine GoH.v (Vop.mv rfl rfl rfl rfl) ?_
    refine GoH.callP rfl rfl rfl rfl rfl (fun _ _ => Tryd.call11 _ _) (fun w _ hS => awake19_c w (hT.ex hS.ext)) ?_
    refine GoH.v (Vop.pickT rfl rfl rfl rfl rfl) ?_
    refine GoH.v (Vop.asg rfl rfl rfl rfl) ?_
    refine GoH.regionEnd ?_
    refine GoH.ret Tryd.f3 Tryd.func3 rfl (fun w' hS => ?_)
    exact ⟨hS.ext, rfl⟩
set_option maxRecDepth 4000 in
theorem bisimChecks_c (a b : MV) (za : Option Addr) (zc : Nat) (z : List W64) (w : World) (hT : Tab w) (ha : a.At w) (hb : b.At w) (hz : SlU w za z) (hzm : z.length ≤ maxLen) : Cn Tryd.prog 4 [a.v, b.v, .slice za z.length zc] w (fun v _ => v = .bool true) := by
  refine Cn.of Tryd.func4 rfl rfl ?_
  refine GoH.seq ?_
  refine GoH.region ?_
  refine GoH.bx rfl rfl rfl rfl (fun b3 => ?_)
  refine GoH.bx rfl rfl rfl rfl (fun b4 => ?_)
  refine GoH.v (Vop.asg rfl rfl rfl rfl) ?_
  refine GoH.regionEnd ?_
  refine GoH.seq ?_
  refine GoH.seq ?_
  refine GoH.region ?_
  refine GoH.v (Vop.ldB rfl rfl rfl rfl Tryd.isAgg25 1 rfl Tryd.sizeOf25 rfl) ?_
  refine GoH.callM _ rfl rfl rfl rfl rfl (fun _ _ => Tryd.call10 _ _) (fun w _ hS => few_c a 10 w (ha.ex0 hS.ext)) ?_
  rintro v w1 w2 Y' hS he ⟨y1, rfl⟩
  refine ⟨_, hS.later he, ?_⟩
  refine GoH.v (Vop.un rfl rfl rfl uNot rfl) ?_
  refine GoH.v (Vop.mv rfl rfl rfl rfl) ?_
  -- guard on slot 10 (law.go:55)
  refine GoH.cases (d := 10) rfl (fun hc => ?_) (fun hc => ?_)
  · -- yes
    refine GoH.no rfl rfl rfl rfl ?_
    refine GoH.no rfl rfl rfl rfl ?_
    refine GoH.no rfl rfl rfl rfl ?_
    refine GoH.v (Vop.pickT rfl rfl rfl rfl rfl) ?_
    refine GoH.v (Vop.mv rfl rfl rfl rfl) ?_
    refine GoH.no rfl rfl rfl rfl ?_
    refine GoH.no rfl rfl rfl rfl ?_
    refine GoH.no rfl rfl rfl rfl ?_
    refine GoH.v (Vop.pickT rfl rfl rfl rfl rfl) ?_
    refine GoH.regionEnd ?_
    refine GoH.condT rfl ?_
    refine GoH.seq ?_
    refine GoH.region ?_
    refine GoH.callP rfl rfl rfl rfl rfl (fun _ _ => Tryd.call11 _ _) (fun w _ hS => awake19_c w (hT.ex hS.ext)) ?_
    refine GoH.v (Vop.asg rfl rfl rfl rfl) ?_
    refine GoH.regionEnd ?_
    refine GoH.ret Tryd.f4 Tryd.func4 rfl (fun w' hS => ?_)
    exact ⟨hS.ext, rfl⟩
  · -- no
    refine GoH.v (Vop.ldB rfl rfl rfl rfl Tryd.isAgg25 0 rfl Tryd.sizeOf25 rfl) ?_
    refine GoH.callM _ rfl rfl rfl rfl rfl (fun _ _ => Tryd.call10 _ _) (fun w _ hS => few_c b 10 w (hb.ex0 hS.ext)) ?_
    rintro v w1 w2 Y' hS he ⟨y2, rfl⟩
    refine ⟨_, hS.later he, ?_⟩
    refine GoH.v (Vop.un rfl rfl rfl uNot rfl) ?_
    refine GoH.v (Vop.pickF rfl rfl rfl rfl rfl) ?_
    refine GoH.v (Vop.mv rfl rfl rfl rfl) ?_
    -- guard on slot 15 (law.go:55)
    refine GoH.cases (d := 15) rfl (fun hc => ?_) (fun hc => ?_)
    · -- yes
      refine GoH.no rfl rfl rfl rfl ?_
      refine GoH.no rfl rfl rfl rfl ?_
      refine GoH.no rfl rfl rfl rfl ?_
      refine GoH.v (Vop.pickT rfl rfl rfl rfl rfl) ?_
      refine GoH.regionEnd ?_
      refine GoH.condT rfl ?_
      refine GoH.seq ?_
      refine GoH.region ?_
      refine GoH.callP rfl rfl rfl rfl rfl (fun _ _ => Tryd.call11 _ _) (fun w _ hS => awake19_c w (hT.ex hS.ext)) ?_
      refine GoH.v (Vop.asg rfl rfl rfl rfl) ?_
      refine GoH.regionEnd ?_
      refine GoH.ret Tryd.f4 Tryd.func4 rfl (fun w' hS => ?_)
      exact ⟨hS.ext, rfl⟩
    · -- no
      refine GoH.v (Vop.mv rfl rfl rfl rfl) ?_
      refine GoH.v (Vop.blt rfl rfl rfl (blt_len_slice Tryd.underlying22) rfl) ?_
      refine GoH.v (Vop.bin rfl rfl rfl rfl bGt rfl) ?_
      refine GoH.v (Vop.pickF rfl rfl rfl rfl rfl) ?_
      refine GoH.regionEnd ?_
      refine GoH.cond rfl (fun hc => ?_) (fun hc => ?_)
      · -- yes
        refine GoH.seq ?_
        refine GoH.region ?_
        refine GoH.callP rfl rfl rfl rfl rfl (fun _ _ => Tryd.call11 _ _) (fun w _ hS => awake19_c w (hT.ex hS.ext)) ?_
        refine GoH.v (Vop.asg rfl rfl rfl rfl) ?_
        refine GoH.regionEnd ?_
        refine GoH.ret Tryd.f4 Tryd.func4 rfl (fun w' hS => ?_)
        exact ⟨hS.ext, rfl⟩
      · -- no
        refine GoH.skip ?_
        refine GoH.seq ?_
        refine GoH.draw 13 mixed rfl ?_
        refine RdGo.v (Vop.ldB rfl rfl rfl rfl Tryd.isAgg25 1 rfl Tryd.sizeOf25 rfl) ?_
        refine RdGo.v (Vop.ldB rfl rfl rfl rfl Tryd.isAgg25 0 rfl Tryd.sizeOf25 rfl) ?_
        refine RdGo.v (Vop.mv rfl rfl rfl rfl) ?_
        refine RdGo.callP rfl rfl rfl rfl rfl (fun _ _ => Tryd.call19 _ _) (fun w _ hS => bcheck_c a b za zc z w (hT.ex hS.ext) (ha.ex0 hS.ext) (hb.ex0 hS.ext) (hz.ex0 hS.ext) hzm) ?_
        refine RdGo.v (Vop.ldB rfl rfl rfl rfl Tryd.isAgg25 1 rfl Tryd.sizeOf25 rfl) ?_
        refine RdGo.v (Vop.ldB rfl rfl rfl rfl Tryd.isAgg25 0 rfl Tryd.sizeOf25 rfl) ?_
        refine RdGo.v (Vop.mv rfl rfl rfl rfl) ?_
        refine RdGo.callP rfl rfl rfl rfl rfl (fun _ _ => Tryd.call20 _ _) (fun w _ hS => rcheck_c a b za zc z w (ha.ex0 hS.ext) (hb.ex0 hS.ext) (hz.ex0 hS.ext) hzm) ?_
        refine RdGo.v (Vop.bin rfl rfl rfl rfl (bEqV (v := true) (beq_self_eq_true _)) rfl) ?_
        refine RdGo.v (Vop.mv rfl rfl rfl rfl) ?_
        refine RdGo.callP rfl rfl rfl rfl rfl (fun _ _ => Tryd.call11 _ _) (fun w _ hS => awake19_c w (hT.ex hS.ext)) ?_
        refine RdGo.v (Vop.pickT rfl rfl rfl rfl rfl) ?_
        refine RdGo.v (Vop.asg rfl rfl rfl rfl) ?_
        refine RdGo.nil ?_
        refine GoH.regionEnd ?_
        refine GoH.ret Tryd.f4 Tryd.func4 rfl (fun w' hS => ?_)
        exact ⟨hS.ext, rfl⟩
set_option maxRecDepth 4000 in
theorem bisimBetween_c (a b : MV) (v x : Int) (w : World) (hT : Tab w) (ha : a.At w) (hb : b.At w) : Cn Tryd.prog 5 [a.v, b.v, .agg #[.int .i64 v, .int .i64 x]] w (fun v _ => v = .bool true) := by
  refine Cn.of Tryd.func5 rfl rfl ?_
  refine GoH.seq ?_
  refine GoH.region ?_
  refine GoH.bx rfl rfl rfl rfl (fun b3 => ?_)
  refine GoH.bx rfl rfl rfl rfl (fun b4 => ?_)
  refine GoH.bx rfl rfl rfl rfl (fun b5 => ?_)
  refine GoH.v (Vop.asg rfl rfl rfl rfl) ?_
  refine GoH.regionEnd ?_
  refine GoH.seq ?_
  refine GoH.seq ?_
  refine GoH.region ?_
  refine GoH.v (Vop.ldB rfl rfl rfl rfl Tryd.isAgg25 2 rfl Tryd.sizeOf25 rfl) ?_
  refine GoH.callM _ rfl rfl rfl rfl rfl (fun _ _ => Tryd.call10 _ _) (fun w _ hS => few_c a 10 w (ha.ex0 hS.ext)) ?_
  rintro v w1 w2 Y' hS he ⟨y1, rfl⟩
  refine ⟨_, hS.later he, ?_⟩
  refine GoH.v (Vop.un rfl rfl rfl uNot rfl) ?_
  refine GoH.v (Vop.mv rfl rfl rfl rfl) ?_
  -- guard on slot 18 (law.go:69)
  refine GoH.cases (d := 18) rfl (fun hc => ?_) (fun hc => ?_)
  · -- yes
    refine GoH.no rfl rfl rfl rfl ?_
    refine GoH.no rfl rfl rfl rfl ?_
    refine GoH.no rfl rfl rfl rfl ?_
    refine GoH.v (Vop.pickT rfl rfl rfl rfl rfl) ?_
    refine GoH.regionEnd ?_
    refine GoH.condT rfl ?_
    refine GoH.seq ?_
    refine GoH.region ?_
    refine GoH.callP rfl rfl rfl rfl rfl (fun _ _ => Tryd.call11 _ _) (fun w _ hS => awake19_c w (hT.ex hS.ext)) ?_
    refine GoH.v (Vop.asg rfl rfl rfl rfl) ?_
    refine GoH.regionEnd ?_
    refine GoH.ret Tryd.f5 Tryd.func5 rfl (fun w' hS => ?_)
    exact ⟨hS.ext, rfl⟩
  · -- no
    refine GoH.v (Vop.ldB rfl rfl rfl rfl Tryd.isAgg25 1 rfl Tryd.sizeOf25 rfl) ?_
    refine GoH.callM _ rfl rfl rfl rfl rfl (fun _ _ => Tryd.call10 _ _) (fun w _ hS => few_c b 10 w (hb.ex0 hS.ext)) ?_
    rintro v w1 w2 Y' hS he ⟨y2, rfl⟩
    refine ⟨_, hS.later he, ?_⟩
    refine GoH.v (Vop.un rfl rfl rfl uNot rfl) ?_
    refine GoH.v (Vop.pickF rfl rfl rfl rfl rfl) ?_
    refine GoH.regionEnd ?_
    refine GoH.cond rfl (fun hc => ?_) (fun hc => ?_)
    · -- yes
      refine GoH.seq ?_
      refine GoH.region ?_
      refine GoH.callP rfl rfl rfl rfl rfl (fun _ _ => Tryd.call11 _ _) (fun w _ hS => awake19_c w (hT.ex hS.ext)) ?_
      refine GoH.v (Vop.asg rfl rfl rfl rfl) ?_
      refine GoH.regionEnd ?_
      refine GoH.ret Tryd.f5 Tryd.func5 rfl (fun w' hS => ?_)
      exact ⟨hS.ext, rfl⟩
    · -- no
      refine GoH.skip ?_
      refine GoH.seq ?_
      refine GoH.region ?_
      refine GoH.v (Vop.ldB rfl rfl rfl rfl Tryd.isAgg25 2 rfl Tryd.sizeOf25 rfl) ?_
      refine GoH.v (Vop.ldB rfl rfl rfl rfl Tryd.isAgg25 1 rfl Tryd.sizeOf25 rfl) ?_
      refine GoH.callM _ rfl rfl rfl rfl rfl (fun _ _ => Tryd.call21 _ _) (fun w _ hS => between_c a b w (hT.ex hS.ext) (ha.ex0 hS.ext) (hb.ex0 hS.ext)) ?_
      rintro r w1 w2 Y' hS he ⟨sv, z, rfl, ho, hz⟩
      obtain ⟨q7, cap7, sp7, rfl, hq7, hcap7, hS'⟩ := gainS hS he ho
      refine ⟨_, hS', ?_⟩
      -- heap: q7 b5 b4 b3
      refine GoH.v (Vop.mv rfl rfl rfl rfl) ?_
      refine GoH.v (Vop.ext rfl rfl rfl rfl rfl) ?_
      refine GoH.v (Vop.ext rfl rfl rfl rfl rfl) ?_
      refine GoH.v (Vop.asg rfl rfl rfl rfl) ?_
      refine GoH.v (Vop.asg rfl rfl rfl rfl) ?_
      refine GoH.regionEnd ?_
      refine GoH.seq ?_
      refine GoH.region ?_
      refine GoH.v (Vop.ldB rfl rfl rfl rfl Tryd.isAgg25 3 rfl Tryd.sizeOf25 rfl) ?_
      refine GoH.v (Vop.ldB rfl rfl rfl rfl Tryd.isAgg25 2 rfl Tryd.sizeOf25 rfl) ?_
      refine GoH.callM _ rfl rfl rfl rfl rfl (fun _ _ => Tryd.call22 _ _) (fun w _ hS => rbetween_c a b w (ha.ex0 hS.ext) (hb.ex0 hS.ext)) ?_
      rintro r w1 w2 Y' hS he ⟨sv, z2, rfl, ho, hz2⟩
      obtain rfl := hz.uniq hz2
      obtain ⟨q9, cap9, sp9, rfl, hq9, hcap9, hS'⟩ := gainS hS he ho
      refine ⟨_, hS', ?_⟩
      -- heap: q9 q7 b5 b4 b3
      refine GoH.v (Vop.mv rfl rfl rfl rfl) ?_
      refine GoH.v (Vop.ext rfl rfl rfl rfl rfl) ?_
      refine GoH.v (Vop.ext rfl rfl rfl rfl rfl) ?_
      refine GoH.v (Vop.asg rfl rfl rfl rfl) ?_
      refine GoH.v (Vop.asg rfl rfl rfl rfl) ?_
      refine GoH.regionEnd ?_
      refine GoH.seq ?_
      refine GoH.region ?_
      refine GoH.v (Vop.ldB rfl rfl rfl rfl Tryd.isAgg25 4 rfl Tryd.sizeOf25 rfl) ?_
      refine GoH.v (Vop.fldP rfl rfl rfl rfl Tryd.underlying38 rfl (by exact Tryd.sizeOf3) 0 rfl) ?_
      refine GoH.v (Vop.ldo rfl rfl rfl rfl Tryd.isAgg3 2 rfl rfl) ?_
      refine GoH.v (Vop.ldB rfl rfl rfl rfl Tryd.isAgg25 3 rfl Tryd.sizeOf25 rfl) ?_
      refine GoH.v (Vop.fldP rfl rfl rfl rfl Tryd.underlying38 rfl (by exact Tryd.sizeOf3) 1 rfl) ?_
      refine GoH.v (Vop.ldo rfl rfl rfl rfl Tryd.isAgg3 2 rfl rfl) ?_
      refine GoH.callM _ rfl rfl rfl rfl rfl (fun _ _ => Tryd.call23 _ _) (fun w _ hS => bisimilar_c a b v x w (hT.ex hS.ext) (ha.ex0 hS.ext) (hb.ex0 hS.ext)) ?_
      rintro r w1 w2 Y' hS he ⟨y11, rfl, hy11⟩
      refine ⟨_, hS.later he, ?_⟩
      refine GoH.v (Vop.mv rfl rfl rfl rfl) ?_
      refine GoH.v (Vop.ext rfl rfl rfl rfl rfl) ?_
      refine GoH.v (Vop.ext rfl rfl rfl rfl rfl) ?_
      refine GoH.v (Vop.asg rfl rfl rfl rfl) ?_
      refine GoH.v (Vop.asg rfl rfl rfl rfl) ?_
      refine GoH.regionEnd ?_
      refine GoH.seq ?_
      refine GoH.region ?_
      refine GoH.v (Vop.ldB rfl rfl rfl rfl Tryd.isAgg25 4 rfl Tryd.sizeOf25 rfl) ?_
      refine GoH.v (Vop.fldP rfl rfl rfl rfl Tryd.underlying38 rfl (by exact Tryd.sizeOf3) 0 rfl) ?_
      refine GoH.v (Vop.ldo rfl rfl rfl rfl Tryd.isAgg3 2 rfl rfl) ?_
      refine GoH.v (Vop.ldB rfl rfl rfl rfl Tryd.isAgg25 3 rfl Tryd.sizeOf25 rfl) ?_
      refine GoH.v (Vop.fldP rfl rfl rfl rfl Tryd.underlying38 rfl (by exact Tryd.sizeOf3) 1 rfl) ?_
      refine GoH.v (Vop.ldo rfl rfl rfl rfl Tryd.isAgg3 2 rfl rfl) ?_
      refine GoH.callM _ rfl rfl rfl rfl rfl (fun _ _ => Tryd.call24 _ _) (fun w _ hS => rbisimilar_c a b v x w (ha.ex0 hS.ext) (hb.ex0 hS.ext)) ?_
      rintro r w1 w2 Y' hS he ⟨y13, rfl, hy13⟩
      obtain rfl : y11 = y13 := by
        by_cases e : bisE a.n a.val a.rel b.n b.val b.rel v x = 0
        · rw [hy11.2 e z hz, hy13.2 e z hz]
        · rw [hy11.1 e, hy13.1 e]
      refine ⟨_, hS.later he, ?_⟩
      refine GoH.v (Vop.mv rfl rfl rfl rfl) ?_
      refine GoH.v (Vop.ext rfl rfl rfl rfl rfl) ?_
      refine GoH.v (Vop.ext rfl rfl rfl rfl rfl) ?_
      refine GoH.v (Vop.asg rfl rfl rfl rfl) ?_
      refine GoH.v (Vop.asg rfl rfl rfl rfl) ?_
      refine GoH.regionEnd ?_
      refine GoH.seq ?_
      refine GoH.region ?_
      refine GoH.v (Vop.mv rfl rfl rfl rfl) ?_
      refine GoH.v (Vop.mv rfl rfl rfl rfl) ?_
      refine GoH.callP rfl rfl rfl rfl rfl (fun _ _ => Tryd.call25 _ _) (fun w _ hS => (by exact equalUT_c (q7.map (fun b => ⟨b, 0, none⟩)) cap7 z (q9.map (fun b => ⟨b, 0, none⟩)) cap9 z w (sluAt hS 1 rfl hq7) (sluAt hS 0 rfl hq9) rfl (bet_mx hz))) ?_
      refine GoH.v (Vop.mv rfl rfl rfl rfl) ?_
      refine GoH.v (Vop.mv rfl rfl rfl rfl) ?_
      refine GoH.v (Vop.mv rfl rfl rfl rfl) ?_
      refine GoH.v (Vop.bin rfl rfl rfl rfl (bEqV (v := true) (beq_self_eq_true _)) rfl) ?_
      refine GoH.v (Vop.pickT rfl rfl rfl rfl rfl) ?_
      refine GoH.v (Vop.mv rfl rfl rfl rfl) ?_
      refine GoH.v (Vop.mv rfl rfl rfl rfl) ?_
      refine GoH.v (Vop.mv rfl rfl rfl rfl) ?_
      refine GoH.v (Vop.bin rfl rfl rfl rfl (bEqBV (v := true) Tryd.underlying4 (beq_self_eq_true _)) rfl) ?_
      refine GoH.v (Vop.pickT rfl rfl rfl rfl rfl) ?_
      refine GoH.v (Vop.mv rfl rfl rfl rfl) ?_
      refine GoH.v (Vop.mv rfl rfl rfl rfl) ?_
      refine GoH.v (Vop.mv rfl rfl rfl rfl) ?_
      refine GoH.v (Vop.bin rfl rfl rfl rfl (bEqV (v := true) (beq_self_eq_true _)) rfl) ?_
      refine GoH.v (Vop.pickT rfl rfl rfl rfl rfl) ?_
      refine GoH.v (Vop.mv rfl rfl rfl rfl) ?_
      refine GoH.callP rfl rfl rfl rfl rfl (fun _ _ => Tryd.call11 _ _) (fun w _ hS => awake19_c w (hT.ex hS.ext)) ?_
      refine GoH.v (Vop.pickT rfl rfl rfl rfl rfl) ?_
      refine GoH.v (Vop.asg rfl rfl rfl rfl) ?_
      refine GoH.regionEnd ?_
      refine GoH.ret Tryd.f5 Tryd.func5 rfl (fun w' hS => ?_)
      exact ⟨hS.ext, rfl⟩
set_option maxRecDepth 4000 in
theorem bisimGreatest_c (a b : MV) (za : Option Addr) (zc : Nat) (z : List W64) (w : World) (hT : Tab w) (ha : a.At w) (hb : b.At w) (hz : SlU w za z) (hzm : z.length ≤ maxLen) : Cn Tryd.prog 6 [a.v, b.v, .slice za z.length zc] w (fun v _ => v = .bool true) := by
  unfold maxLen at hzm
  refine Cn.of Tryd.func6 rfl rfl ?_
  refine GoH.seq ?_
  refine GoH.region ?_
  refine GoH.bx rfl rfl rfl rfl (fun b3 => ?_)
  refine GoH.bx rfl rfl rfl rfl (fun b4 => ?_)
  refine GoH.v (Vop.asg rfl rfl rfl rfl) ?_
  refine GoH.regionEnd ?_
  refine GoH.seq ?_
  refine GoH.seq ?_
  refine GoH.region ?_
  refine GoH.v (Vop.ldB rfl rfl rfl rfl Tryd.isAgg25 1 rfl Tryd.sizeOf25 rfl) ?_
  refine GoH.callM _ rfl rfl rfl rfl rfl (fun _ _ => Tryd.call10 _ _) (fun w _ hS => few_c a 8 w (ha.ex0 hS.ext)) ?_
  rintro v w1 w2 Y' hS he ⟨y1, rfl⟩
  refine ⟨_, hS.later he, ?_⟩
  refine GoH.v (Vop.un rfl rfl rfl uNot rfl) ?_
  refine GoH.v (Vop.mv rfl rfl rfl rfl) ?_
  -- guard on slot 13 (law.go:91)
  refine GoH.cases (d := 13) rfl (fun hc => ?_) (fun hc => ?_)
  · -- yes
    refine GoH.no rfl rfl rfl rfl ?_
    refine GoH.no rfl rfl rfl rfl ?_
    refine GoH.no rfl rfl rfl rfl ?_
    refine GoH.v (Vop.pickT rfl rfl rfl rfl rfl) ?_
    refine GoH.v (Vop.mv rfl rfl rfl rfl) ?_
    refine GoH.no rfl rfl rfl rfl ?_
    refine GoH.no rfl rfl rfl rfl ?_
    refine GoH.no rfl rfl rfl rfl ?_
    refine GoH.v (Vop.pickT rfl rfl rfl rfl rfl) ?_
    refine GoH.v (Vop.mv rfl rfl rfl rfl) ?_
    refine GoH.no rfl rfl rfl rfl ?_
    refine GoH.no rfl rfl rfl rfl ?_
    refine GoH.no rfl rfl rfl rfl ?_
    refine GoH.no rfl rfl rfl rfl ?_
    refine GoH.no rfl rfl rfl rfl ?_
    refine GoH.v (Vop.pickT rfl rfl rfl rfl rfl) ?_
    refine GoH.regionEnd ?_
    refine GoH.condT rfl ?_
    refine GoH.seq ?_
    refine GoH.region ?_
    refine GoH.callP rfl rfl rfl rfl rfl (fun _ _ => Tryd.call11 _ _) (fun w _ hS => awake19_c w (hT.ex hS.ext)) ?_
    refine GoH.v (Vop.asg rfl rfl rfl rfl) ?_
    refine GoH.regionEnd ?_
    refine GoH.ret Tryd.f6 Tryd.func6 rfl (fun w' hS => ?_)
    exact ⟨hS.ext, rfl⟩
  · -- no
    refine GoH.v (Vop.ldB rfl rfl rfl rfl Tryd.isAgg25 0 rfl Tryd.sizeOf25 rfl) ?_
    refine GoH.callM _ rfl rfl rfl rfl rfl (fun _ _ => Tryd.call10 _ _) (fun w _ hS => few_c b 8 w (hb.ex0 hS.ext)) ?_
    rintro v w1 w2 Y' hS he ⟨y2, rfl⟩
    refine ⟨_, hS.later he, ?_⟩
    refine GoH.v (Vop.un rfl rfl rfl uNot rfl) ?_
    refine GoH.v (Vop.pickF rfl rfl rfl rfl rfl) ?_
    refine GoH.v (Vop.mv rfl rfl rfl rfl) ?_
    -- guard on slot 18 (law.go:91)
    refine GoH.cases (d := 18) rfl (fun hc => ?_) (fun hc => ?_)
    · -- yes
      refine GoH.no rfl rfl rfl rfl ?_
      refine GoH.no rfl rfl rfl rfl ?_
      refine GoH.no rfl rfl rfl rfl ?_
      refine GoH.v (Vop.pickT rfl rfl rfl rfl rfl) ?_
      refine GoH.v (Vop.mv rfl rfl rfl rfl) ?_
      refine GoH.no rfl rfl rfl rfl ?_
      refine GoH.no rfl rfl rfl rfl ?_
      refine GoH.no rfl rfl rfl rfl ?_
      refine GoH.no rfl rfl rfl rfl ?_
      refine GoH.no rfl rfl rfl rfl ?_
      refine GoH.v (Vop.pickT rfl rfl rfl rfl rfl) ?_
      refine GoH.regionEnd ?_
      refine GoH.condT rfl ?_
      refine GoH.seq ?_
      refine GoH.region ?_
      refine GoH.callP rfl rfl rfl rfl rfl (fun _ _ => Tryd.call11 _ _) (fun w _ hS => awake19_c w (hT.ex hS.ext)) ?_
      refine GoH.v (Vop.asg rfl rfl rfl rfl) ?_
      refine GoH.regionEnd ?_
      refine GoH.ret Tryd.f6 Tryd.func6 rfl (fun w' hS => ?_)
      exact ⟨hS.ext, rfl⟩
    · -- no
      refine GoH.v (Vop.mv rfl rfl rfl rfl) ?_
      refine GoH.v (Vop.blt rfl rfl rfl (blt_len_slice Tryd.underlying22) rfl) ?_
      refine GoH.v (Vop.bin rfl rfl rfl rfl bGt rfl) ?_
      refine GoH.v (Vop.pickF rfl rfl rfl rfl rfl) ?_
      refine GoH.v (Vop.mv rfl rfl rfl rfl) ?_
      -- guard on slot 23 (law.go:91)
      refine GoH.cases (d := 23) rfl (fun hc => ?_) (fun hc => ?_)
      · -- yes
        refine GoH.no rfl rfl rfl rfl ?_
        refine GoH.no rfl rfl rfl rfl ?_
        refine GoH.no rfl rfl rfl rfl ?_
        refine GoH.no rfl rfl rfl rfl ?_
        refine GoH.no rfl rfl rfl rfl ?_
        refine GoH.v (Vop.pickT rfl rfl rfl rfl rfl) ?_
        refine GoH.regionEnd ?_
        refine GoH.condT rfl ?_
        refine GoH.seq ?_
        refine GoH.region ?_
        refine GoH.callP rfl rfl rfl rfl rfl (fun _ _ => Tryd.call11 _ _) (fun w _ hS => awake19_c w (hT.ex hS.ext)) ?_
        refine GoH.v (Vop.asg rfl rfl rfl rfl) ?_
        refine GoH.regionEnd ?_
        refine GoH.ret Tryd.f6 Tryd.func6 rfl (fun w' hS => ?_)
        exact ⟨hS.ext, rfl⟩
      · -- no
        refine GoH.v (Vop.ldB rfl rfl rfl rfl Tryd.isAgg25 1 rfl Tryd.sizeOf25 rfl) ?_
        refine GoH.v (Vop.ldB rfl rfl rfl rfl Tryd.isAgg25 0 rfl Tryd.sizeOf25 rfl) ?_
        refine GoH.v (Vop.mv rfl rfl rfl rfl) ?_
        refine GoH.callP rfl rfl rfl rfl rfl (fun _ _ => Tryd.call19 _ _) (fun w _ hS => bcheck_c a b za zc z w (hT.ex hS.ext) (ha.ex0 hS.ext) (hb.ex0 hS.ext) (hz.ex0 hS.ext) (by unfold maxLen; omega)) ?_
        refine GoH.v (Vop.bin rfl rfl rfl rfl bNe rfl) ?_
        refine GoH.v (Vop.pickF rfl rfl rfl rfl rfl) ?_
        refine GoH.regionEnd ?_
        refine GoH.cond rfl (fun hc => ?_) (fun hc => ?_)
        · -- yes
          refine GoH.seq ?_
          refine GoH.region ?_
          refine GoH.callP rfl rfl rfl rfl rfl (fun _ _ => Tryd.call11 _ _) (fun w _ hS => awake19_c w (hT.ex hS.ext)) ?_
          refine GoH.v (Vop.asg rfl rfl rfl rfl) ?_
          refine GoH.regionEnd ?_
          refine GoH.ret Tryd.f6 Tryd.func6 rfl (fun w' hS => ?_)
          exact ⟨hS.ext, rfl⟩
        · -- no
          have hz0 : chkE a.n a.val a.rel b.n b.val b.rel z = 0 := by simpa using hc
          obtain ⟨h1, h2, h3, h4⟩ := chkE_zero.1 hz0
          obtain ⟨hva, hvb, hlr, hlv⟩ := bothE_zero.1 h1
          have hb64 := hvb.n64
          have hb1 := hvb.n1
          have hrng := (outB_rng (n := b.n.toNat) (by omega)).1 h3
          refine GoH.skip ?_
          refine GoH.seq ?_
          refine GoH.region ?_
          refine GoH.v (Vop.ldB rfl rfl rfl rfl Tryd.isAgg25 1 rfl Tryd.sizeOf25 rfl) ?_
          refine GoH.v (Vop.ldB rfl rfl rfl rfl Tryd.isAgg25 0 rfl Tryd.sizeOf25 rfl) ?_
          refine GoH.callM _ rfl rfl rfl rfl rfl (fun _ _ => Tryd.call21 _ _) (fun w _ hS => between_c a b w (hT.ex hS.ext) (ha.ex0 hS.ext) (hb.ex0 hS.ext)) ?_
          rintro r w1 w2 Y' hS he ⟨sv, y, rfl, ho, hy⟩
          obtain ⟨q7, cap7, sp7, rfl, hq7, hcap7, hS'⟩ := gainS hS he ho
          have hg := hy.2 h1
          have hyl := hg.len
          have hyz : y.length = z.length := by omega
          have hle := hg.top z (by omega) hrng h4
          have hy0 : chkE a.n a.val a.rel b.n b.val b.rel y = 0 := chkE_zero.2 ⟨h1, by omega, (outB_rng (by omega)).2 hg.rng, hg.sim⟩
          refine ⟨_, hS', ?_⟩
          -- heap: q7 b4 b3
          refine GoH.v (Vop.mv rfl rfl rfl rfl) ?_
          refine GoH.v (Vop.ext rfl rfl rfl rfl rfl) ?_
          refine GoH.v (Vop.ext rfl rfl rfl rfl rfl) ?_
          refine GoH.v (Vop.asg rfl rfl rfl rfl) ?_
          refine GoH.v (Vop.asg rfl rfl rfl rfl) ?_
          refine GoH.regionEnd ?_
          refine GoH.seq ?_
          refine GoH.seq ?_
          refine GoH.region ?_
          refine GoH.v (Vop.mv rfl rfl rfl rfl) ?_
          refine GoH.v (Vop.bin rfl rfl rfl rfl (bNeV (v := false) (by rw [h1]; rfl)) rfl) ?_
          refine GoH.v (Vop.mv rfl rfl rfl rfl) ?_
          refine GoH.v (Vop.mv rfl rfl rfl rfl) ?_
          refine GoH.v (Vop.blt rfl rfl rfl (blt_len_slice Tryd.underlying22) rfl) ?_
          refine GoH.v (Vop.mv rfl rfl rfl rfl) ?_
          refine GoH.v (Vop.blt rfl rfl rfl (blt_len_slice Tryd.underlying22) rfl) ?_
          refine GoH.v (Vop.bin rfl rfl rfl rfl (bNeV (v := false) (by rw [hyz]; simp)) rfl) ?_
          refine GoH.v (Vop.pickF rfl rfl rfl rfl rfl) ?_
          refine GoH.v (Vop.mv rfl rfl rfl rfl) ?_
          refine GoH.v (Vop.ldB rfl rfl rfl rfl Tryd.isAgg25 2 rfl Tryd.sizeOf25 rfl) ?_
          refine GoH.v (Vop.ldB rfl rfl rfl rfl Tryd.isAgg25 1 rfl Tryd.sizeOf25 rfl) ?_
          refine GoH.v (Vop.mv rfl rfl rfl rfl) ?_
          refine GoH.callP rfl rfl rfl rfl rfl (fun _ _ => Tryd.call19 _ _) (fun w _ hS => (by exact bcheck_c a b (q7.map (fun b => ⟨b, 0, none⟩)) cap7 y w (hT.ex hS.ext) (ha.ex0 hS.ext) (hb.ex0 hS.ext) (sluAt hS 0 rfl hq7) (by unfold maxLen; omega))) ?_
          refine GoH.v (Vop.bin rfl rfl rfl rfl (bNeV (v := false) (by rw [hy0]; rfl)) rfl) ?_
          refine GoH.v (Vop.pickF rfl rfl rfl rfl rfl) ?_
          refine GoH.regionEnd ?_
          refine GoH.condF rfl ?_
          refine GoH.skip ?_
          refine GoH.seq ?_
          refine GoH.seq ?_
          refine GoH.region ?_
          refine GoH.v (Vop.mv rfl rfl rfl rfl) ?_
          refine GoH.v (Vop.blt rfl rfl rfl (blt_len_slice Tryd.underlying22) rfl) ?_
          refine GoH.v (Vop.mv rfl rfl rfl rfl) ?_
          refine GoH.regionEnd ?_
          refine GoH.block ?_
          refine GoH.loop (σ := Nat) (fun k => [(2, .slice za z.length zc), (7, osv q7 y.length cap7), (54, .int .i64 z.length), (55, .int .i64 k)]) (fun _ => [(q7, ob U 44 y sp7), (some b4, .cells b.v.cells 25 (0, 0)), (some b3, .cells a.v.cells 25 (0, 0))]) (fun k => k ≤ z.length) (fun k => z.length - k) 0 (Nat.zero_le _) ⟨rfl, rfl, rfl, rfl, trivial⟩ (List.Sublist.refl _) (fun k hI IH => ?_)
          -- heap: q7 b4 b3
          refine GoH.seq ?_
          refine GoH.region ?_
          refine GoH.v (Vop.bin rfl rfl rfl rfl bLt rfl) ?_
          refine GoH.regionEnd ?_
          refine GoH.seq ?_
          refine GoH.cond rfl (fun hc => ?_) (fun hc => ?_)
          · -- yes
            have hlt : k < z.length := by simpa using hc
            have hly : k < y.length := by omega
            obtain ⟨b0, rfl⟩ : ∃ b0, q7 = some b0 := by
              cases q7 with
              | none => have := (hq7 rfl).1; omega
              | some b0 => exact ⟨b0, rfl⟩
            refine GoH.skip ?_
            refine GoH.seq ?_
            refine GoH.block ?_
            refine GoH.seq ?_
            refine GoH.region ?_
            refine GoH.v (Vop.mv rfl rfl rfl rfl) ?_
            refine GoH.v (Vop.asg rfl rfl rfl rfl) ?_
            refine GoH.regionEnd ?_
            refine GoH.seq ?_
            refine GoH.draw 10 mixed rfl ?_
            refine RdGo.v (Vop.mv rfl rfl rfl rfl) ?_
            refine RdGo.v (Vop.mv rfl rfl rfl rfl) ?_
            refine RdGo.v (Vop.idx rfl rfl rfl rfl rfl Tryd.underlying22 Tryd.sizeOf44 ⟨_, hz⟩ (by simp) (k) ⟨rfl, by simpa using hlt⟩) ?_
            refine RdGo.v (Vop.ld rfl rfl rfl rfl Tryd.isAgg44 (fun w _ hS => (SlU.ex0 hz hS.ext).at (k) hlt)) ?_
            refine RdGo.v (Vop.mv rfl rfl rfl rfl) ?_
            refine RdGo.v (Vop.mv rfl rfl rfl rfl) ?_
            refine RdGo.v (Vop.idxS rfl rfl rfl rfl rfl Tryd.underlying22 Tryd.sizeOf44 (k) ⟨rfl, hly⟩) ?_
            refine RdGo.v (Vop.ldE U 0#64 rfl rfl rfl rfl Tryd.isAgg44 0 rfl hly) ?_
            refine RdGo.v (Vop.bin rfl rfl rfl rfl bAndNot rfl) ?_
            refine RdGo.v (Vop.bin (b := U 0#64) rfl rfl rfl rfl (bNeUV (v := false) (by rw [andNot_zero.2 (fun i hi => hle k i hi)]; rfl)) rfl) ?_
            refine RdGo.nil ?_
            refine GoH.regionEnd ?_
            refine GoH.condF rfl ?_
            refine GoH.skip ?_
            refine GoH.inBlock ?_
            refine GoH.region ?_
            refine GoH.v (Vop.bin rfl rfl rfl rfl (bAdd (by omega)) rfl) ?_
            refine GoH.v (Vop.mv rfl rfl rfl rfl) ?_
            refine GoH.regionEnd ?_
            exact IH (k + 1) _ _ hlt (by omega) ⟨rfl, rfl, rfl, rfl, trivial⟩ (List.Sublist.refl _)
          · -- no
            refine GoH.exit rfl ?_
            refine GoH.seq ?_
            refine GoH.region ?_
            refine GoH.callP rfl rfl rfl rfl rfl (fun _ _ => Tryd.call11 _ _) (fun w _ hS => awake19_c w (hT.ex hS.ext)) ?_
            refine GoH.v (Vop.asg rfl rfl rfl rfl) ?_
            refine GoH.regionEnd ?_
            refine GoH.ret Tryd.f6 Tryd.func6 rfl (fun w' hS => ?_)
            exact ⟨hS.ext, rfl⟩
end Go.Proofs.YtpifbcbdbkbbjaaDoor
