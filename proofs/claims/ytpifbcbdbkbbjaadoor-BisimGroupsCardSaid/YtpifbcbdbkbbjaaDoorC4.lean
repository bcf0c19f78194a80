/- Contracts of functions of the program: what each call returns and that nothing else of memory is turned, under the conditions that each theorem states. -/
import Derived.Test.YtpifbcbdbkbbjaaDoorC3
namespace Go.Proofs.YtpifbcbdbkbbjaaDoor
open Go.RowKit Go.Proofs.Wit
/-! the reference's bisimulations -/
theorem rfits_c (a b : MV) (w : World) (ha : a.At w) (hb : b.At w) : Cn Tryd.prog 41 [a.v, b.v] w (fun v _ => v = .int .i64 (bothE a.n a.val a.rel b.n b.val b.rel)) := by
  have hra : a.rel.length = a.rows.length := by simp [MV.rel]
  have hrb : b.rel.length = b.rows.length := by simp [MV.rel]
  refine Cn.of Tryd.func41 rfl rfl ?_
  refine GoH.seq ?_
  refine GoH.region ?_
  refine GoH.bx rfl rfl rfl rfl (fun b2 => ?_)
  refine GoH.bx rfl rfl rfl rfl (fun b3 => ?_)
  refine GoH.v (Vop.asg rfl rfl rfl rfl) ?_
  refine GoH.regionEnd ?_
  refine GoH.seq ?_
  refine GoH.seq ?_
  refine GoH.region ?_
  refine GoH.v (Vop.ldB rfl rfl rfl rfl Tryd.isAgg25 1 rfl Tryd.sizeOf25 rfl) ?_
  refine GoH.callP rfl rfl rfl rfl rfl (fun _ _ => Tryd.call26 _ _) (fun w _ hS => (by exact rmCheck_c a w (ha.ex0 hS.ext))) ?_
  refine GoH.v (Vop.asg rfl rfl rfl rfl) ?_
  refine GoH.regionEnd ?_
  refine GoH.seq ?_
  refine GoH.region ?_
  refine GoH.v (Vop.mv rfl rfl rfl rfl) ?_
  refine GoH.v (Vop.bin rfl rfl rfl rfl bNe rfl) ?_
  refine GoH.regionEnd ?_
  refine GoH.cond rfl (fun hc => ?_) (fun hc => ?_)
  · -- yes
    have h1 : checkM a.n a.val a.rel ≠ 0 := by simpa using hc
    refine GoH.seq ?_
    refine GoH.region ?_
    refine GoH.v (Vop.mv rfl rfl rfl rfl) ?_
    refine GoH.v (Vop.asg rfl rfl rfl rfl) ?_
    refine GoH.regionEnd ?_
    refine GoH.ret Tryd.f41 Tryd.func41 rfl (fun w' hS => ?_)
    exact ⟨hS.ext, by rw [bothE, if_pos h1]; rfl⟩
  · -- no
    have h1 : checkM a.n a.val a.rel = 0 := by simpa using hc
    refine GoH.skip ?_
    refine GoH.seq ?_
    refine GoH.seq ?_
    refine GoH.region ?_
    refine GoH.v (Vop.ldB rfl rfl rfl rfl Tryd.isAgg25 0 rfl Tryd.sizeOf25 rfl) ?_
    refine GoH.callP rfl rfl rfl rfl rfl (fun _ _ => Tryd.call26 _ _) (fun w _ hS => (by exact rmCheck_c b w (hb.ex0 hS.ext))) ?_
    refine GoH.v (Vop.asg rfl rfl rfl rfl) ?_
    refine GoH.regionEnd ?_
    refine GoH.seq ?_
    refine GoH.region ?_
    refine GoH.v (Vop.mv rfl rfl rfl rfl) ?_
    refine GoH.v (Vop.bin rfl rfl rfl rfl bNe rfl) ?_
    refine GoH.regionEnd ?_
    refine GoH.cond rfl (fun hc => ?_) (fun hc => ?_)
    · -- yes
      have h2 : checkM b.n b.val b.rel ≠ 0 := by simpa using hc
      refine GoH.seq ?_
      refine GoH.region ?_
      refine GoH.v (Vop.mv rfl rfl rfl rfl) ?_
      refine GoH.v (Vop.asg rfl rfl rfl rfl) ?_
      refine GoH.regionEnd ?_
      refine GoH.ret Tryd.f41 Tryd.func41 rfl (fun w' hS => ?_)
      exact ⟨hS.ext, by rw [bothE, if_neg (by simp [h1]), if_pos h2]; rfl⟩
    · -- no
      have h2 : checkM b.n b.val b.rel = 0 := by simpa using hc
      refine GoH.skip ?_
      refine GoH.seq ?_
      refine GoH.seq ?_
      refine GoH.region ?_
      refine GoH.v (Vop.fldP rfl rfl rfl rfl Tryd.underlying25 rfl (by exact Tryd.sizeOf23) 2 rfl) ?_
      refine GoH.v (Vop.ldo (v := .slice a.ra a.rows.length a.rc) rfl rfl rfl rfl Tryd.isAgg23 1 rfl rfl) ?_
      refine GoH.v (Vop.blt rfl rfl rfl (blt_len_slice Tryd.underlying23) rfl) ?_
      refine GoH.v (Vop.fldP rfl rfl rfl rfl Tryd.underlying25 rfl (by exact Tryd.sizeOf23) 2 rfl) ?_
      refine GoH.v (Vop.ldo (v := .slice b.ra b.rows.length b.rc) rfl rfl rfl rfl Tryd.isAgg23 0 rfl rfl) ?_
      refine GoH.v (Vop.blt rfl rfl rfl (blt_len_slice Tryd.underlying23) rfl) ?_
      refine GoH.v (Vop.bin rfl rfl rfl rfl bNe rfl) ?_
      refine GoH.v (Vop.mv rfl rfl rfl rfl) ?_
      -- guard on slot 24 (ref.go:126)
      refine GoH.cases (d := 24) rfl (fun hc => ?_) (fun hc => ?_)
      · -- yes
        have h3 : a.rows.length ≠ b.rows.length := by simp at hc; omega
        refine GoH.no rfl rfl rfl rfl ?_
        refine GoH.no rfl rfl rfl rfl ?_
        refine GoH.no rfl rfl rfl rfl ?_
        refine GoH.no rfl rfl rfl rfl ?_
        refine GoH.no rfl rfl rfl rfl ?_
        refine GoH.no rfl rfl rfl rfl ?_
        refine GoH.no rfl rfl rfl rfl ?_
        refine GoH.v (Vop.pickT rfl rfl rfl rfl rfl) ?_
        refine GoH.regionEnd ?_
        refine GoH.condT rfl ?_
        refine GoH.seq ?_
        refine GoH.region ?_
        refine GoH.v (Vop.asg rfl rfl rfl rfl) ?_
        refine GoH.regionEnd ?_
        refine GoH.ret Tryd.f41 Tryd.func41 rfl (fun w' hS => ?_)
        exact ⟨hS.ext, by rw [bothE, if_neg (by simp [h1]), if_neg (by simp [h2]), if_pos (.inl (by omega))]; rfl⟩
      · -- no
        have h3 : a.rows.length = b.rows.length := by simp at hc; omega
        refine GoH.v (Vop.fldP rfl rfl rfl rfl Tryd.underlying25 rfl (by exact Tryd.sizeOf22) 1 rfl) ?_
        refine GoH.v (Vop.ldo (v := .slice a.va a.val.length a.vc) rfl rfl rfl rfl Tryd.isAgg22 1 rfl rfl) ?_
        refine GoH.v (Vop.blt rfl rfl rfl (blt_len_slice Tryd.underlying22) rfl) ?_
        refine GoH.v (Vop.fldP rfl rfl rfl rfl Tryd.underlying25 rfl (by exact Tryd.sizeOf22) 1 rfl) ?_
        refine GoH.v (Vop.ldo (v := .slice b.va b.val.length b.vc) rfl rfl rfl rfl Tryd.isAgg22 0 rfl rfl) ?_
        refine GoH.v (Vop.blt rfl rfl rfl (blt_len_slice Tryd.underlying22) rfl) ?_
        refine GoH.v (Vop.bin rfl rfl rfl rfl bNe rfl) ?_
        refine GoH.v (Vop.pickF rfl rfl rfl rfl rfl) ?_
        refine GoH.regionEnd ?_
        refine GoH.cond rfl (fun hc => ?_) (fun hc => ?_)
        · -- yes
          have h4 : a.val.length ≠ b.val.length := by simp at hc; omega
          refine GoH.seq ?_
          refine GoH.region ?_
          refine GoH.v (Vop.asg rfl rfl rfl rfl) ?_
          refine GoH.regionEnd ?_
          refine GoH.ret Tryd.f41 Tryd.func41 rfl (fun w' hS => ?_)
          exact ⟨hS.ext, by rw [bothE, if_neg (by simp [h1]), if_neg (by simp [h2]), if_pos (.inr (by omega))]; rfl⟩
        · -- no
          have h4 : a.val.length = b.val.length := by simp at hc; omega
          refine GoH.skip ?_
          refine GoH.seq ?_
          refine GoH.region ?_
          refine GoH.v (Vop.asg rfl rfl rfl rfl) ?_
          refine GoH.regionEnd ?_
          refine GoH.ret Tryd.f41 Tryd.func41 rfl (fun w' hS => ?_)
          exact ⟨hS.ext, by rw [bothE, if_neg (by simp [h1]), if_neg (by simp [h2]), if_neg (by omega)]; rfl⟩
set_option maxRecDepth 8000 in
theorem rforth_c (a b : MV) (za : Option Addr) (zc : Nat) (z : List W64) (i v x : Nat) (w : World) (ha : a.At w) (hb : b.At w) (hva : ValM a.n a.val a.rel) (hvb : ValM b.n b.val b.rel) (hlr : a.rel.length = b.rel.length)
    (hz : SlU w za z) (hzl : (z.length : Int) = a.n) (hi : i < a.rows.length) (hv : (v : Int) < a.n) (hx : (x : Int) < b.n) :
    Cn Tryd.prog 66 [a.v, b.v, .slice za z.length zc, .int .i64 i, .int .i64 v, .int .i64 x] w (fun r _ => r = .bool (forB (a.rel.getD i []) (b.rel.getD i []) z v x)) := by
  have hra : a.rel.length = a.rows.length := by simp [MV.rel]
  have hrb : b.rel.length = b.rows.length := by simp [MV.rel]
  have hn64 := hva.n64
  have hi2 : i < b.rows.length := by omega
  have hrowA := ha.row a.rows[i] (List.getElem_mem hi)
  have hrowB := hb.row b.rows[i] (List.getElem_mem hi2)
  have hrA : a.rows[i].xs ∈ a.rel := List.mem_map.2 ⟨_, List.getElem_mem hi, rfl⟩
  have hlA := hva.len a.rows[i].xs hrA
  have hlB := hvb.len b.rows[i].xs (List.mem_map.2 ⟨_, List.getElem_mem hi2, rfl⟩)
  have hpA := (hva.rels a.rows[i].xs hrA).pts v
  have hvr : v < a.rows[i].xs.length := by omega
  have hxr : x < b.rows[i].xs.length := by omega
  have hdA := relD hi
  have hdB := relD hi2
  rw [hdA, hdB]
  obtain ⟨s, hs⟩ : ∃ s, a.rows[i].xs.getD v 0#64 = s := ⟨_, rfl⟩
  obtain ⟨t, ht⟩ : ∃ t, b.rows[i].xs.getD x 0#64 = t := ⟨_, rfl⟩
  refine Cn.of Tryd.func66 rfl rfl ?_
  refine GoH.seq ?_
  refine GoH.region ?_
  refine GoH.bx rfl rfl rfl rfl (fun b6 => ?_)
  refine GoH.bx rfl rfl rfl rfl (fun b7 => ?_)
  refine GoH.v (Vop.asg rfl rfl rfl rfl) ?_
  refine GoH.regionEnd ?_
  refine GoH.seq ?_
  refine GoH.draw 18 mixed rfl ?_
  refine RdGo.v (Vop.fldP rfl rfl rfl rfl Tryd.underlying25 rfl (by exact Tryd.sizeOf23) 2 rfl) ?_
  refine RdGo.v (Vop.ldo (v := .slice a.ra a.rows.length a.rc) rfl rfl rfl rfl Tryd.isAgg23 1 rfl rfl) ?_
  refine RdGo.v (Vop.mv rfl rfl rfl rfl) ?_
  refine RdGo.v (Vop.idx rfl rfl rfl rfl rfl Tryd.underlying23 Tryd.sizeOf22 ⟨_, ha.rel⟩ (by simp) (i) ⟨rfl, by simpa using hi⟩) ?_
  refine RdGo.v (Vop.ld rfl rfl rfl rfl Tryd.isAgg22 (fun w _ hS => (SlR.ex0 ha.rel hS.ext).at (i) hi)) ?_
  refine RdGo.v (Vop.mv rfl rfl rfl rfl) ?_
  refine RdGo.v (Vop.idx rfl rfl rfl rfl rfl Tryd.underlying22 Tryd.sizeOf44 ⟨_, hrowA.at_⟩ (by simp) (v) ⟨rfl, by simpa using hvr⟩) ?_
  refine RdGo.v (Vop.ld rfl rfl rfl rfl Tryd.isAgg44 (fun w _ hS => (SlU.ex0 hrowA.at_ hS.ext).at (v) hvr)) ?_
  refine RdGo.v (Vop.fldP rfl rfl rfl rfl Tryd.underlying25 rfl (by exact Tryd.sizeOf23) 2 rfl) ?_
  refine RdGo.v (Vop.ldo (v := .slice b.ra b.rows.length b.rc) rfl rfl rfl rfl Tryd.isAgg23 0 rfl rfl) ?_
  refine RdGo.v (Vop.mv rfl rfl rfl rfl) ?_
  refine RdGo.v (Vop.idx rfl rfl rfl rfl rfl Tryd.underlying23 Tryd.sizeOf22 ⟨_, hb.rel⟩ (by simp) (i) ⟨rfl, by simpa using hi2⟩) ?_
  refine RdGo.v (Vop.ld rfl rfl rfl rfl Tryd.isAgg22 (fun w _ hS => (SlR.ex0 hb.rel hS.ext).at (i) hi2)) ?_
  refine RdGo.v (Vop.mv rfl rfl rfl rfl) ?_
  refine RdGo.v (Vop.idx rfl rfl rfl rfl rfl Tryd.underlying22 Tryd.sizeOf44 ⟨_, hrowB.at_⟩ (by simp) (x) ⟨rfl, by simpa using hxr⟩) ?_
  refine RdGo.v (Vop.ld rfl rfl rfl rfl Tryd.isAgg44 (fun w _ hS => (SlU.ex0 hrowB.at_ hS.ext).at (x) hxr)) ?_
  refine RdGo.v (Vop.asg rfl rfl rfl rfl) ?_
  refine RdGo.v (Vop.asg rfl rfl rfl rfl) ?_
  refine RdGo.nil ?_
  refine GoH.regionEnd ?_
  refine GoH.seq ?_
  refine GoH.region ?_
  refine GoH.v (Vop.asg (v := U 0#64) rfl rfl rfl rfl) ?_
  refine GoH.regionEnd ?_
  refine GoH.seq ?_
  refine GoH.seq ?_
  refine GoH.region ?_
  refine GoH.v (Vop.asg rfl rfl rfl rfl) ?_
  refine GoH.regionEnd ?_
  refine GoH.block ?_
  rw [hs, ht]
  rw [hs] at hpA
  refine GoH.loop (σ := Nat) (fun k => [(2, .slice za z.length zc), (6, .pointer (some ⟨b6, 0, none⟩)), (13, U s), (14, U t), (15, U (imgU z s k)), (16, .int .i64 k)]) (fun _ => [(some b7, .cells b.v.cells 25 (0, 0)), (some b6, .cells a.v.cells 25 (0, 0))])
    (fun k => k ≤ z.length ∧ ∀ y, y < k → s.getLsbD y = true → (z.getD y 0#64 &&& t != 0#64) = true) (fun k => z.length - k) 0 ⟨Nat.zero_le _, fun y hy => absurd hy (Nat.not_lt_zero _)⟩ ⟨rfl, rfl, rfl, rfl, rfl, rfl, trivial⟩ (List.Sublist.refl _) (fun k hI IH => ?_)
  obtain ⟨hk, hmet⟩ := hI
  -- heap: b7 b6
  -- ptr: 6=b6
  refine GoH.seq ?_
  refine GoH.seq ?_
  refine GoH.region ?_
  refine GoH.v (Vop.mv rfl rfl rfl rfl) ?_
  refine GoH.v (Vop.fldP rfl rfl rfl rfl Tryd.underlying25 rfl (by exact Tryd.sizeOf3) 0 rfl) ?_
  refine GoH.v (Vop.ldo (v := .int .i64 a.n) rfl rfl rfl rfl Tryd.isAgg3 1 rfl rfl) ?_
  refine GoH.v (Vop.bin rfl rfl rfl rfl bLt rfl) ?_
  refine GoH.regionEnd ?_
  refine GoH.cond rfl (fun hc => ?_) (fun hc => ?_)
  · -- yes
    have hlt : k < z.length := by have : (k : Int) < a.n := by simpa using hc
                                  omega
    have hsc := imgU_succ (r := z) (s := s) (k := k)
    refine GoH.skip ?_
    refine GoH.seq ?_
    refine GoH.block ?_
    refine GoH.seq ?_
    refine GoH.seq ?_
    refine GoH.region ?_
    refine GoH.v (Vop.mv rfl rfl rfl rfl) ?_
    refine GoH.v (Vop.mv rfl rfl rfl rfl) ?_
    refine GoH.callP rfl rfl rfl rfl rfl (fun _ _ => Tryd.call43 _ _) (fun w _ hS => rBit_c s k w) ?_
    refine GoH.v (Vop.un rfl rfl rfl uNot rfl) ?_
    refine GoH.regionEnd ?_
    refine GoH.cond rfl (fun hc => ?_) (fun hc => ?_)
    · -- yes
      have hb0 : s.getLsbD k = false := by simpa using hc
      rw [if_neg (by rw [hb0]; simp)] at hsc
      refine GoH.exit rfl ?_
      refine GoH.region ?_
      refine GoH.v (Vop.mv rfl rfl rfl rfl) ?_
      refine GoH.v (Vop.bin rfl rfl rfl rfl (bAdd (by omega)) rfl) ?_
      refine GoH.v (Vop.asg rfl rfl rfl rfl) ?_
      refine GoH.regionEnd ?_
      exact IH (k + 1) _ _ ⟨hlt, fun y hy hb => by
      by_cases e : y = k
      · subst e; rw [hb0] at hb; cases hb
      · exact hmet y (by omega) hb⟩ (by omega) ⟨rfl, rfl, rfl, rfl, (by rw [hsc]; rfl), rfl, trivial⟩ (List.Sublist.refl _)
    · -- no
      have hb0 : s.getLsbD k = true := by simpa using hc
      rw [if_pos hb0] at hsc
      refine GoH.skip ?_
      refine GoH.seq ?_
      refine GoH.seq ?_
      refine GoH.region ?_
      refine GoH.v (Vop.mv rfl rfl rfl rfl) ?_
      refine GoH.v (Vop.mv rfl rfl rfl rfl) ?_
      refine GoH.v (Vop.idx rfl rfl rfl rfl rfl Tryd.underlying22 Tryd.sizeOf44 ⟨_, hz⟩ (by simp) (k) ⟨rfl, by simpa using hlt⟩) ?_
      refine GoH.v (Vop.ld rfl rfl rfl rfl Tryd.isAgg44 (fun w _ hS => (SlU.ex0 hz hS.ext).at (k) hlt)) ?_
      refine GoH.v (Vop.mv rfl rfl rfl rfl) ?_
      refine GoH.v (Vop.bin rfl rfl rfl rfl bAnd rfl) ?_
      refine GoH.v (Vop.bin (b := U 0#64) rfl rfl rfl rfl bEqU rfl) ?_
      refine GoH.regionEnd ?_
      refine GoH.cond rfl (fun hc => ?_) (fun hc => ?_)
      · -- yes
        have h2 : z.getD k 0#64 &&& t = 0#64 := by simpa using hc
        refine GoH.seq ?_
        refine GoH.region ?_
        refine GoH.v (Vop.asg rfl rfl rfl rfl) ?_
        refine GoH.regionEnd ?_
        refine GoH.ret Tryd.f66 Tryd.func66 rfl (fun w' hS => ?_)
        refine ⟨hS.ext, ?_⟩
        have hf : forB a.rows[i].xs b.rows[i].xs z v x = false := by
          rw [Bool.eq_false_iff]
          intro hf
          unfold forB at hf
          rw [hs, ht, Bool.and_eq_true, List.all_eq_true] at hf
          have h3 := hf.1 k (mem_pts.2 ⟨bit_lt hb0, hb0⟩)
          rw [h2] at h3
          simp at h3
        rw [hf]
        rfl
      · -- no
        have h2 : z.getD k 0#64 &&& t ≠ 0#64 := by simpa using hc
        refine GoH.skip ?_
        refine GoH.region ?_
        refine GoH.v (Vop.mv rfl rfl rfl rfl) ?_
        refine GoH.v (Vop.mv rfl rfl rfl rfl) ?_
        refine GoH.v (Vop.mv rfl rfl rfl rfl) ?_
        refine GoH.v (Vop.idx rfl rfl rfl rfl rfl Tryd.underlying22 Tryd.sizeOf44 ⟨_, hz⟩ (by simp) (k) ⟨rfl, by simpa using hlt⟩) ?_
        refine GoH.v (Vop.ld rfl rfl rfl rfl Tryd.isAgg44 (fun w _ hS => (SlU.ex0 hz hS.ext).at (k) hlt)) ?_
        refine GoH.v (Vop.bin rfl rfl rfl rfl bOr rfl) ?_
        refine GoH.v (Vop.asg rfl rfl rfl rfl) ?_
        refine GoH.regionEnd ?_
        refine GoH.inBlock ?_
        refine GoH.region ?_
        refine GoH.v (Vop.mv rfl rfl rfl rfl) ?_
        refine GoH.v (Vop.bin rfl rfl rfl rfl (bAdd (by omega)) rfl) ?_
        refine GoH.v (Vop.asg rfl rfl rfl rfl) ?_
        refine GoH.regionEnd ?_
        exact IH (k + 1) _ _ ⟨hlt, fun y hy hb => by
        by_cases e : y = k
        · subst e; simpa using h2
        · exact hmet y (by omega) hb⟩ (by omega) ⟨rfl, rfl, rfl, rfl, (by rw [hsc]; rfl), rfl, trivial⟩ (List.Sublist.refl _)
  · -- no
    have hge : ¬ k < z.length := by have : ¬ (k : Int) < a.n := by simpa using hc
                                    omega
    obtain rfl : k = z.length := by omega
    refine GoH.exit rfl ?_
    refine GoH.seq ?_
    refine GoH.region ?_
    refine GoH.v (Vop.mv rfl rfl rfl rfl) ?_
    refine GoH.v (Vop.mv rfl rfl rfl rfl) ?_
    refine GoH.v (Vop.bin rfl rfl rfl rfl bAnd rfl) ?_
    refine GoH.v (Vop.mv rfl rfl rfl rfl) ?_
    refine GoH.v (Vop.bin rfl rfl rfl rfl bEqU rfl) ?_
    refine GoH.v (Vop.asg rfl rfl rfl rfl) ?_
    refine GoH.regionEnd ?_
    refine GoH.ret Tryd.f66 Tryd.func66 rfl (fun w' hS => ?_)
    refine ⟨hS.ext, ?_⟩
    have h1 : (pts s).all (fun y => z.getD y 0#64 &&& t != 0#64) = true := List.all_eq_true.2 (fun y hy => hmet y (by have := hpA y hy; omega) (mem_pts.1 hy).2)
    unfold forB
    rw [hs, ht, h1, Bool.true_and, ← imgU_eq, ← and_eq_left]
    rfl
set_option maxRecDepth 8000 in
theorem rpair_c (a b : MV) (za : Option Addr) (zc : Nat) (z : List W64) (v x : Nat) (w : World) (ha : a.At w) (hb : b.At w) (hva : ValM a.n a.val a.rel) (hvb : ValM b.n b.val b.rel) (hlr : a.rel.length = b.rel.length)
    (hz : SlU w za z) (hzl : (z.length : Int) = a.n) (hv : (v : Int) < a.n) (hx : (x : Int) < b.n) :
    Cn Tryd.prog 44 [a.v, b.v, .slice za z.length zc, .int .i64 v, .int .i64 x] w (fun r _ => r = .bool (matB a.val b.val a.rel b.rel z v x)) := by
  have hra : a.rel.length = a.rows.length := by simp [MV.rel]
  have hag := hva.agents
  refine Cn.of Tryd.func44 rfl rfl ?_
  refine GoH.seq ?_
  refine GoH.region ?_
  refine GoH.bx rfl rfl rfl rfl (fun b5 => ?_)
  refine GoH.bx rfl rfl rfl rfl (fun b6 => ?_)
  refine GoH.v (Vop.asg rfl rfl rfl rfl) ?_
  refine GoH.regionEnd ?_
  refine GoH.seq ?_
  refine GoH.seq ?_
  refine GoH.draw 7 mixed rfl ?_
  refine RdGo.v (Vop.ldB rfl rfl rfl rfl Tryd.isAgg25 1 rfl Tryd.sizeOf25 rfl) ?_
  refine RdGo.v (Vop.mv rfl rfl rfl rfl) ?_
  refine RdGo.callP rfl rfl rfl rfl rfl (fun _ _ => Tryd.call59 _ _) (fun w _ hS => rfacts_c a v w (ha.ex0 hS.ext) hva hv) ?_
  refine RdGo.v (Vop.ldB rfl rfl rfl rfl Tryd.isAgg25 0 rfl Tryd.sizeOf25 rfl) ?_
  refine RdGo.v (Vop.mv rfl rfl rfl rfl) ?_
  refine RdGo.callP rfl rfl rfl rfl rfl (fun _ _ => Tryd.call59 _ _) (fun w _ hS => rfacts_c b x w (hb.ex0 hS.ext) hvb hx) ?_
  refine RdGo.v (Vop.bin rfl rfl rfl rfl bNe rfl) ?_
  refine RdGo.nil ?_
  refine GoH.regionEnd ?_
  refine GoH.cond rfl (fun hc => ?_) (fun hc => ?_)
  · -- yes
    have h1 : fm a.val v ≠ fm b.val x := by simp at hc; omega
    refine GoH.seq ?_
    refine GoH.region ?_
    refine GoH.v (Vop.asg rfl rfl rfl rfl) ?_
    refine GoH.regionEnd ?_
    refine GoH.ret Tryd.f44 Tryd.func44 rfl (fun w' hS => ?_)
    exact ⟨hS.ext, by rw [matB, beq_false_of_ne h1]; rfl⟩
  · -- no
    have h1 : fm a.val v = fm b.val x := by simp at hc; omega
    refine GoH.skip ?_
    refine GoH.seq ?_
    refine GoH.seq ?_
    refine GoH.region ?_
    refine GoH.v (Vop.fldP rfl rfl rfl rfl Tryd.underlying25 rfl (by exact Tryd.sizeOf23) 2 rfl) ?_
    refine GoH.v (Vop.ldo (v := .slice a.ra a.rows.length a.rc) rfl rfl rfl rfl Tryd.isAgg23 1 rfl rfl) ?_
    refine GoH.v (Vop.blt rfl rfl rfl (blt_len_slice Tryd.underlying23) rfl) ?_
    refine GoH.v (Vop.mv rfl rfl rfl rfl) ?_
    refine GoH.regionEnd ?_
    refine GoH.block ?_
    refine GoH.loop (σ := Nat) (fun i => [(2, .slice za z.length zc), (3, .int .i64 v), (4, .int .i64 x), (5, .pointer (some ⟨b5, 0, none⟩)), (6, .pointer (some ⟨b6, 0, none⟩)), (21, .int .i64 a.rows.length), (22, .int .i64 i)])
      (fun _ => [(some b6, .cells b.v.cells 25 (0, 0)), (some b5, .cells a.v.cells 25 (0, 0))])
      (fun i => i ≤ a.rows.length ∧ ∀ j, j < i → forB (a.rel.getD j []) (b.rel.getD j []) z v x = true) (fun i => a.rows.length - i) 0 ⟨Nat.zero_le _, fun j hj => absurd hj (Nat.not_lt_zero _)⟩ ⟨rfl, rfl, rfl, rfl, rfl, rfl, rfl, trivial⟩ (List.Sublist.refl _) (fun i hI IH => ?_)
    obtain ⟨hi, hall⟩ := hI
    -- heap: b6 b5
    -- ptr: 5=b5 6=b6
    refine GoH.seq ?_
    refine GoH.region ?_
    refine GoH.v (Vop.bin rfl rfl rfl rfl bLt rfl) ?_
    refine GoH.regionEnd ?_
    refine GoH.seq ?_
    refine GoH.cond rfl (fun hc => ?_) (fun hc => ?_)
    · -- yes
      have hlt : i < a.rows.length := by simpa using hc
      refine GoH.skip ?_
      refine GoH.seq ?_
      refine GoH.block ?_
      refine GoH.seq ?_
      refine GoH.region ?_
      refine GoH.v (Vop.mv rfl rfl rfl rfl) ?_
      refine GoH.v (Vop.asg rfl rfl rfl rfl) ?_
      refine GoH.regionEnd ?_
      refine GoH.seq ?_
      refine GoH.region ?_
      refine GoH.v (Vop.ldB rfl rfl rfl rfl Tryd.isAgg25 1 rfl Tryd.sizeOf25 rfl) ?_
      refine GoH.v (Vop.ldB rfl rfl rfl rfl Tryd.isAgg25 0 rfl Tryd.sizeOf25 rfl) ?_
      refine GoH.v (Vop.mv rfl rfl rfl rfl) ?_
      refine GoH.v (Vop.mv rfl rfl rfl rfl) ?_
      refine GoH.v (Vop.mv rfl rfl rfl rfl) ?_
      refine GoH.v (Vop.mv rfl rfl rfl rfl) ?_
      refine GoH.callP rfl rfl rfl rfl rfl (fun _ _ => Tryd.call66 _ _) (fun w _ hS => (by exact rforth_c a b za zc z i v x w (ha.ex0 hS.ext) (hb.ex0 hS.ext) hva hvb hlr (hz.ex0 hS.ext) hzl hlt hv hx)) ?_
      refine GoH.v (Vop.un rfl rfl rfl uNot rfl) ?_
      refine GoH.regionEnd ?_
      refine GoH.cond rfl (fun hc => ?_) (fun hc => ?_)
      · -- yes
        have hf : forB (a.rel.getD i []) (b.rel.getD i []) z v x = false := by simpa [-List.getD_eq_getElem?_getD] using hc
        refine GoH.seq ?_
        refine GoH.region ?_
        refine GoH.v (Vop.asg rfl rfl rfl rfl) ?_
        refine GoH.regionEnd ?_
        refine GoH.ret Tryd.f44 Tryd.func44 rfl (fun w' hS => ?_)
        refine ⟨hS.ext, ?_⟩
        rw [matB, List.all_eq_false.2 ⟨i, List.mem_range.2 (by omega), by rw [hf]; decide⟩, Bool.and_false]
        rfl
      · -- no
        have hf : forB (a.rel.getD i []) (b.rel.getD i []) z v x = true := by simpa [-List.getD_eq_getElem?_getD] using hc
        refine GoH.skip ?_
        refine GoH.inBlock ?_
        refine GoH.region ?_
        refine GoH.v (Vop.bin rfl rfl rfl rfl (bAdd (by omega)) rfl) ?_
        refine GoH.v (Vop.mv rfl rfl rfl rfl) ?_
        refine GoH.regionEnd ?_
        exact IH (i + 1) _ _ ⟨hlt, fun j hj => by
        by_cases e : j = i
        · subst e; exact hf
        · exact hall j (by omega)⟩ (by omega) ⟨rfl, rfl, rfl, rfl, rfl, rfl, rfl, trivial⟩ (List.Sublist.refl _)
    · -- no
      have hge : ¬ i < a.rows.length := by simpa using hc
      refine GoH.exit rfl ?_
      refine GoH.seq ?_
      refine GoH.region ?_
      refine GoH.v (Vop.asg rfl rfl rfl rfl) ?_
      refine GoH.regionEnd ?_
      refine GoH.ret Tryd.f44 Tryd.func44 rfl (fun w' hS => ?_)
      refine ⟨hS.ext, ?_⟩
      rw [matB_iff.2 ⟨h1, fun j hj => hall j (by omega)⟩]
      rfl
set_option maxRecDepth 8000 in
theorem rcheck_c (a b : MV) (za : Option Addr) (zc : Nat) (z : List W64) (w : World) (ha : a.At w) (hb : b.At w) (hz : SlU w za z) (hzm : z.length ≤ maxLen) :
    Cn Tryd.prog 20 [a.v, b.v, .slice za z.length zc] w (fun r _ => r = .int .i64 (chkE a.n a.val a.rel b.n b.val b.rel z)) := by
  unfold maxLen at hzm
  refine Cn.of Tryd.func20 rfl rfl ?_
  refine GoH.seq ?_
  refine GoH.region ?_
  refine GoH.bx rfl rfl rfl rfl (fun b3 => ?_)
  refine GoH.bx rfl rfl rfl rfl (fun b4 => ?_)
  refine GoH.v (Vop.asg rfl rfl rfl rfl) ?_
  refine GoH.regionEnd ?_
  refine GoH.seq ?_
  refine GoH.seq ?_
  refine GoH.region ?_
  refine GoH.v (Vop.ldB rfl rfl rfl rfl Tryd.isAgg25 1 rfl Tryd.sizeOf25 rfl) ?_
  refine GoH.v (Vop.ldB rfl rfl rfl rfl Tryd.isAgg25 0 rfl Tryd.sizeOf25 rfl) ?_
  refine GoH.callP rfl rfl rfl rfl rfl (fun _ _ => Tryd.call41 _ _) (fun w _ hS => (by exact rfits_c a b w (ha.ex0 hS.ext) (hb.ex0 hS.ext))) ?_
  refine GoH.v (Vop.asg rfl rfl rfl rfl) ?_
  refine GoH.regionEnd ?_
  refine GoH.seq ?_
  refine GoH.region ?_
  refine GoH.v (Vop.mv rfl rfl rfl rfl) ?_
  refine GoH.v (Vop.bin rfl rfl rfl rfl bNe rfl) ?_
  refine GoH.regionEnd ?_
  refine GoH.cond rfl (fun hc => ?_) (fun hc => ?_)
  · -- yes
    have h1 : bothE a.n a.val a.rel b.n b.val b.rel ≠ 0 := by simpa using hc
    refine GoH.seq ?_
    refine GoH.region ?_
    refine GoH.v (Vop.mv rfl rfl rfl rfl) ?_
    refine GoH.v (Vop.asg rfl rfl rfl rfl) ?_
    refine GoH.regionEnd ?_
    refine GoH.ret Tryd.f20 Tryd.func20 rfl (fun w' hS => ?_)
    exact ⟨hS.ext, by rw [chkE, if_pos h1]; rfl⟩
  · -- no
    have h1 : bothE a.n a.val a.rel b.n b.val b.rel = 0 := by simpa using hc
    obtain ⟨hva, hvb, hlr, hlv⟩ := bothE_zero.1 h1
    have hn1 := hvb.n1
    have hn64 := hvb.n64
    obtain ⟨nb, hnb⟩ : ∃ n : Nat, b.n = n := ⟨b.n.toNat, by omega⟩
    have hnt : b.n.toNat = nb := by omega
    refine GoH.skip ?_
    refine GoH.seq ?_
    refine GoH.seq ?_
    refine GoH.region ?_
    refine GoH.v (Vop.mv rfl rfl rfl rfl) ?_
    refine GoH.v (Vop.blt rfl rfl rfl (blt_len_slice Tryd.underlying22) rfl) ?_
    refine GoH.v (Vop.fldP rfl rfl rfl rfl Tryd.underlying25 rfl (by exact Tryd.sizeOf3) 0 rfl) ?_
    refine GoH.v (Vop.ldo (v := .int .i64 a.n) rfl rfl rfl rfl Tryd.isAgg3 1 rfl rfl) ?_
    refine GoH.v (Vop.bin rfl rfl rfl rfl bNe rfl) ?_
    refine GoH.regionEnd ?_
    refine GoH.cond rfl (fun hc => ?_) (fun hc => ?_)
    · -- yes
      have h2 : (z.length : Int) ≠ a.n := by simpa using hc
      refine GoH.seq ?_
      refine GoH.region ?_
      refine GoH.v (Vop.asg rfl rfl rfl rfl) ?_
      refine GoH.regionEnd ?_
      refine GoH.ret Tryd.f20 Tryd.func20 rfl (fun w' hS => ?_)
      exact ⟨hS.ext, by rw [chkE, if_neg (by simp [h1]), if_pos h2]; rfl⟩
    · -- no
      have h2 : (z.length : Int) = a.n := by simpa using hc
      refine GoH.skip ?_
      refine GoH.seq ?_
      refine GoH.seq ?_
      refine GoH.region ?_
      refine GoH.v (Vop.mv rfl rfl rfl rfl) ?_
      refine GoH.v (Vop.blt rfl rfl rfl (blt_len_slice Tryd.underlying22) rfl) ?_
      refine GoH.v (Vop.mv rfl rfl rfl rfl) ?_
      refine GoH.regionEnd ?_
      refine GoH.block ?_
      refine GoH.loop (σ := Nat) (fun k => [(2, .slice za z.length zc), (3, .pointer (some ⟨b3, 0, none⟩)), (4, .pointer (some ⟨b4, 0, none⟩)), (23, .slice za z.length zc), (24, .int .i64 z.length), (25, .int .i64 k)])
        (fun _ => [(some b4, .cells b.v.cells 25 (0, 0)), (some b3, .cells a.v.cells 25 (0, 0))])
        (fun k => k ≤ z.length ∧ ∀ i, i < k → z.getD i 0#64 &&& ~~~ allW nb = 0#64) (fun k => z.length - k) 0 ⟨Nat.zero_le _, fun i hi => absurd hi (Nat.not_lt_zero _)⟩ ⟨rfl, rfl, rfl, rfl, rfl, rfl, trivial⟩ (List.Sublist.refl _) (fun k hI IH => ?_)
      obtain ⟨hk, hall⟩ := hI
      -- heap: b4 b3
      -- ptr: 3=b3 4=b4
      refine GoH.seq ?_
      refine GoH.region ?_
      refine GoH.v (Vop.bin rfl rfl rfl rfl bLt rfl) ?_
      refine GoH.regionEnd ?_
      refine GoH.seq ?_
      refine GoH.cond rfl (fun hc => ?_) (fun hc => ?_)
      · -- yes
        have hlt : k < z.length := by simpa using hc
        refine GoH.skip ?_
        refine GoH.seq ?_
        refine GoH.block ?_
        refine GoH.seq ?_
        refine GoH.region ?_
        refine GoH.v (Vop.idx rfl rfl rfl rfl rfl Tryd.underlying22 Tryd.sizeOf44 ⟨_, hz⟩ (by simp) (k) ⟨rfl, by simpa using hlt⟩) ?_
        refine GoH.v (Vop.ld rfl rfl rfl rfl Tryd.isAgg44 (fun w _ hS => (SlU.ex0 hz hS.ext).at (k) hlt)) ?_
        refine GoH.v (Vop.asg rfl rfl rfl rfl) ?_
        refine GoH.regionEnd ?_
        refine GoH.seq ?_
        refine GoH.region ?_
        refine GoH.v (Vop.mv rfl rfl rfl rfl) ?_
        refine GoH.v (Vop.fldP rfl rfl rfl rfl Tryd.underlying25 rfl (by exact Tryd.sizeOf3) 0 rfl) ?_
        refine GoH.v (Vop.ldo (v := .int .i64 b.n) rfl rfl rfl rfl Tryd.isAgg3 0 rfl rfl) ?_
        refine GoH.callP rfl rfl rfl rfl rfl (fun _ _ => Tryd.call42 _ _) (fun w _ hS => (by have := rmAll_c nb w (by omega); rw [← hnb] at this; exact this)) ?_
        refine GoH.v (Vop.bin rfl rfl rfl rfl bAnd rfl) ?_
        refine GoH.v (Vop.mv rfl rfl rfl rfl) ?_
        refine GoH.v (Vop.bin rfl rfl rfl rfl bNeU rfl) ?_
        refine GoH.regionEnd ?_
        refine GoH.cond rfl (fun hc => ?_) (fun hc => ?_)
        · -- yes
          have h3 : (z.getD k 0#64 &&& allW nb == z.getD k 0#64) = false := by
            rw [beq_eq_false_iff_ne]; exact bne_iff_ne.1 hc
          rw [and_eq_left, beq_eq_false_iff_ne] at h3
          refine GoH.seq ?_
          refine GoH.region ?_
          refine GoH.v (Vop.asg rfl rfl rfl rfl) ?_
          refine GoH.regionEnd ?_
          refine GoH.ret Tryd.f20 Tryd.func20 rfl (fun w' hS => ?_)
          refine ⟨hS.ext, ?_⟩
          have h5 : outB b.n.toNat z = true := by
            cases h : outB b.n.toNat z with
            | true => rfl
            | false =>
              have := outB_false.1 h z[k] (List.getElem_mem hlt)
              rw [List.getD_eq_getElem?_getD, List.getElem?_eq_getElem hlt] at h3
              rw [hnt] at this
              exact absurd this h3
          rw [chkE, if_neg (by simp [h1]), if_neg (by simp [h2]), if_pos h5]
          rfl
        · -- no
          have h3 : (z.getD k 0#64 &&& allW nb == z.getD k 0#64) = true := by
            rw [beq_iff_eq]
            have := Bool.not_eq_true _ ▸ hc
            exact Classical.byContradiction (fun hx => absurd hc (by rw [bne_iff_ne.2 hx]; decide))
          rw [and_eq_left, beq_iff_eq] at h3
          refine GoH.skip ?_
          refine GoH.inBlock ?_
          refine GoH.region ?_
          refine GoH.v (Vop.bin rfl rfl rfl rfl (bAdd (by omega)) rfl) ?_
          refine GoH.v (Vop.mv rfl rfl rfl rfl) ?_
          refine GoH.regionEnd ?_
          exact IH (k + 1) _ _ ⟨hlt, fun i hi => by
          by_cases e : i = k
          · subst e; exact h3
          · exact hall i (by omega)⟩ (by omega) ⟨rfl, rfl, rfl, rfl, rfl, rfl, trivial⟩ (List.Sublist.refl _)
      · -- no
        have hge : ¬ k < z.length := by simpa using hc
        have hob : outB b.n.toNat z = false := outB_false.2 (fun s hs => by
          obtain ⟨i, hi, rfl⟩ := List.mem_iff_getElem.1 hs
          have := hall i (by omega)
          rw [List.getD_eq_getElem?_getD, List.getElem?_eq_getElem hi] at this
          rw [hnt]
          exact this)
        have hrng := (outB_rng (n := b.n.toNat) (by omega)).1 hob
        refine GoH.exit rfl ?_
        refine GoH.seq ?_
        refine GoH.seq ?_
        refine GoH.region ?_
        refine GoH.v (Vop.mv rfl rfl rfl rfl) ?_
        refine GoH.v (Vop.blt rfl rfl rfl (blt_len_slice Tryd.underlying22) rfl) ?_
        refine GoH.v (Vop.mv rfl rfl rfl rfl) ?_
        refine GoH.regionEnd ?_
        refine GoH.block ?_
        refine GoH.loop (σ := Nat) (fun k => [(2, .slice za z.length zc), (3, .pointer (some ⟨b3, 0, none⟩)), (4, .pointer (some ⟨b4, 0, none⟩)), (38, .int .i64 z.length), (39, .int .i64 k)])
          (fun _ => [(some b4, .cells b.v.cells 25 (0, 0)), (some b3, .cells a.v.cells 25 (0, 0))])
          (fun k => k ≤ z.length ∧ ∀ i, i < k → ∀ x, Rl z i x → matB a.val b.val a.rel b.rel z i x = true) (fun k => z.length - k) 0 ⟨Nat.zero_le _, fun i hi => absurd hi (Nat.not_lt_zero _)⟩ ⟨rfl, rfl, rfl, rfl, rfl, trivial⟩ (List.Sublist.refl _) (fun v hI IH => ?_)
        obtain ⟨hk2, hall2⟩ := hI
        -- heap: b4 b3
        -- ptr: 3=b3 4=b4
        refine GoH.seq ?_
        refine GoH.region ?_
        refine GoH.v (Vop.bin rfl rfl rfl rfl bLt rfl) ?_
        refine GoH.regionEnd ?_
        refine GoH.seq ?_
        refine GoH.cond rfl (fun hc => ?_) (fun hc => ?_)
        · -- yes
          have hlt : v < z.length := by simpa using hc
          refine GoH.skip ?_
          refine GoH.seq ?_
          refine GoH.block ?_
          refine GoH.seq ?_
          refine GoH.region ?_
          refine GoH.v (Vop.mv rfl rfl rfl rfl) ?_
          refine GoH.v (Vop.asg rfl rfl rfl rfl) ?_
          refine GoH.regionEnd ?_
          refine GoH.seq ?_
          refine GoH.region ?_
          refine GoH.v (Vop.asg rfl rfl rfl rfl) ?_
          refine GoH.regionEnd ?_
          refine GoH.block ?_
          refine GoH.loop (σ := Nat) (fun x => [(2, .slice za z.length zc), (3, .pointer (some ⟨b3, 0, none⟩)), (4, .pointer (some ⟨b4, 0, none⟩)), (38, .int .i64 z.length), (39, .int .i64 v), (10, .int .i64 v), (11, .int .i64 x)])
            (fun _ => [(some b4, .cells b.v.cells 25 (0, 0)), (some b3, .cells a.v.cells 25 (0, 0))])
            (fun x => x ≤ nb ∧ ∀ y, y < x → Rl z v y → matB a.val b.val a.rel b.rel z v y = true) (fun x => nb - x) 0 ⟨Nat.zero_le _, fun i hi => absurd hi (Nat.not_lt_zero _)⟩ ⟨rfl, rfl, rfl, rfl, rfl, rfl, rfl, trivial⟩ (List.Sublist.refl _) (fun x hI IH2 => ?_)
          obtain ⟨hxk, hall3⟩ := hI
          -- heap: b4 b3
          -- ptr: 3=b3 4=b4
          refine GoH.seq ?_
          refine GoH.seq ?_
          refine GoH.region ?_
          refine GoH.v (Vop.mv rfl rfl rfl rfl) ?_
          refine GoH.v (Vop.fldP rfl rfl rfl rfl Tryd.underlying25 rfl (by exact Tryd.sizeOf3) 0 rfl) ?_
          refine GoH.v (Vop.ldo (v := .int .i64 b.n) rfl rfl rfl rfl Tryd.isAgg3 0 rfl rfl) ?_
          refine GoH.v (Vop.bin rfl rfl rfl rfl bLt rfl) ?_
          refine GoH.regionEnd ?_
          refine GoH.cond rfl (fun hc => ?_) (fun hc => ?_)
          · -- yes
            have hxb : (x : Int) < b.n := by simpa using hc
            refine GoH.skip ?_
            refine GoH.seq ?_
            refine GoH.block ?_
            refine GoH.seq ?_
            refine GoH.region ?_
            refine GoH.v (Vop.mv rfl rfl rfl rfl) ?_
            refine GoH.v (Vop.mv rfl rfl rfl rfl) ?_
            refine GoH.v (Vop.idx rfl rfl rfl rfl rfl Tryd.underlying22 Tryd.sizeOf44 ⟨_, hz⟩ (by simp) (v) ⟨rfl, by simpa using hlt⟩) ?_
            refine GoH.v (Vop.ld rfl rfl rfl rfl Tryd.isAgg44 (fun w _ hS => (SlU.ex0 hz hS.ext).at (v) hlt)) ?_
            refine GoH.v (Vop.mv rfl rfl rfl rfl) ?_
            refine GoH.callP rfl rfl rfl rfl rfl (fun _ _ => Tryd.call43 _ _) (fun w _ hS => rBit_c (z.getD v 0#64) x w) ?_
            refine GoH.v (Vop.mv rfl rfl rfl rfl) ?_
            -- guard on slot 54 (ref.go:176)
            refine GoH.cases (d := 54) rfl (fun hc => ?_) (fun hc => ?_)
            · -- yes
              have hbit : Rl z v x := hc
              refine GoH.v (Vop.ldB rfl rfl rfl rfl Tryd.isAgg25 1 rfl Tryd.sizeOf25 rfl) ?_
              refine GoH.v (Vop.ldB rfl rfl rfl rfl Tryd.isAgg25 0 rfl Tryd.sizeOf25 rfl) ?_
              refine GoH.v (Vop.mv rfl rfl rfl rfl) ?_
              refine GoH.v (Vop.mv rfl rfl rfl rfl) ?_
              refine GoH.v (Vop.mv rfl rfl rfl rfl) ?_
              refine GoH.callP rfl rfl rfl rfl rfl (fun _ _ => Tryd.call44 _ _) (fun w _ hS => (by exact rpair_c a b za zc z v x w (ha.ex0 hS.ext) (hb.ex0 hS.ext) hva hvb hlr (hz.ex0 hS.ext) h2 (by omega) hxb)) ?_
              refine GoH.v (Vop.un rfl rfl rfl uNot rfl) ?_
              refine GoH.v (Vop.pickT rfl rfl rfl rfl rfl) ?_
              refine GoH.regionEnd ?_
              refine GoH.cond rfl (fun hc => ?_) (fun hc => ?_)
              · -- yes
                have h5 : matB a.val b.val a.rel b.rel z v x = false := by simpa using hc
                refine GoH.seq ?_
                refine GoH.region ?_
                refine GoH.v (Vop.asg rfl rfl rfl rfl) ?_
                refine GoH.regionEnd ?_
                refine GoH.ret Tryd.f20 Tryd.func20 rfl (fun w' hS => ?_)
                refine ⟨hS.ext, ?_⟩
                have hbad : badZ a.val b.val a.rel b.rel z = true := by
                  cases hh : badZ a.val b.val a.rel b.rel z with
                  | true => rfl
                  | false => have := badZ_false.1 hh v x hbit; rw [h5] at this; cases this
                rw [chkE, if_neg (by simp [h1]), if_neg (by simp [h2]), if_neg (by simp [hob]), if_pos hbad]
                rfl
              · -- no
                have h5 : matB a.val b.val a.rel b.rel z v x = true := by simpa using hc
                refine GoH.skip ?_
                refine GoH.inBlock ?_
                refine GoH.region ?_
                refine GoH.v (Vop.mv rfl rfl rfl rfl) ?_
                refine GoH.v (Vop.bin rfl rfl rfl rfl (bAdd (by omega)) rfl) ?_
                refine GoH.v (Vop.asg rfl rfl rfl rfl) ?_
                refine GoH.regionEnd ?_
                exact IH2 (x + 1) _ _ ⟨by omega, fun y hy hr => by
                by_cases e : y = x
                · subst e; exact h5
                · exact hall3 y (by omega) hr⟩ (by omega) ⟨rfl, rfl, rfl, rfl, rfl, rfl, rfl, trivial⟩ (List.Sublist.refl _)
            · -- no
              have hbit : ¬ Rl z v x := fun h => by rw [show (z.getD v 0#64).getLsbD x = true from h] at hc; cases hc
              refine GoH.no rfl rfl rfl rfl ?_
              refine GoH.no rfl rfl rfl rfl ?_
              refine GoH.no rfl rfl rfl rfl ?_
              refine GoH.no rfl rfl rfl rfl ?_
              refine GoH.no rfl rfl rfl rfl ?_
              refine GoH.no rfl rfl rfl rfl ?_
              refine GoH.no rfl rfl rfl rfl ?_
              refine GoH.v (Vop.pickF rfl rfl rfl rfl rfl) ?_
              refine GoH.regionEnd ?_
              refine GoH.condF rfl ?_
              refine GoH.skip ?_
              refine GoH.inBlock ?_
              refine GoH.region ?_
              refine GoH.v (Vop.mv rfl rfl rfl rfl) ?_
              refine GoH.v (Vop.bin rfl rfl rfl rfl (bAdd (by omega)) rfl) ?_
              refine GoH.v (Vop.asg rfl rfl rfl rfl) ?_
              refine GoH.regionEnd ?_
              exact IH2 (x + 1) _ _ ⟨by omega, fun y hy hr => by
              by_cases e : y = x
              · subst e; exact absurd hr hbit
              · exact hall3 y (by omega) hr⟩ (by omega) ⟨rfl, rfl, rfl, rfl, rfl, rfl, rfl, trivial⟩ (List.Sublist.refl _)
          · -- no
            have hxb : ¬ (x : Int) < b.n := by simpa using hc
            refine GoH.exit rfl ?_
            refine GoH.inBlock ?_
            refine GoH.region ?_
            refine GoH.v (Vop.bin rfl rfl rfl rfl (bAdd (by omega)) rfl) ?_
            refine GoH.v (Vop.mv rfl rfl rfl rfl) ?_
            refine GoH.regionEnd ?_
            exact IH (v + 1) _ _ ⟨hlt, fun i hi y hr => by
            by_cases e : i = v
            · subst e; exact hall3 y (by have := hrng _ _ hr; omega) hr
            · exact hall2 i (by omega) y hr⟩ (by omega) ⟨rfl, rfl, rfl, rfl, rfl, trivial⟩ (List.Sublist.refl _)
        · -- no
          have hge2 : ¬ v < z.length := by simpa using hc
          refine GoH.exit rfl ?_
          refine GoH.seq ?_
          refine GoH.region ?_
          refine GoH.v (Vop.asg rfl rfl rfl rfl) ?_
          refine GoH.regionEnd ?_
          refine GoH.ret Tryd.f20 Tryd.func20 rfl (fun w' hS => ?_)
          refine ⟨hS.ext, ?_⟩
          have hbad : badZ a.val b.val a.rel b.rel z = false := badZ_false.2 (fun i x hx => hall2 i (by have := hx.dom; omega) x hx)
          rw [chkE, if_neg (by simp [h1]), if_neg (by simp [h2]), if_neg (by simp [hob]), if_neg (by simp [hbad])]
          rfl
set_option maxRecDepth 8000 in
theorem rbetween_c (a b : MV) (w : World) (ha : a.At w) (hb : b.At w) :
    Cn Tryd.prog 22 [a.v, b.v] w (fun r w' => ∃ (sv : Value) (z : List W64), r = .tuple #[sv, .int .i64 (bothE a.n a.val a.rel b.n b.val b.rel)] ∧ OwnS U 44 w w' sv z ∧ BetZ a.n a.val a.rel b.n b.val b.rel z) := by
  obtain ⟨i0, hi, hz, hsz, hby⟩ := info_parts infoU
  refine Cn.of Tryd.func22 rfl rfl ?_
  refine GoH.seq ?_
  refine GoH.region ?_
  refine GoH.bx rfl rfl rfl rfl (fun b2 => ?_)
  refine GoH.bx rfl rfl rfl rfl (fun b3 => ?_)
  refine GoH.v (Vop.asg rfl rfl rfl rfl) ?_
  refine GoH.v (Vop.asg rfl rfl rfl rfl) ?_
  refine GoH.regionEnd ?_
  refine GoH.seq ?_
  refine GoH.seq ?_
  refine GoH.region ?_
  refine GoH.v (Vop.ldB rfl rfl rfl rfl Tryd.isAgg25 1 rfl Tryd.sizeOf25 rfl) ?_
  refine GoH.v (Vop.ldB rfl rfl rfl rfl Tryd.isAgg25 0 rfl Tryd.sizeOf25 rfl) ?_
  refine GoH.callP rfl rfl rfl rfl rfl (fun _ _ => Tryd.call41 _ _) (fun w _ hS => (by exact rfits_c a b w (ha.ex0 hS.ext) (hb.ex0 hS.ext))) ?_
  refine GoH.v (Vop.asg rfl rfl rfl rfl) ?_
  refine GoH.regionEnd ?_
  refine GoH.seq ?_
  refine GoH.region ?_
  refine GoH.v (Vop.mv rfl rfl rfl rfl) ?_
  refine GoH.v (Vop.bin rfl rfl rfl rfl bNe rfl) ?_
  refine GoH.regionEnd ?_
  refine GoH.cond rfl (fun hc => ?_) (fun hc => ?_)
  · -- yes
    have h1 : bothE a.n a.val a.rel b.n b.val b.rel ≠ 0 := by simpa using hc
    refine GoH.seq ?_
    refine GoH.region ?_
    refine GoH.v (Vop.mv rfl rfl rfl rfl) ?_
    refine GoH.v (Vop.asg rfl rfl rfl rfl) ?_
    refine GoH.v (Vop.asg rfl rfl rfl rfl) ?_
    refine GoH.regionEnd ?_
    refine GoH.ret Tryd.f22 Tryd.func22 rfl (fun w' hS => ?_)
    exact ⟨hS.ext, _, [], rfl, OwnS.nil0, fun _ => rfl, fun e => absurd e h1⟩
  · -- no
    have h1 : bothE a.n a.val a.rel b.n b.val b.rel = 0 := by simpa using hc
    obtain ⟨hva, hvb, hlr, hlv⟩ := bothE_zero.1 h1
    have ha1 := hva.n1
    have ha64 := hva.n64
    have hb1 := hvb.n1
    have hb64 := hvb.n64
    obtain ⟨na, hna⟩ : ∃ n : Nat, a.n = n := ⟨a.n.toNat, by omega⟩
    obtain ⟨nb, hnb⟩ : ∃ n : Nat, b.n = n := ⟨b.n.toNat, by omega⟩
    refine GoH.skip ?_
    refine GoH.seq ?_
    refine GoH.region ?_
    refine GoH.v (Vop.fldP rfl rfl rfl rfl Tryd.underlying25 rfl (by exact Tryd.sizeOf3) 0 rfl) ?_
    refine GoH.v (Vop.ldo (v := .int .i64 a.n) rfl rfl rfl rfl Tryd.isAgg3 1 rfl rfl) ?_
    refine GoH.mkE U 0#64 (m := na) rfl rfl (by rw [← hna]; rfl) (by rw [← hna]; rfl) rfl Tryd.underlying22 hi hz rfl hsz (by rw [hby]; omega) (by unfold maxLen; omega) (fun b20 => ?_)
    -- heap: b20 b3 b2
    refine GoH.v (Vop.asg rfl rfl rfl rfl) ?_
    refine GoH.regionEnd ?_
    refine GoH.seq ?_
    refine GoH.seq ?_
    refine GoH.region ?_
    refine GoH.v (Vop.mv rfl rfl rfl rfl) ?_
    refine GoH.v (Vop.blt rfl rfl rfl (blt_len_slice Tryd.underlying22) rfl) ?_
    refine GoH.v (Vop.mv rfl rfl rfl rfl) ?_
    refine GoH.regionEnd ?_
    refine GoH.block ?_
    refine GoH.loop (σ := Nat) (fun k => [(2, .pointer (some ⟨b2, 0, none⟩)), (3, .pointer (some ⟨b3, 0, none⟩)), (7, .slice (some ⟨b20, 0, none⟩) na na), (22, .int .i64 na), (23, .int .i64 k)])
      (fun k => [(some b20, ob U 44 (flm (fun _ _ => allW nb) (List.replicate na 0#64) k) []), (some b3, .cells b.v.cells 25 (0, 0)), (some b2, .cells a.v.cells 25 (0, 0))])
      (fun k => k ≤ na) (fun k => na - k) 0 (Nat.zero_le _) ⟨rfl, rfl, rfl, rfl, rfl, trivial⟩ (by rw [flm_zero]; exact List.Sublist.refl _) (fun k hI IH => ?_)
    -- heap: b20 b3 b2
    -- ptr: 2=b2 3=b3
    refine GoH.seq ?_
    refine GoH.region ?_
    refine GoH.v (Vop.bin rfl rfl rfl rfl bLt rfl) ?_
    refine GoH.regionEnd ?_
    refine GoH.seq ?_
    refine GoH.cond rfl (fun hc => ?_) (fun hc => ?_)
    · -- yes
      have hlt : k < na := by simpa using hc
      have hls : k < (flm (fun _ _ => allW nb) (List.replicate na 0#64) k).length := by rw [flm_length]; simpa using hlt
      refine GoH.skip ?_
      refine GoH.seq ?_
      refine GoH.block ?_
      refine GoH.seq ?_
      refine GoH.region ?_
      refine GoH.v (Vop.mv rfl rfl rfl rfl) ?_
      refine GoH.v (Vop.asg rfl rfl rfl rfl) ?_
      refine GoH.regionEnd ?_
      refine GoH.region ?_
      refine GoH.v (Vop.mv rfl rfl rfl rfl) ?_
      refine GoH.v (Vop.mv rfl rfl rfl rfl) ?_
      refine GoH.v (Vop.fldP rfl rfl rfl rfl Tryd.underlying25 rfl (by exact Tryd.sizeOf3) 0 rfl) ?_
      refine GoH.v (Vop.ldo (v := .int .i64 b.n) rfl rfl rfl rfl Tryd.isAgg3 1 rfl rfl) ?_
      refine GoH.callP rfl rfl rfl rfl rfl (fun _ _ => Tryd.call42 _ _) (fun w _ hS => (by have := rmAll_c nb w (by omega); rw [← hnb] at this; exact this)) ?_
      refine GoH.v (Vop.idxS rfl rfl rfl rfl rfl Tryd.underlying22 Tryd.sizeOf44 (k) ⟨rfl, hlt⟩) ?_
      refine GoH.stE U _ rfl rfl rfl rfl Tryd.sizeOf44 rfl 0 rfl hls ?_
      refine GoH.regionEnd ?_
      refine GoH.inBlock ?_
      refine GoH.region ?_
      refine GoH.v (Vop.bin rfl rfl rfl rfl (bAdd (by omega)) rfl) ?_
      refine GoH.v (Vop.mv rfl rfl rfl rfl) ?_
      refine GoH.regionEnd ?_
      exact IH (k + 1) _ _ hlt (by omega) ⟨rfl, rfl, rfl, rfl, rfl, trivial⟩ (by rw [← flm_succ (by simpa using hlt)]; exact List.Sublist.refl _)
    · -- no
      have hge : ¬ k < na := by simpa using hc
      obtain rfl : na = k := by omega
      rw [flm_const]
      refine GoH.exit rfl ?_
      refine GoH.seq ?_
      refine GoH.seq ?_
      refine GoH.region ?_
      refine GoH.v (Vop.asg rfl rfl rfl rfl) ?_
      refine GoH.regionEnd ?_
      refine GoH.block ?_
      refine GoH.loop (σ := List W64 × Bool) (fun s => [(2, .pointer (some ⟨b2, 0, none⟩)), (3, .pointer (some ⟨b3, 0, none⟩)), (7, .slice (some ⟨b20, 0, none⟩) na na), (9, .bool s.2)])
        (fun s => [(some b20, ob U 44 s.1 []), (some b3, .cells b.v.cells 25 (0, 0)), (some b2, .cells a.v.cells 25 (0, 0))])
        (fun s => InvZ a.val b.val a.rel b.rel na nb s.1 ∧ (s.2 = false → Grt a.val b.val a.rel b.rel na nb s.1)) (fun s => 2 * sumZ s.1 + s.2.toNat) (List.replicate na (allW nb), true) ⟨InvZ.start (by omega), (fun e => by cases e)⟩ ⟨rfl, rfl, rfl, rfl, trivial⟩ (List.Sublist.refl _) (fun s hI IH => ?_)
      obtain ⟨z0, ch0⟩ := s
      obtain ⟨hinv, hgr⟩ := hI
      dsimp only at hinv hgr IH ⊢
      -- heap: b20 b3 b2
      -- ptr: 2=b2 3=b3
      refine GoH.seq ?_
      refine GoH.seq ?_
      refine GoH.region ?_
      refine GoH.v (Vop.mv rfl rfl rfl rfl) ?_
      refine GoH.regionEnd ?_
      refine GoH.cond rfl (fun hc => ?_) (fun hc => ?_)
      · -- yes
        obtain rfl : ch0 = true := hc
        refine GoH.skip ?_
        refine GoH.block ?_
        refine GoH.seq ?_
        refine GoH.region ?_
        refine GoH.v (Vop.asg rfl rfl rfl rfl) ?_
        refine GoH.regionEnd ?_
        refine GoH.seq ?_
        refine GoH.region ?_
        refine GoH.v (Vop.mv rfl rfl rfl rfl) ?_
        refine GoH.v (Vop.blt rfl rfl rfl (blt_len_slice Tryd.underlying22) rfl) ?_
        refine GoH.v (Vop.mv rfl rfl rfl rfl) ?_
        refine GoH.regionEnd ?_
        refine GoH.block ?_
        refine GoH.loop (σ := Nat × List W64 × Bool) (fun s => [(2, .pointer (some ⟨b2, 0, none⟩)), (3, .pointer (some ⟨b3, 0, none⟩)), (7, .slice (some ⟨b20, 0, none⟩) na na), (9, .bool s.2.2), (35, .int .i64 na), (36, .int .i64 s.1)])
          (fun s => [(some b20, ob U 44 s.2.1 []), (some b3, .cells b.v.cells 25 (0, 0)), (some b2, .cells a.v.cells 25 (0, 0))])
          (fun s => s.1 ≤ na ∧ TurnZ a.val b.val a.rel b.rel na nb z0 s.2.1 s.2.2 s.1) (fun s => na - s.1) (0, z0, false) ⟨Nat.zero_le _, TurnZ.start hinv⟩ ⟨rfl, rfl, rfl, rfl, rfl, rfl, trivial⟩ (List.Sublist.refl _) (fun s hI IH2 => ?_)
        obtain ⟨k, z, ch⟩ := s
        obtain ⟨hk, hturn⟩ := hI
        dsimp only at hk hturn IH2 ⊢
        -- heap: b20 b3 b2
        -- ptr: 2=b2 3=b3
        refine GoH.seq ?_
        refine GoH.region ?_
        refine GoH.v (Vop.bin rfl rfl rfl rfl bLt rfl) ?_
        refine GoH.regionEnd ?_
        refine GoH.seq ?_
        refine GoH.cond rfl (fun hc => ?_) (fun hc => ?_)
        · -- yes
          have hlt : k < na := by simpa using hc
          refine GoH.skip ?_
          refine GoH.seq ?_
          refine GoH.block ?_
          refine GoH.seq ?_
          refine GoH.region ?_
          refine GoH.v (Vop.mv rfl rfl rfl rfl) ?_
          refine GoH.v (Vop.asg rfl rfl rfl rfl) ?_
          refine GoH.regionEnd ?_
          refine GoH.seq ?_
          refine GoH.region ?_
          refine GoH.v (Vop.asg rfl rfl rfl rfl) ?_
          refine GoH.regionEnd ?_
          refine GoH.block ?_
          refine GoH.loop (σ := Nat × List W64 × Bool) (fun s => [(2, .pointer (some ⟨b2, 0, none⟩)), (3, .pointer (some ⟨b3, 0, none⟩)), (7, .slice (some ⟨b20, 0, none⟩) na na), (9, .bool s.2.2), (35, .int .i64 na), (36, .int .i64 k), (10, .int .i64 k), (11, .int .i64 s.1)])
            (fun s => [(some b20, ob U 44 s.2.1 []), (some b3, .cells b.v.cells 25 (0, 0)), (some b2, .cells a.v.cells 25 (0, 0))])
            (fun s => s.1 ≤ nb ∧ RowR a.val b.val a.rel b.rel na nb z0 k s.1 s.2.1 s.2.2) (fun s => nb - s.1) (0, z, ch) ⟨Nat.zero_le _, RowR.start hturn⟩ ⟨rfl, rfl, rfl, rfl, rfl, rfl, rfl, rfl, trivial⟩ (List.Sublist.refl _) (fun s hI IH3 => ?_)
          obtain ⟨x, z2, ch2⟩ := s
          obtain ⟨hxk, hrow⟩ := hI
          dsimp only at hxk hrow IH3 ⊢
          -- heap: b20 b3 b2
          -- ptr: 2=b2 3=b3
          refine GoH.seq ?_
          refine GoH.seq ?_
          refine GoH.region ?_
          refine GoH.v (Vop.mv rfl rfl rfl rfl) ?_
          refine GoH.v (Vop.fldP rfl rfl rfl rfl Tryd.underlying25 rfl (by exact Tryd.sizeOf3) 0 rfl) ?_
          refine GoH.v (Vop.ldo (v := .int .i64 b.n) rfl rfl rfl rfl Tryd.isAgg3 1 rfl rfl) ?_
          refine GoH.v (Vop.bin rfl rfl rfl rfl bLt rfl) ?_
          refine GoH.regionEnd ?_
          refine GoH.cond rfl (fun hc => ?_) (fun hc => ?_)
          · -- yes
            have hxb : (x : Int) < b.n := by simpa using hc
            have hz2 := hrow.turn.inv.len
            have hls2 : k < z2.length := by omega
            refine GoH.skip ?_
            refine GoH.seq ?_
            refine GoH.block ?_
            refine GoH.seq ?_
            refine GoH.region ?_
            refine GoH.v (Vop.mv rfl rfl rfl rfl) ?_
            refine GoH.v (Vop.mv rfl rfl rfl rfl) ?_
            refine GoH.v (Vop.idxS rfl rfl rfl rfl rfl Tryd.underlying22 Tryd.sizeOf44 (k) ⟨rfl, hlt⟩) ?_
            refine GoH.v (Vop.ldE U 0#64 rfl rfl rfl rfl Tryd.isAgg44 0 rfl hls2) ?_
            refine GoH.v (Vop.mv rfl rfl rfl rfl) ?_
            refine GoH.callP rfl rfl rfl rfl rfl (fun _ _ => Tryd.call43 _ _) (fun w _ hS => rBit_c (z2.getD k 0#64) x w) ?_
            refine GoH.v (Vop.mv rfl rfl rfl rfl) ?_
            -- guard on slot 51 (ref.go:197)
            refine GoH.cases (d := 51) rfl (fun hc => ?_) (fun hc => ?_)
            · -- yes
              have hbit : Rl z2 k x := hc
              refine GoH.v (Vop.ldB rfl rfl rfl rfl Tryd.isAgg25 2 rfl Tryd.sizeOf25 rfl) ?_
              refine GoH.v (Vop.ldB rfl rfl rfl rfl Tryd.isAgg25 1 rfl Tryd.sizeOf25 rfl) ?_
              refine GoH.v (Vop.mv rfl rfl rfl rfl) ?_
              refine GoH.v (Vop.mv rfl rfl rfl rfl) ?_
              refine GoH.v (Vop.mv rfl rfl rfl rfl) ?_
              refine GoH.callP rfl rfl rfl rfl rfl (fun _ _ => Tryd.call44 _ _) (fun w _ hS => (by
              have := rpair_c a b (some ⟨b20, 0, none⟩) na z2 k x w (ha.ex0 hS.ext) (hb.ex0 hS.ext) hva hvb hlr (SlU.own hS (j := 0) rfl) (by omega) (by omega) hxb
              rw [hz2] at this
              exact this)) ?_
              refine GoH.v (Vop.un rfl rfl rfl uNot rfl) ?_
              refine GoH.v (Vop.pickT rfl rfl rfl rfl rfl) ?_
              refine GoH.regionEnd ?_
              refine GoH.cond rfl (fun hc => ?_) (fun hc => ?_)
              · -- yes
                have h5 : matB a.val b.val a.rel b.rel z2 k x = false := by simpa using hc
                refine GoH.seq ?_
                refine GoH.draw 8 mixed rfl ?_
                refine RdGo.v (Vop.mv rfl rfl rfl rfl) ?_
                refine RdGo.v (Vop.mv rfl rfl rfl rfl) ?_
                refine RdGo.v (Vop.idxS rfl rfl rfl rfl rfl Tryd.underlying22 Tryd.sizeOf44 (k) ⟨rfl, hlt⟩) ?_
                refine RdGo.v (Vop.ldE U 0#64 rfl rfl rfl rfl Tryd.isAgg44 0 rfl hls2) ?_
                refine RdGo.v (Vop.mv rfl rfl rfl rfl) ?_
                refine RdGo.v (Vop.bin (a := U 1#64) rfl rfl rfl rfl (bShl x rfl) rfl) ?_
                refine RdGo.v (Vop.bin rfl rfl rfl rfl bSubU rfl) ?_
                refine RdGo.v (Vop.idxS rfl rfl rfl rfl rfl Tryd.underlying22 Tryd.sizeOf44 (k) ⟨rfl, hlt⟩) ?_
                refine RdGo.nil ?_
                refine GoH.stE U _ rfl rfl rfl rfl Tryd.sizeOf44 rfl 0 rfl hls2 ?_
                refine GoH.regionEnd ?_
                refine GoH.region ?_
                refine GoH.v (Vop.asg rfl rfl rfl rfl) ?_
                refine GoH.regionEnd ?_
                refine GoH.inBlock ?_
                refine GoH.region ?_
                refine GoH.v (Vop.mv rfl rfl rfl rfl) ?_
                refine GoH.v (Vop.bin rfl rfl rfl rfl (bAdd (by omega)) rfl) ?_
                refine GoH.v (Vop.asg rfl rfl rfl rfl) ?_
                refine GoH.regionEnd ?_
                exact IH3 (x + 1, delZ z2 k x, true) _ _ ⟨by dsimp only; omega, hrow.del hbit h5⟩ (by dsimp only; omega) ⟨rfl, rfl, rfl, rfl, rfl, rfl, rfl, rfl, trivial⟩ (by rw [← delZ_sub hbit]; exact List.Sublist.refl _)
              · -- no
                have h5 : matB a.val b.val a.rel b.rel z2 k x = true := by simpa using hc
                refine GoH.skip ?_
                refine GoH.inBlock ?_
                refine GoH.region ?_
                refine GoH.v (Vop.mv rfl rfl rfl rfl) ?_
                refine GoH.v (Vop.bin rfl rfl rfl rfl (bAdd (by omega)) rfl) ?_
                refine GoH.v (Vop.asg rfl rfl rfl rfl) ?_
                refine GoH.regionEnd ?_
                exact IH3 (x + 1, z2, ch2) _ _ ⟨by dsimp only; omega, hrow.keep (fun _ => h5)⟩ (by dsimp only; omega) ⟨rfl, rfl, rfl, rfl, rfl, rfl, rfl, rfl, trivial⟩ (List.Sublist.refl _)
            · -- no
              have hbit : ¬ Rl z2 k x := fun h => by rw [show (z2.getD k 0#64).getLsbD x = true from h] at hc; cases hc
              refine GoH.no rfl rfl rfl rfl ?_
              refine GoH.no rfl rfl rfl rfl ?_
              refine GoH.no rfl rfl rfl rfl ?_
              refine GoH.no rfl rfl rfl rfl ?_
              refine GoH.no rfl rfl rfl rfl ?_
              refine GoH.no rfl rfl rfl rfl ?_
              refine GoH.no rfl rfl rfl rfl ?_
              refine GoH.v (Vop.pickF rfl rfl rfl rfl rfl) ?_
              refine GoH.regionEnd ?_
              refine GoH.condF rfl ?_
              refine GoH.skip ?_
              refine GoH.inBlock ?_
              refine GoH.region ?_
              refine GoH.v (Vop.mv rfl rfl rfl rfl) ?_
              refine GoH.v (Vop.bin rfl rfl rfl rfl (bAdd (by omega)) rfl) ?_
              refine GoH.v (Vop.asg rfl rfl rfl rfl) ?_
              refine GoH.regionEnd ?_
              exact IH3 (x + 1, z2, ch2) _ _ ⟨by dsimp only; omega, hrow.keep (fun h => absurd h hbit)⟩ (by dsimp only; omega) ⟨rfl, rfl, rfl, rfl, rfl, rfl, rfl, rfl, trivial⟩ (List.Sublist.refl _)
          · -- no
            have hxb : ¬ (x : Int) < b.n := by simpa using hc
            refine GoH.exit rfl ?_
            refine GoH.inBlock ?_
            refine GoH.region ?_
            refine GoH.v (Vop.bin rfl rfl rfl rfl (bAdd (by omega)) rfl) ?_
            refine GoH.v (Vop.mv rfl rfl rfl rfl) ?_
            refine GoH.regionEnd ?_
            exact IH2 (k + 1, z2, ch2) _ _ ⟨hlt, hrow.end (by omega)⟩ (by dsimp only; omega) ⟨rfl, rfl, rfl, rfl, rfl, rfl, trivial⟩ (List.Sublist.refl _)
        · -- no
          have hge : ¬ k < na := by simpa using hc
          refine GoH.exit rfl ?_
          refine GoH.inBlock ?_
          exact IH (z, ch) _ _ ⟨hturn.inv, fun e => by subst e; exact hturn.grt (by omega)⟩ hturn.meas ⟨rfl, rfl, rfl, rfl, trivial⟩ (List.Sublist.refl _)
      · -- no
        obtain rfl : ch0 = false := hc
        have hg := hgr rfl
        refine GoH.exit rfl ?_
        refine GoH.seq ?_
        refine GoH.region ?_
        refine GoH.v (Vop.mv rfl rfl rfl rfl) ?_
        refine GoH.v (Vop.asg rfl rfl rfl rfl) ?_
        refine GoH.v (Vop.asg rfl rfl rfl rfl) ?_
        refine GoH.regionEnd ?_
        refine GoH.ret Tryd.f22 Tryd.func22 rfl (fun w' hS => ?_)
        refine ⟨hS.ext, _, z0, by rw [h1]; rfl, OwnS.one hS 0 rfl hg.len.symm, fun e => absurd h1 e, fun _ => ?_⟩
        rw [hna, hnb]
        exact hg
set_option maxRecDepth 8000 in
theorem rbisimilar_c (a b : MV) (v x : Int) (w : World) (ha : a.At w) (hb : b.At w) :
    Cn Tryd.prog 24 [a.v, .int .i64 v, b.v, .int .i64 x] w (fun r _ => ∃ y : Bool, r = .tuple #[.bool y, .int .i64 (bisE a.n a.val a.rel b.n b.val b.rel v x)] ∧ BisY a.n a.val a.rel b.n b.val b.rel v x y) := by
  refine Cn.of Tryd.func24 rfl rfl ?_
  refine GoH.seq ?_
  refine GoH.region ?_
  refine GoH.bx rfl rfl rfl rfl (fun b4 => ?_)
  refine GoH.bx rfl rfl rfl rfl (fun b6 => ?_)
  refine GoH.v (Vop.asg rfl rfl rfl rfl) ?_
  refine GoH.v (Vop.asg rfl rfl rfl rfl) ?_
  refine GoH.regionEnd ?_
  refine GoH.seq ?_
  refine GoH.region ?_
  refine GoH.v (Vop.ldB rfl rfl rfl rfl Tryd.isAgg25 1 rfl Tryd.sizeOf25 rfl) ?_
  refine GoH.v (Vop.ldB rfl rfl rfl rfl Tryd.isAgg25 0 rfl Tryd.sizeOf25 rfl) ?_
  refine GoH.callM _ rfl rfl rfl rfl rfl (fun _ _ => Tryd.call22 _ _) (fun w _ hS => rbetween_c a b w (ha.ex0 hS.ext) (hb.ex0 hS.ext)) ?_
  rintro r w1 w2 Y' hS he ⟨sv, z, rfl, ho, hz⟩
  obtain ⟨q, cap, sp, rfl, hq, hcap, hS'⟩ := gainS hS he ho
  refine ⟨_, hS', ?_⟩
  -- heap: q b6 b4
  refine GoH.v (Vop.mv rfl rfl rfl rfl) ?_
  refine GoH.v (Vop.ext rfl rfl rfl rfl rfl) ?_
  refine GoH.v (Vop.ext rfl rfl rfl rfl rfl) ?_
  refine GoH.v (Vop.asg rfl rfl rfl rfl) ?_
  refine GoH.v (Vop.asg rfl rfl rfl rfl) ?_
  refine GoH.regionEnd ?_
  refine GoH.seq ?_
  refine GoH.seq ?_
  refine GoH.region ?_
  refine GoH.v (Vop.mv rfl rfl rfl rfl) ?_
  refine GoH.v (Vop.bin rfl rfl rfl rfl bNe rfl) ?_
  refine GoH.regionEnd ?_
  refine GoH.cond rfl (fun hc => ?_) (fun hc => ?_)
  · -- yes
    have h1 : bothE a.n a.val a.rel b.n b.val b.rel ≠ 0 := by simpa using hc
    have h2 : bisE a.n a.val a.rel b.n b.val b.rel v x = bothE a.n a.val a.rel b.n b.val b.rel := if_pos h1
    refine GoH.seq ?_
    refine GoH.region ?_
    refine GoH.v (Vop.mv rfl rfl rfl rfl) ?_
    refine GoH.v (Vop.asg rfl rfl rfl rfl) ?_
    refine GoH.v (Vop.asg rfl rfl rfl rfl) ?_
    refine GoH.regionEnd ?_
    refine GoH.ret Tryd.f24 Tryd.func24 rfl (fun w' hS => ?_)
    exact ⟨hS.ext, false, by rw [h2]; rfl, fun _ => rfl, fun e => absurd (h2.symm.trans e) h1⟩
  · -- no
    have h1 : bothE a.n a.val a.rel b.n b.val b.rel = 0 := by simpa using hc
    refine GoH.skip ?_
    refine GoH.seq ?_
    refine GoH.seq ?_
    refine GoH.region ?_
    refine GoH.v (Vop.mv rfl rfl rfl rfl) ?_
    refine GoH.v (Vop.bin rfl rfl rfl rfl bLt rfl) ?_
    refine GoH.v (Vop.mv rfl rfl rfl rfl) ?_
    -- guard on slot 23 (ref.go:213)
    refine GoH.cases (d := 23) rfl (fun hc => ?_) (fun hc => ?_)
    · -- yes
      have h2 : bisE a.n a.val a.rel b.n b.val b.rel v x = 2 := by rw [bisE, if_neg (by simp [h1]), if_pos (.inl (by simpa using hc))]
      refine GoH.no rfl rfl rfl rfl ?_
      refine GoH.no rfl rfl rfl rfl ?_
      refine GoH.no rfl rfl rfl rfl ?_
      refine GoH.no rfl rfl rfl rfl ?_
      refine GoH.v (Vop.pickT rfl rfl rfl rfl rfl) ?_
      refine GoH.v (Vop.mv rfl rfl rfl rfl) ?_
      refine GoH.no rfl rfl rfl rfl ?_
      refine GoH.no rfl rfl rfl rfl ?_
      refine GoH.v (Vop.pickT rfl rfl rfl rfl rfl) ?_
      refine GoH.v (Vop.mv rfl rfl rfl rfl) ?_
      refine GoH.no rfl rfl rfl rfl ?_
      refine GoH.no rfl rfl rfl rfl ?_
      refine GoH.no rfl rfl rfl rfl ?_
      refine GoH.no rfl rfl rfl rfl ?_
      refine GoH.v (Vop.pickT rfl rfl rfl rfl rfl) ?_
      refine GoH.regionEnd ?_
      refine GoH.condT rfl ?_
      refine GoH.seq ?_
      refine GoH.region ?_
      refine GoH.v (Vop.asg rfl rfl rfl rfl) ?_
      refine GoH.v (Vop.asg rfl rfl rfl rfl) ?_
      refine GoH.regionEnd ?_
      refine GoH.ret Tryd.f24 Tryd.func24 rfl (fun w' hS => ?_)
      exact ⟨hS.ext, false, by rw [h2]; rfl, fun _ => rfl, fun e => absurd (h2.symm.trans e) (by decide)⟩
    · -- no
      have hv0 : ¬ v < 0 := by simpa using hc
      refine GoH.v (Vop.mv rfl rfl rfl rfl) ?_
      refine GoH.v (Vop.fldP rfl rfl rfl rfl Tryd.underlying25 rfl (by exact Tryd.sizeOf3) 0 rfl) ?_
      refine GoH.v (Vop.ldo (v := .int .i64 a.n) rfl rfl rfl rfl Tryd.isAgg3 2 rfl rfl) ?_
      refine GoH.v (Vop.bin rfl rfl rfl rfl bGe rfl) ?_
      refine GoH.v (Vop.pickF rfl rfl rfl rfl rfl) ?_
      refine GoH.v (Vop.mv rfl rfl rfl rfl) ?_
      -- guard on slot 29 (ref.go:213)
      refine GoH.cases (d := 29) rfl (fun hc => ?_) (fun hc => ?_)
      · -- yes
        have h2 : bisE a.n a.val a.rel b.n b.val b.rel v x = 2 := by rw [bisE, if_neg (by simp [h1]), if_pos (.inr (.inl (by simpa using hc)))]
        refine GoH.no rfl rfl rfl rfl ?_
        refine GoH.no rfl rfl rfl rfl ?_
        refine GoH.v (Vop.pickT rfl rfl rfl rfl rfl) ?_
        refine GoH.v (Vop.mv rfl rfl rfl rfl) ?_
        refine GoH.no rfl rfl rfl rfl ?_
        refine GoH.no rfl rfl rfl rfl ?_
        refine GoH.no rfl rfl rfl rfl ?_
        refine GoH.no rfl rfl rfl rfl ?_
        refine GoH.v (Vop.pickT rfl rfl rfl rfl rfl) ?_
        refine GoH.regionEnd ?_
        refine GoH.condT rfl ?_
        refine GoH.seq ?_
        refine GoH.region ?_
        refine GoH.v (Vop.asg rfl rfl rfl rfl) ?_
        refine GoH.v (Vop.asg rfl rfl rfl rfl) ?_
        refine GoH.regionEnd ?_
        refine GoH.ret Tryd.f24 Tryd.func24 rfl (fun w' hS => ?_)
        exact ⟨hS.ext, false, by rw [h2]; rfl, fun _ => rfl, fun e => absurd (h2.symm.trans e) (by decide)⟩
      · -- no
        have hv1 : ¬ a.n ≤ v := by simpa using hc
        refine GoH.v (Vop.mv rfl rfl rfl rfl) ?_
        refine GoH.v (Vop.bin rfl rfl rfl rfl bLt rfl) ?_
        refine GoH.v (Vop.pickF rfl rfl rfl rfl rfl) ?_
        refine GoH.v (Vop.mv rfl rfl rfl rfl) ?_
        -- guard on slot 33 (ref.go:213)
        refine GoH.cases (d := 33) rfl (fun hc => ?_) (fun hc => ?_)
        · -- yes
          have h2 : bisE a.n a.val a.rel b.n b.val b.rel v x = 2 := by rw [bisE, if_neg (by simp [h1]), if_pos (.inr (.inr (.inl (by simpa using hc))))]
          refine GoH.no rfl rfl rfl rfl ?_
          refine GoH.no rfl rfl rfl rfl ?_
          refine GoH.no rfl rfl rfl rfl ?_
          refine GoH.no rfl rfl rfl rfl ?_
          refine GoH.v (Vop.pickT rfl rfl rfl rfl rfl) ?_
          refine GoH.regionEnd ?_
          refine GoH.condT rfl ?_
          refine GoH.seq ?_
          refine GoH.region ?_
          refine GoH.v (Vop.asg rfl rfl rfl rfl) ?_
          refine GoH.v (Vop.asg rfl rfl rfl rfl) ?_
          refine GoH.regionEnd ?_
          refine GoH.ret Tryd.f24 Tryd.func24 rfl (fun w' hS => ?_)
          exact ⟨hS.ext, false, by rw [h2]; rfl, fun _ => rfl, fun e => absurd (h2.symm.trans e) (by decide)⟩
        · -- no
          have hx0 : ¬ x < 0 := by simpa using hc
          refine GoH.v (Vop.mv rfl rfl rfl rfl) ?_
          refine GoH.v (Vop.fldP rfl rfl rfl rfl Tryd.underlying25 rfl (by exact Tryd.sizeOf3) 0 rfl) ?_
          refine GoH.v (Vop.ldo (v := .int .i64 b.n) rfl rfl rfl rfl Tryd.isAgg3 1 rfl rfl) ?_
          refine GoH.v (Vop.bin rfl rfl rfl rfl bGe rfl) ?_
          refine GoH.v (Vop.pickF rfl rfl rfl rfl rfl) ?_
          refine GoH.regionEnd ?_
          refine GoH.cond rfl (fun hc => ?_) (fun hc => ?_)
          · -- yes
            have h2 : bisE a.n a.val a.rel b.n b.val b.rel v x = 2 := by rw [bisE, if_neg (by simp [h1]), if_pos (.inr (.inr (.inr (by simpa using hc))))]
            refine GoH.seq ?_
            refine GoH.region ?_
            refine GoH.v (Vop.asg rfl rfl rfl rfl) ?_
            refine GoH.v (Vop.asg rfl rfl rfl rfl) ?_
            refine GoH.regionEnd ?_
            refine GoH.ret Tryd.f24 Tryd.func24 rfl (fun w' hS => ?_)
            exact ⟨hS.ext, false, by rw [h2]; rfl, fun _ => rfl, fun e => absurd (h2.symm.trans e) (by decide)⟩
          · -- no
            have hx1 : ¬ b.n ≤ x := by simpa using hc
            have h2 : bisE a.n a.val a.rel b.n b.val b.rel v x = 0 := by rw [bisE, if_neg (by simp [h1]), if_neg (by omega)]
            obtain ⟨v, rfl⟩ : ∃ V : Nat, v = V := ⟨v.toNat, by omega⟩
            obtain ⟨x, rfl⟩ : ∃ V : Nat, x = V := ⟨x.toNat, by omega⟩
            have hg := hz.2 h1
            have hzl := hg.len
            obtain ⟨b0, rfl⟩ : ∃ b0, q = some b0 := by
              cases q with
              | none => have := (hq rfl).1; omega
              | some b0 => exact ⟨b0, rfl⟩
            have hlt : v < z.length := by omega
            refine GoH.skip ?_
            refine GoH.seq ?_
            refine GoH.region ?_
            refine GoH.v (Vop.mv rfl rfl rfl rfl) ?_
            refine GoH.v (Vop.mv rfl rfl rfl rfl) ?_
            refine GoH.v (Vop.idxS rfl rfl rfl rfl rfl Tryd.underlying22 Tryd.sizeOf44 (v) ⟨rfl, hlt⟩) ?_
            refine GoH.v (Vop.ldE U 0#64 rfl rfl rfl rfl Tryd.isAgg44 0 rfl hlt) ?_
            refine GoH.v (Vop.mv rfl rfl rfl rfl) ?_
            refine GoH.callP rfl rfl rfl rfl rfl (fun _ _ => Tryd.call43 _ _) (fun w _ hS => rBit_c (z.getD v 0#64) x w) ?_
            refine GoH.v (Vop.asg rfl rfl rfl rfl) ?_
            refine GoH.v (Vop.asg rfl rfl rfl rfl) ?_
            refine GoH.regionEnd ?_
            refine GoH.ret Tryd.f24 Tryd.func24 rfl (fun w' hS => ?_)
            refine ⟨hS.ext, (z.getD v 0#64).getLsbD x, ?_, fun e => absurd h2 e, fun _ z' hz' => by rw [hz.uniq hz']; rfl⟩
            rw [h2]
            rfl
end Go.Proofs.YtpifbcbdbkbbjaaDoor
