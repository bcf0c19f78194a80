/- Contracts of functions of the program: what each call returns and that nothing else of memory is turned, under the conditions that each theorem states. -/
import Derived.Test.YtcljmlnnfdaljaaDoorS37
import Derived.Test.YtcljmlnnfdaljaaDoorS38
namespace Go.Proofs.YtcljmlnnfdaljaaDoor
open Go.RowKit Go.Proofs.Wit
/-! the reference's checker -/
set_option maxRecDepth 4000 in
theorem wOne_c (m : MV) (n : Nat) (nd : NV) (x y : W64) (w : World) (hm : m.At w) (hv : ValM m.n m.val m.rel) (hn : m.n = (n : Int)) (hf : NdFit m.rows.length m.val.length nd) :
    Cn Tryd.prog 60 [m.v, nd.v, U x, U y] w (fun v _ => v = U (oneW n m.val m.rel nd.op nd.i nd.g x y)) := by
  obtain ⟨op, i, e, g, nx, ny⟩ := nd
  obtain ⟨f1, f13, ff, fa, fg⟩ := hf
  dsimp only at f1 f13 ff fa fg ⊢
  have hn64 := hv.n64
  have hn1 := hv.n1
  have hag := hv.agents
  have hrl : m.rel.length = m.rows.length := by simp [MV.rel]
  have hrow : ∀ (k : Nat) (hk : k < m.rows.length), (m.rows[k]).At w ∧ m.rows[k].xs.length = n := fun k hk => ⟨hm.row m.rows[k] (List.getElem_mem hk), by have := hv.len _ (List.mem_map.2 ⟨m.rows[k], List.getElem_mem hk, rfl⟩ : m.rows[k].xs ∈ m.rel); omega⟩
  refine Cn.of Tryd.func60 rfl rfl ?_
  refine GoH.seq ?_
  refine GoH.region ?_
  refine GoH.bx rfl rfl rfl rfl (fun b4 => ?_)
  refine GoH.bx rfl rfl rfl rfl (fun b5 => ?_)
  refine GoH.v (Vop.asg (v := U 0#64) rfl rfl rfl rfl) ?_
  refine GoH.regionEnd ?_
  refine GoH.seq ?_
  refine GoH.region ?_
  refine GoH.v (Vop.fldP rfl rfl rfl rfl Tryd.underlying25 rfl (by exact Tryd.sizeOf3) 0 rfl) ?_
  refine GoH.v (Vop.ldo (v := .int .i64 m.n) rfl rfl rfl rfl Tryd.isAgg3 1 rfl rfl) ?_
  refine GoH.callP rfl rfl rfl rfl rfl (fun _ _ => Tryd.call52 _ _) (fun w _ hS => (by have := rmAll_c n w (by omega); rw [← hn] at this; exact this)) ?_
  refine GoH.v (Vop.asg rfl rfl rfl rfl) ?_
  refine GoH.regionEnd ?_
  refine GoH.seq ?_
  refine GoH.seq ?_
  refine GoH.region ?_
  refine GoH.v (Vop.fldP rfl rfl rfl rfl Tryd.underlying43 rfl (by exact Tryd.sizeOf3) 0 rfl) ?_
  refine GoH.v (Vop.ldo rfl rfl rfl rfl Tryd.isAgg3 0 rfl rfl) ?_
  refine GoH.v (Vop.bin rfl rfl rfl rfl bEq rfl) ?_
  refine GoH.regionEnd ?_
  refine GoH.cond rfl (fun hc => ?_) (fun hc => ?_)
  · -- yes
    have h3 : op = 3 := by simpa using hc
    obtain ⟨hi0, hi1⟩ := ff h3
    obtain ⟨i, rfl⟩ := Int.eq_ofNat_of_zero_le hi0
    rw [Int.toNat_natCast] at hi1
    refine GoH.seq ?_
    refine GoH.region ?_
    refine GoH.v (Vop.fldP rfl rfl rfl rfl Tryd.underlying25 rfl (by exact Tryd.sizeOf22) 1 rfl) ?_
    refine GoH.v (Vop.ldo (v := .slice m.va m.val.length m.vc) rfl rfl rfl rfl Tryd.isAgg22 1 rfl rfl) ?_
    refine GoH.v (Vop.fldP rfl rfl rfl rfl Tryd.underlying43 rfl (by exact Tryd.sizeOf3) 1 rfl) ?_
    refine GoH.v (Vop.ldo rfl rfl rfl rfl Tryd.isAgg3 0 rfl rfl) ?_
    refine GoH.v (Vop.idx rfl rfl rfl rfl rfl Tryd.underlying22 Tryd.sizeOf33 ⟨_, hm.val⟩ (by simp) (i) ⟨rfl, by simpa using hi1⟩) ?_
    refine GoH.v (Vop.ld rfl rfl rfl rfl Tryd.isAgg33 (fun w _ hS => (SlU.ex0 hm.val hS.ext).at (i) hi1)) ?_
    refine GoH.v (Vop.asg rfl rfl rfl rfl) ?_
    refine GoH.regionEnd ?_
    refine GoH.ret Tryd.f60 Tryd.func60 rfl (fun w' hS => ?_)
    exact ⟨hS.ext, by rw [oneW, if_pos h3]; rfl⟩
  · -- no
    have h3 : ¬ op = 3 := by simpa using hc
    refine GoH.skip ?_
    refine GoH.seq ?_
    refine GoH.seq ?_
    refine GoH.region ?_
    refine GoH.v (Vop.fldP rfl rfl rfl rfl Tryd.underlying43 rfl (by exact Tryd.sizeOf3) 0 rfl) ?_
    refine GoH.v (Vop.ldo rfl rfl rfl rfl Tryd.isAgg3 0 rfl rfl) ?_
    refine GoH.v (Vop.bin rfl rfl rfl rfl bLe rfl) ?_
    refine GoH.regionEnd ?_
    refine GoH.cond rfl (fun hc => ?_) (fun hc => ?_)
    · -- yes
      have h8 : op ≤ 8 := by simpa using hc
      refine GoH.seq ?_
      refine GoH.region ?_
      refine GoH.v (Vop.fldP rfl rfl rfl rfl Tryd.underlying43 rfl (by exact Tryd.sizeOf3) 0 rfl) ?_
      refine GoH.v (Vop.ldo rfl rfl rfl rfl Tryd.isAgg3 0 rfl rfl) ?_
      refine GoH.v (Vop.mv rfl rfl rfl rfl) ?_
      refine GoH.v (Vop.mv rfl rfl rfl rfl) ?_
      refine GoH.v (Vop.mv rfl rfl rfl rfl) ?_
      refine GoH.callP rfl rfl rfl rfl rfl (fun _ _ => Tryd.call77 _ _) (fun w _ hS => (by exact wBool_c op x y (allW n) w)) ?_
      refine GoH.v (Vop.asg rfl rfl rfl rfl) ?_
      refine GoH.regionEnd ?_
      refine GoH.ret Tryd.f60 Tryd.func60 rfl (fun w' hS => ?_)
      exact ⟨hS.ext, by rw [oneW, if_neg h3, if_pos h8]; rfl⟩
    · -- no
      have h8 : ¬ op ≤ 8 := by simpa using hc
      refine GoH.skip ?_
      refine GoH.seq ?_
      refine GoH.seq ?_
      refine GoH.region ?_
      refine GoH.v (Vop.fldP rfl rfl rfl rfl Tryd.underlying43 rfl (by exact Tryd.sizeOf3) 0 rfl) ?_
      refine GoH.v (Vop.ldo rfl rfl rfl rfl Tryd.isAgg3 0 rfl rfl) ?_
      refine GoH.v (Vop.bin rfl rfl rfl rfl bEq rfl) ?_
      refine GoH.regionEnd ?_
      refine GoH.cond rfl (fun hc => ?_) (fun hc => ?_)
      · -- yes
        have h9 : op = 9 := by simpa using hc
        obtain ⟨hi0, hi1⟩ := fa (.inl h9)
        obtain ⟨i, rfl⟩ := Int.eq_ofNat_of_zero_le hi0
        rw [Int.toNat_natCast] at hi1
        refine GoH.seq ?_
        refine GoH.draw 11 mixed rfl ?_
        refine RdGo.v (Vop.fldP rfl rfl rfl rfl Tryd.underlying25 rfl (by exact Tryd.sizeOf23) 2 rfl) ?_
        refine RdGo.v (Vop.ldo (v := .slice m.ra m.rows.length m.rc) rfl rfl rfl rfl Tryd.isAgg23 1 rfl rfl) ?_
        refine RdGo.v (Vop.fldP rfl rfl rfl rfl Tryd.underlying43 rfl (by exact Tryd.sizeOf3) 1 rfl) ?_
        refine RdGo.v (Vop.ldo rfl rfl rfl rfl Tryd.isAgg3 0 rfl rfl) ?_
        refine RdGo.v (Vop.idx rfl rfl rfl rfl rfl Tryd.underlying23 Tryd.sizeOf22 ⟨_, hm.rel⟩ (by simp) (i) ⟨rfl, by simpa using hi1⟩) ?_
        refine RdGo.v (Vop.ld rfl rfl rfl rfl Tryd.isAgg22 (fun w _ hS => (SlR.ex0 hm.rel hS.ext).at (i) hi1)) ?_
        refine RdGo.v (Vop.fldP rfl rfl rfl rfl Tryd.underlying25 rfl (by exact Tryd.sizeOf3) 0 rfl) ?_
        refine RdGo.v (Vop.ldo (v := .int .i64 m.n) rfl rfl rfl rfl Tryd.isAgg3 1 rfl rfl) ?_
        refine RdGo.v (Vop.mv rfl rfl rfl rfl) ?_
        refine RdGo.callP rfl rfl rfl rfl rfl (fun _ _ => Tryd.call78 _ _) (fun w _ hS => (by have := wBox_c m.rows[i].a m.rows[i].cap m.rows[i].xs n x w ((hrow i hi1).1.ex0 hS.ext).at_ (hrow i hi1).2 (by omega); rw [← hn] at this; exact this)) ?_
        refine RdGo.v (Vop.asg rfl rfl rfl rfl) ?_
        refine RdGo.nil ?_
        refine GoH.regionEnd ?_
        refine GoH.ret Tryd.f60 Tryd.func60 rfl (fun w' hS => ?_)
        exact ⟨hS.ext, by rw [oneW, if_neg h3, if_neg h8, if_pos h9, Int.toNat_natCast, relD hi1]; rfl⟩
      · -- no
        have h9 : ¬ op = 9 := by simpa using hc
        refine GoH.skip ?_
        refine GoH.seq ?_
        refine GoH.seq ?_
        refine GoH.region ?_
        refine GoH.v (Vop.fldP rfl rfl rfl rfl Tryd.underlying43 rfl (by exact Tryd.sizeOf3) 0 rfl) ?_
        refine GoH.v (Vop.ldo rfl rfl rfl rfl Tryd.isAgg3 0 rfl rfl) ?_
        refine GoH.v (Vop.bin rfl rfl rfl rfl bEq rfl) ?_
        refine GoH.regionEnd ?_
        refine GoH.cond rfl (fun hc => ?_) (fun hc => ?_)
        · -- yes
          have h10 : op = 10 := by simpa using hc
          obtain ⟨hi0, hi1⟩ := fa (.inr h10)
          obtain ⟨i, rfl⟩ := Int.eq_ofNat_of_zero_le hi0
          rw [Int.toNat_natCast] at hi1
          refine GoH.seq ?_
          refine GoH.draw 15 mixed rfl ?_
          refine RdGo.v (Vop.mv rfl rfl rfl rfl) ?_
          refine RdGo.v (Vop.fldP rfl rfl rfl rfl Tryd.underlying25 rfl (by exact Tryd.sizeOf23) 2 rfl) ?_
          refine RdGo.v (Vop.ldo (v := .slice m.ra m.rows.length m.rc) rfl rfl rfl rfl Tryd.isAgg23 1 rfl rfl) ?_
          refine RdGo.v (Vop.fldP rfl rfl rfl rfl Tryd.underlying43 rfl (by exact Tryd.sizeOf3) 1 rfl) ?_
          refine RdGo.v (Vop.ldo rfl rfl rfl rfl Tryd.isAgg3 0 rfl rfl) ?_
          refine RdGo.v (Vop.idx rfl rfl rfl rfl rfl Tryd.underlying23 Tryd.sizeOf22 ⟨_, hm.rel⟩ (by simp) (i) ⟨rfl, by simpa using hi1⟩) ?_
          refine RdGo.v (Vop.ld rfl rfl rfl rfl Tryd.isAgg22 (fun w _ hS => (SlR.ex0 hm.rel hS.ext).at (i) hi1)) ?_
          refine RdGo.v (Vop.fldP rfl rfl rfl rfl Tryd.underlying25 rfl (by exact Tryd.sizeOf3) 0 rfl) ?_
          refine RdGo.v (Vop.ldo (v := .int .i64 m.n) rfl rfl rfl rfl Tryd.isAgg3 1 rfl rfl) ?_
          refine RdGo.v (Vop.mv rfl rfl rfl rfl) ?_
          refine RdGo.v (Vop.mv rfl rfl rfl rfl) ?_
          refine RdGo.v (Vop.bin rfl rfl rfl rfl bAndNot rfl) ?_
          refine RdGo.callP rfl rfl rfl rfl rfl (fun _ _ => Tryd.call78 _ _) (fun w _ hS => (by have := wBox_c m.rows[i].a m.rows[i].cap m.rows[i].xs n (allW n &&& ~~~x) w ((hrow i hi1).1.ex0 hS.ext).at_ (hrow i hi1).2 (by omega); rw [← hn] at this; exact this)) ?_
          refine RdGo.v (Vop.bin rfl rfl rfl rfl bAndNot rfl) ?_
          refine RdGo.v (Vop.asg rfl rfl rfl rfl) ?_
          refine RdGo.nil ?_
          refine GoH.regionEnd ?_
          refine GoH.ret Tryd.f60 Tryd.func60 rfl (fun w' hS => ?_)
          exact ⟨hS.ext, by rw [oneW, if_neg h3, if_neg h8, if_neg h9, if_pos h10, Int.toNat_natCast, relD hi1]; rfl⟩
        · -- no
          have h10 : ¬ op = 10 := by simpa using hc
          obtain ⟨hg1, hg2⟩ := fg (by omega)
          obtain ⟨g, rfl⟩ := Int.eq_ofNat_of_zero_le (by omega : 0 ≤ g)
          rw [Int.toNat_natCast] at hg2
          have hg3 : 1 ≤ g := by omega
          refine GoH.skip ?_
          refine GoH.seq ?_
          refine GoH.seq ?_
          refine GoH.region ?_
          refine GoH.v (Vop.fldP rfl rfl rfl rfl Tryd.underlying43 rfl (by exact Tryd.sizeOf3) 0 rfl) ?_
          refine GoH.v (Vop.ldo rfl rfl rfl rfl Tryd.isAgg3 0 rfl rfl) ?_
          refine GoH.v (Vop.bin rfl rfl rfl rfl bEq rfl) ?_
          refine GoH.regionEnd ?_
          refine GoH.cond rfl (fun hc => ?_) (fun hc => ?_)
          · -- yes
            have h11 : op = 11 := by simpa using hc
            refine GoH.seq ?_
            refine GoH.drawXR [0, 1, 2, 4, 5, 6] 3 [7, 8] mixed rfl ?_
            refine RdXR.v (fun _ => (Vop.ldB rfl rfl rfl rfl Tryd.isAgg25 1 rfl Tryd.sizeOf25 rfl)) ?_
            refine RdXR.v (fun _ => (Vop.fldP rfl rfl rfl rfl Tryd.underlying43 rfl (by exact Tryd.sizeOf3) 3 rfl)) ?_
            refine RdXR.v (fun _ => (Vop.ldo rfl rfl rfl rfl Tryd.isAgg3 0 rfl rfl)) ?_
            refine RdXR.v (fun _ => (Vop.fldP rfl rfl rfl rfl Tryd.underlying25 rfl (by exact Tryd.sizeOf3) 0 rfl)) ?_
            refine RdXR.v (fun _ => (Vop.ldo (v := .int .i64 m.n) rfl rfl rfl rfl Tryd.isAgg3 1 rfl rfl)) ?_
            refine RdXR.v (fun _ => (Vop.mv rfl rfl rfl rfl)) ?_
            refine RdXR.call _ rfl rfl rfl rfl rfl (fun _ _ => Tryd.call79 _ _) (fun w _ hS => (by exact rjoinM_c m n g w (hm.ex0 hS.ext) hv hn ⟨hg3, hg2⟩)) ?_
            rintro v w1 w2 Y' hS he ho
            obtain ⟨q, cap, sp, rfl, hq, hcap, hS'⟩ := gainO hS he ho
            refine ⟨_, hS'.atEnd, ?_⟩
            -- heap: b5 b4 q
            refine GoH.callP rfl rfl rfl rfl rfl (fun _ _ => Tryd.call78 _ _) (fun w _ hS => (by have := wBox_c (q.map (fun b => ⟨b, 0, none⟩)) cap (joinL n m.rel g) n x w (sluAt hS 2 rfl (fun e => hq e)) joinTo_len (by omega); rw [← hn] at this; exact this)) ?_
            refine GoH.v (Vop.asg rfl rfl rfl rfl) ?_
            refine GoH.regionEnd ?_
            refine GoH.ret Tryd.f60 Tryd.func60 rfl (fun w' hS => ?_)
            exact ⟨hS.ext, by rw [oneW, if_neg h3, if_neg h8, if_neg h9, if_neg h10, if_pos h11, Int.toNat_natCast]; rfl⟩
          · -- no
            have h11 : ¬ op = 11 := by simpa using hc
            refine GoH.skip ?_
            refine GoH.seq ?_
            refine GoH.seq ?_
            refine GoH.region ?_
            refine GoH.v (Vop.fldP rfl rfl rfl rfl Tryd.underlying43 rfl (by exact Tryd.sizeOf3) 0 rfl) ?_
            refine GoH.v (Vop.ldo rfl rfl rfl rfl Tryd.isAgg3 0 rfl rfl) ?_
            refine GoH.v (Vop.bin rfl rfl rfl rfl bEq rfl) ?_
            refine GoH.regionEnd ?_
            refine GoH.cond rfl (fun hc => ?_) (fun hc => ?_)
            · -- yes
              have h12 : op = 12 := by simpa using hc
              refine GoH.seq ?_
              refine GoH.drawXR [0, 1, 2, 4, 5, 6] 3 [7, 8] mixed rfl ?_
              refine RdXR.v (fun _ => (Vop.ldB rfl rfl rfl rfl Tryd.isAgg25 1 rfl Tryd.sizeOf25 rfl)) ?_
              refine RdXR.v (fun _ => (Vop.fldP rfl rfl rfl rfl Tryd.underlying43 rfl (by exact Tryd.sizeOf3) 3 rfl)) ?_
              refine RdXR.v (fun _ => (Vop.ldo rfl rfl rfl rfl Tryd.isAgg3 0 rfl rfl)) ?_
              refine RdXR.v (fun _ => (Vop.fldP rfl rfl rfl rfl Tryd.underlying25 rfl (by exact Tryd.sizeOf3) 0 rfl)) ?_
              refine RdXR.v (fun _ => (Vop.ldo (v := .int .i64 m.n) rfl rfl rfl rfl Tryd.isAgg3 1 rfl rfl)) ?_
              refine RdXR.v (fun _ => (Vop.mv rfl rfl rfl rfl)) ?_
              refine RdXR.call _ rfl rfl rfl rfl rfl (fun _ _ => Tryd.call80 _ _) (fun w _ hS => (by exact rmeetM_c m n g w (hm.ex0 hS.ext) hv hn ⟨hg3, hg2⟩)) ?_
              rintro v w1 w2 Y' hS he ho
              obtain ⟨q, cap, sp, rfl, hq, hcap, hS'⟩ := gainO hS he ho
              refine ⟨_, hS'.atEnd, ?_⟩
              -- heap: b5 b4 q
              refine GoH.callP rfl rfl rfl rfl rfl (fun _ _ => Tryd.call78 _ _) (fun w _ hS => (by have := wBox_c (q.map (fun b => ⟨b, 0, none⟩)) cap (meetL n m.rel g) n x w (sluAt hS 2 rfl (fun e => hq e)) meetTo_len (by omega); rw [← hn] at this; exact this)) ?_
              refine GoH.v (Vop.asg rfl rfl rfl rfl) ?_
              refine GoH.regionEnd ?_
              refine GoH.ret Tryd.f60 Tryd.func60 rfl (fun w' hS => ?_)
              exact ⟨hS.ext, by rw [oneW, if_neg h3, if_neg h8, if_neg h9, if_neg h10, if_neg h11, if_pos h12, Int.toNat_natCast]; rfl⟩
            · -- no
              have h12 : ¬ op = 12 := by simpa using hc
              refine GoH.skip ?_
              refine GoH.seq ?_
              refine GoH.drawXR [0, 1, 2, 4, 5, 6, 7] 3 [8, 9] mixed rfl ?_
              refine RdXR.v (fun _ => (Vop.ldB rfl rfl rfl rfl Tryd.isAgg25 1 rfl Tryd.sizeOf25 rfl)) ?_
              refine RdXR.v (fun _ => (Vop.fldP rfl rfl rfl rfl Tryd.underlying43 rfl (by exact Tryd.sizeOf3) 3 rfl)) ?_
              refine RdXR.v (fun _ => (Vop.ldo rfl rfl rfl rfl Tryd.isAgg3 0 rfl rfl)) ?_
              refine RdXR.v (fun _ => (Vop.fldP rfl rfl rfl rfl Tryd.underlying25 rfl (by exact Tryd.sizeOf3) 0 rfl)) ?_
              refine RdXR.v (fun _ => (Vop.ldo (v := .int .i64 m.n) rfl rfl rfl rfl Tryd.isAgg3 1 rfl rfl)) ?_
              refine RdXR.v (fun _ => (Vop.mv rfl rfl rfl rfl)) ?_
              refine RdXR.v (fun _ => (Vop.mv rfl rfl rfl rfl)) ?_
              refine RdXR.call _ rfl rfl rfl rfl rfl (fun _ _ => Tryd.call79 _ _) (fun w _ hS => (by exact rjoinM_c m n g w (hm.ex0 hS.ext) hv hn ⟨hg3, hg2⟩)) ?_
              rintro v w1 w2 Y' hS he ho
              obtain ⟨q, cap, sp, rfl, hq, hcap, hS'⟩ := gainO hS he ho
              refine ⟨_, hS'.atEnd, ?_⟩
              -- heap: b5 b4 q
              refine GoH.callP rfl rfl rfl rfl rfl (fun _ _ => Tryd.call81 _ _) (fun w _ hS => (by have := wCommon_c (q.map (fun b => ⟨b, 0, none⟩)) cap (joinL n m.rel g) n x y w (sluAt hS 2 rfl (fun e => hq e)) joinTo_len (by omega); rw [← hn] at this; exact this)) ?_
              refine GoH.v (Vop.asg rfl rfl rfl rfl) ?_
              refine GoH.regionEnd ?_
              refine GoH.ret Tryd.f60 Tryd.func60 rfl (fun w' hS => ?_)
              exact ⟨hS.ext, by rw [oneW, if_neg h3, if_neg h8, if_neg h9, if_neg h10, if_neg h11, if_neg h12, Int.toNat_natCast]; rfl⟩
theorem wCheck_c (m : MV) (a : Option Addr) (ca : Nat) (f : List NV) (w : World) (hm : m.At w) (ha : FA w a f) (hl : f.length ≤ maxLen) :
    Cn Tryd.prog 34 [m.v, .slice a f.length ca, .int .i64 15] w (fun v _ => v = .int .i64 (holdE m.n m.val m.rel f)) := by
  have hrl : m.rel.length = m.rows.length := by simp [MV.rel]
  have hfl := frgL_lt (compF f)
  refine Cn.of Tryd.func34 rfl rfl ?_
  refine GoH.seq ?_
  refine GoH.region ?_
  refine GoH.bx rfl rfl rfl rfl (fun b3 => ?_)
  refine GoH.v (Vop.asg rfl rfl rfl rfl) ?_
  refine GoH.regionEnd ?_
  refine GoH.seq ?_
  refine GoH.region ?_
  refine GoH.v (Vop.ldB rfl rfl rfl rfl Tryd.isAgg25 0 rfl Tryd.sizeOf25 rfl) ?_
  refine GoH.callP rfl rfl rfl rfl rfl (fun _ _ => Tryd.call8 _ _) (fun w _ hS => (by exact rmCheck_c m w (hm.ex0 hS.ext))) ?_
  refine GoH.v (Vop.asg rfl rfl rfl rfl) ?_
  refine GoH.regionEnd ?_
  refine GoH.seq ?_
  refine GoH.seq ?_
  refine GoH.region ?_
  refine GoH.v (Vop.mv rfl rfl rfl rfl) ?_
  refine GoH.v (Vop.bin rfl rfl rfl rfl bNe rfl) ?_
  refine GoH.regionEnd ?_
  refine GoH.cond rfl (fun hc => ?_) (fun hc => ?_)
  · -- yes
    have h1 : checkM m.n m.val m.rel ≠ 0 := by simpa using hc
    refine GoH.seq ?_
    refine GoH.region ?_
    refine GoH.v (Vop.mv rfl rfl rfl rfl) ?_
    refine GoH.v (Vop.asg rfl rfl rfl rfl) ?_
    refine GoH.regionEnd ?_
    refine GoH.ret Tryd.f34 Tryd.func34 rfl (fun w' hS => ?_)
    exact ⟨hS.ext, by rw [holdE, if_pos h1]; rfl⟩
  · -- no
    have h1 : ¬ checkM m.n m.val m.rel ≠ 0 := by simpa using hc
    refine GoH.skip ?_
    refine GoH.seq ?_
    refine GoH.region ?_
    refine GoH.v (Vop.mv rfl rfl rfl rfl) ?_
    refine GoH.callP rfl rfl rfl rfl rfl (fun _ _ => Tryd.call24 _ _) (fun w _ hS => (by exact rchk_c a ca f w (ha.ex0 hS.ext) hl)) ?_
    refine GoH.v (Vop.asg rfl rfl rfl rfl) ?_
    refine GoH.regionEnd ?_
    refine GoH.seq ?_
    refine GoH.seq ?_
    refine GoH.region ?_
    refine GoH.v (Vop.mv rfl rfl rfl rfl) ?_
    refine GoH.v (Vop.bin rfl rfl rfl rfl bNe rfl) ?_
    refine GoH.regionEnd ?_
    refine GoH.cond rfl (fun hc => ?_) (fun hc => ?_)
    · -- yes
      have h2 : chkF f ≠ 0 := by simpa using hc
      refine GoH.seq ?_
      refine GoH.region ?_
      refine GoH.v (Vop.mv rfl rfl rfl rfl) ?_
      refine GoH.v (Vop.asg rfl rfl rfl rfl) ?_
      refine GoH.regionEnd ?_
      refine GoH.ret Tryd.f34 Tryd.func34 rfl (fun w' hS => ?_)
      exact ⟨hS.ext, by rw [holdE, if_neg h1, if_pos h2]; rfl⟩
    · -- no
      have h2 : ¬ chkF f ≠ 0 := by simpa using hc
      refine GoH.skip ?_
      refine GoH.seq ?_
      refine GoH.seq ?_
      refine GoH.region ?_
      refine GoH.v (Vop.mv rfl rfl rfl rfl) ?_
      refine GoH.callP rfl rfl rfl rfl rfl (fun _ _ => Tryd.call11 _ _) (fun w _ hS => (by exact rfrags_c a ca f w (ha.ex0 hS.ext) hl)) ?_
      refine GoH.v (Vop.mv rfl rfl rfl rfl) ?_
      refine GoH.v (Vop.bin rfl rfl rfl rfl (bAndNotI hfl (by omega : (15 : Nat) < 512)) rfl) ?_
      refine GoH.v (Vop.bin rfl rfl rfl rfl bNe rfl) ?_
      refine GoH.regionEnd ?_
      refine GoH.cond rfl (fun hc => ?_) (fun hc => ?_)
      · -- yes
        have h3 : andN (frgL (compF f)) 15 ≠ 0 := by simpa using hc
        refine GoH.seq ?_
        refine GoH.region ?_
        refine GoH.v (Vop.asg rfl rfl rfl rfl) ?_
        refine GoH.regionEnd ?_
        refine GoH.ret Tryd.f34 Tryd.func34 rfl (fun w' hS => ?_)
        exact ⟨hS.ext, by rw [holdE, if_neg h1, if_neg h2, if_pos h3]; rfl⟩
      · -- no
        have h3 : ¬ andN (frgL (compF f)) 15 ≠ 0 := by simpa using hc
        refine GoH.skip ?_
        refine GoH.seq ?_
        refine GoH.seq ?_
        refine GoH.region ?_
        refine GoH.v (Vop.mv rfl rfl rfl rfl) ?_
        refine GoH.v (Vop.fldP rfl rfl rfl rfl Tryd.underlying25 rfl (by exact Tryd.sizeOf23) 2 rfl) ?_
        refine GoH.v (Vop.ldo (v := .slice m.ra m.rows.length m.rc) rfl rfl rfl rfl Tryd.isAgg23 0 rfl rfl) ?_
        refine GoH.v (Vop.blt rfl rfl rfl (blt_len_slice Tryd.underlying23) rfl) ?_
        refine GoH.v (Vop.fldP rfl rfl rfl rfl Tryd.underlying25 rfl (by exact Tryd.sizeOf22) 1 rfl) ?_
        refine GoH.v (Vop.ldo (v := .slice m.va m.val.length m.vc) rfl rfl rfl rfl Tryd.isAgg22 0 rfl rfl) ?_
        refine GoH.v (Vop.blt rfl rfl rfl (blt_len_slice Tryd.underlying22) rfl) ?_
        refine GoH.callP rfl rfl rfl rfl rfl (fun _ _ => Tryd.call10 _ _) (fun w _ hS => (by exact rfitsF_c a ca f m.rows.length m.val.length w (ha.ex0 hS.ext) hl)) ?_
        refine GoH.v (Vop.un rfl rfl rfl uNot rfl) ?_
        refine GoH.regionEnd ?_
        refine GoH.cond rfl (fun hc => ?_) (fun hc => ?_)
        · -- yes
          have h4 : fitB f m.rel.length m.val.length = false := by rw [hrl]; simpa using hc
          refine GoH.seq ?_
          refine GoH.region ?_
          refine GoH.v (Vop.asg rfl rfl rfl rfl) ?_
          refine GoH.regionEnd ?_
          refine GoH.ret Tryd.f34 Tryd.func34 rfl (fun w' hS => ?_)
          exact ⟨hS.ext, by rw [holdE, if_neg h1, if_neg h2, if_neg h3, if_pos h4]; rfl⟩
        · -- no
          have h4 : ¬ fitB f m.rel.length m.val.length = false := by rw [hrl]; simpa using hc
          refine GoH.skip ?_
          refine GoH.seq ?_
          refine GoH.region ?_
          refine GoH.v (Vop.asg rfl rfl rfl rfl) ?_
          refine GoH.regionEnd ?_
          refine GoH.ret Tryd.f34 Tryd.func34 rfl (fun w' hS => ?_)
          exact ⟨hS.ext, by rw [holdE, if_neg h1, if_neg h2, if_neg h3, if_neg h4]; rfl⟩
end Go.Proofs.YtcljmlnnfdaljaaDoor
