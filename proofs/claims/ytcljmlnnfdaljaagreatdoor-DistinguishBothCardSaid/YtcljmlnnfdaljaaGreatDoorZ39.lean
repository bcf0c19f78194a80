/- What calls of the program return, under the conditions that each theorem states. -/
import Derived.Test.YtcljmlnnfdaljaaGreatDoorZ38
import Derived.Test.YtcljmlnnfdaljaaGreatDoorZ29
import Derived.Test.YtcljmlnnfdaljaaGreatDoorZ04
namespace Go.Proofs.YtcljmlnnfdaljaaGreatDoor
open Go.RowKit Go.Proofs.Wit
/-! the reference's checker -/
set_option maxRecDepth 4000 in
theorem wOne_c (m : MV) (n : Nat) (nd : NV) (x y : W64) (w : World) (hm : m.At w) (hv : ValM m.n m.val m.rel) (hn : m.n = (n : Int)) (hf : NdFit m.rows.length m.val.length nd) :
    Cn Tryz.prog 50 [m.v, nd.v, U x, U y] w (fun v _ => v = U (oneW n m.val m.rel nd.op nd.i nd.g x y)) := by
  obtain ⟨op, i, e, g, nx, ny⟩ := nd
  obtain ⟨f1, f13, ff, fa, fg⟩ := hf
  dsimp only at f1 f13 ff fa fg ⊢
  have hn64 := hv.n64
  have hn1 := hv.n1
  have hag := hv.agents
  have hrl : m.rel.length = m.rows.length := by simp [MV.rel]
  have hrow : ∀ (k : Nat) (hk : k < m.rows.length), (m.rows[k]).At w ∧ m.rows[k].xs.length = n := fun k hk => ⟨hm.row m.rows[k] (List.getElem_mem hk), by have := hv.len _ (List.mem_map.2 ⟨m.rows[k], List.getElem_mem hk, rfl⟩ : m.rows[k].xs ∈ m.rel); omega⟩
  refine Cn.of Tryz.func50 rfl rfl ?_
  refine gS (gR ?_)
  refine GoH.bx rfl rfl rfl rfl (fun b4 => ?_)
  refine GoH.bx rfl rfl rfl rfl (fun b5 => ?_)
  refine GoH.v (Vop.asg (v := U 0#64) rfl rfl rfl rfl) ?_
  refine gE (gS (gR ?_))
  refine gFp Tryz.underlying25 Tryz.sizeOf3 0 ?_
  refine GoH.v (Vop.ldo (v := .int .i64 m.n) rfl rfl rfl rfl Tryz.isAgg3 1 rfl rfl) ?_
  refine GoH.callP rfl rfl rfl rfl rfl (fun _ _ => Tryz.call52 _ _) (fun w _ hS => (by have := rmAll_c n w (by omega); rw [← hn] at this; exact this)) ?_
  refine gAs ?_
  refine gE (gS (gS (gR ?_)))
  refine gFp Tryz.underlying58 Tryz.sizeOf3 0 ?_
  refine gLo Tryz.isAgg3 0 ?_
  refine gBi bEq ?_
  refine gE ?_
  refine GoH.cond rfl (fun hc => ?_) (fun hc => ?_)
  ·
   have h3 : op = 3 := by simpa using hc
   obtain ⟨hi0, hi1⟩ := ff h3
   obtain ⟨i, rfl⟩ := Int.eq_ofNat_of_zero_le hi0
   rw [Int.toNat_natCast] at hi1
   refine gS (gR ?_)
   refine gFp Tryz.underlying25 Tryz.sizeOf22 1 ?_
   refine GoH.v (Vop.ldo (v := .slice m.va m.val.length m.vc) rfl rfl rfl rfl Tryz.isAgg22 1 rfl rfl) ?_
   refine gFp Tryz.underlying58 Tryz.sizeOf3 1 ?_
   refine gLo Tryz.isAgg3 0 ?_
   refine GoH.v (Vop.idx rfl rfl rfl rfl rfl Tryz.underlying22 Tryz.sizeOf36 ⟨_, hm.val⟩ (by simp) (i) ⟨rfl, by simpa using hi1⟩) ?_
   refine GoH.v (Vop.ld rfl rfl rfl rfl Tryz.isAgg36 (fun w _ hS => (SlU.ex0 hm.val hS.ext).at (i) hi1)) ?_
   refine gAs ?_
   refine gE ?_
   refine GoH.ret Tryz.f50 Tryz.func50 rfl (fun w' hS => ?_)
   exact ⟨hS.ext, by rw [oneW, if_pos h3]; rfl⟩
  ·
   have h3 : ¬ op = 3 := by simpa using hc
   refine gK (gS (gS (gR ?_)))
   refine gFp Tryz.underlying58 Tryz.sizeOf3 0 ?_
   refine gLo Tryz.isAgg3 0 ?_
   refine gBi bLe ?_
   refine gE ?_
   refine GoH.cond rfl (fun hc => ?_) (fun hc => ?_)
   ·
    have h8 : op ≤ 8 := by simpa using hc
    refine gS (gR ?_)
    refine gFp Tryz.underlying58 Tryz.sizeOf3 0 ?_
    refine gLo Tryz.isAgg3 0 ?_
    iterate 3 refine gMv ?_
    refine GoH.callP rfl rfl rfl rfl rfl (fun _ _ => Tryz.call70 _ _) (fun w _ hS => (by exact wBool_c op x y (allW n) w)) ?_
    refine gAs ?_
    refine gE ?_
    refine GoH.ret Tryz.f50 Tryz.func50 rfl (fun w' hS => ?_)
    exact ⟨hS.ext, by rw [oneW, if_neg h3, if_pos h8]; rfl⟩
   ·
    have h8 : ¬ op ≤ 8 := by simpa using hc
    refine gK (gS (gS (gR ?_)))
    refine gFp Tryz.underlying58 Tryz.sizeOf3 0 ?_
    refine gLo Tryz.isAgg3 0 ?_
    refine gBi bEq ?_
    refine gE ?_
    refine GoH.cond rfl (fun hc => ?_) (fun hc => ?_)
    ·
     have h9 : op = 9 := by simpa using hc
     obtain ⟨hi0, hi1⟩ := fa (.inl h9)
     obtain ⟨i, rfl⟩ := Int.eq_ofNat_of_zero_le hi0
     rw [Int.toNat_natCast] at hi1
     refine gS ?_
     refine GoH.draw 11 mixed rfl ?_
     refine rFp Tryz.underlying25 Tryz.sizeOf23 2 ?_
     refine RdGo.v (Vop.ldo (v := .slice m.ra m.rows.length m.rc) rfl rfl rfl rfl Tryz.isAgg23 1 rfl rfl) ?_
     refine rFp Tryz.underlying58 Tryz.sizeOf3 1 ?_
     refine rLo Tryz.isAgg3 0 ?_
     refine RdGo.v (Vop.idx rfl rfl rfl rfl rfl Tryz.underlying23 Tryz.sizeOf22 ⟨_, hm.rel⟩ (by simp) (i) ⟨rfl, by simpa using hi1⟩) ?_
     refine RdGo.v (Vop.ld rfl rfl rfl rfl Tryz.isAgg22 (fun w _ hS => (SlR.ex0 hm.rel hS.ext).at (i) hi1)) ?_
     refine rFp Tryz.underlying25 Tryz.sizeOf3 0 ?_
     refine RdGo.v (Vop.ldo (v := .int .i64 m.n) rfl rfl rfl rfl Tryz.isAgg3 1 rfl rfl) ?_
     refine rMv ?_
     refine RdGo.callP rfl rfl rfl rfl rfl (fun _ _ => Tryz.call71 _ _) (fun w _ hS => (by have := wBox_c m.rows[i].a m.rows[i].cap m.rows[i].xs n x w ((hrow i hi1).1.ex0 hS.ext).at_ (hrow i hi1).2 (by omega); rw [← hn] at this; exact this)) ?_
     refine rAs ?_
     refine RdGo.nil ?_
     refine gE ?_
     refine GoH.ret Tryz.f50 Tryz.func50 rfl (fun w' hS => ?_)
     exact ⟨hS.ext, by rw [oneW, if_neg h3, if_neg h8, if_pos h9, Int.toNat_natCast, relD hi1]; rfl⟩
    ·
     have h9 : ¬ op = 9 := by simpa using hc
     refine gK (gS (gS (gR ?_)))
     refine gFp Tryz.underlying58 Tryz.sizeOf3 0 ?_
     refine gLo Tryz.isAgg3 0 ?_
     refine gBi bEq ?_
     refine gE ?_
     refine GoH.cond rfl (fun hc => ?_) (fun hc => ?_)
     ·
      have h10 : op = 10 := by simpa using hc
      obtain ⟨hi0, hi1⟩ := fa (.inr h10)
      obtain ⟨i, rfl⟩ := Int.eq_ofNat_of_zero_le hi0
      rw [Int.toNat_natCast] at hi1
      refine gS ?_
      refine GoH.draw 15 mixed rfl ?_
      refine rMv ?_
      refine rFp Tryz.underlying25 Tryz.sizeOf23 2 ?_
      refine RdGo.v (Vop.ldo (v := .slice m.ra m.rows.length m.rc) rfl rfl rfl rfl Tryz.isAgg23 1 rfl rfl) ?_
      refine rFp Tryz.underlying58 Tryz.sizeOf3 1 ?_
      refine rLo Tryz.isAgg3 0 ?_
      refine RdGo.v (Vop.idx rfl rfl rfl rfl rfl Tryz.underlying23 Tryz.sizeOf22 ⟨_, hm.rel⟩ (by simp) (i) ⟨rfl, by simpa using hi1⟩) ?_
      refine RdGo.v (Vop.ld rfl rfl rfl rfl Tryz.isAgg22 (fun w _ hS => (SlR.ex0 hm.rel hS.ext).at (i) hi1)) ?_
      refine rFp Tryz.underlying25 Tryz.sizeOf3 0 ?_
      refine RdGo.v (Vop.ldo (v := .int .i64 m.n) rfl rfl rfl rfl Tryz.isAgg3 1 rfl rfl) ?_
      iterate 2 refine rMv ?_
      refine rBi bAndNot ?_
      refine RdGo.callP rfl rfl rfl rfl rfl (fun _ _ => Tryz.call71 _ _) (fun w _ hS => (by have := wBox_c m.rows[i].a m.rows[i].cap m.rows[i].xs n (allW n &&& ~~~x) w ((hrow i hi1).1.ex0 hS.ext).at_ (hrow i hi1).2 (by omega); rw [← hn] at this; exact this)) ?_
      refine rBi bAndNot ?_
      refine rAs ?_
      refine RdGo.nil ?_
      refine gE ?_
      refine GoH.ret Tryz.f50 Tryz.func50 rfl (fun w' hS => ?_)
      exact ⟨hS.ext, by rw [oneW, if_neg h3, if_neg h8, if_neg h9, if_pos h10, Int.toNat_natCast, relD hi1]; rfl⟩
     ·
      have h10 : ¬ op = 10 := by simpa using hc
      obtain ⟨hg1, hg2⟩ := fg (by omega)
      obtain ⟨g, rfl⟩ := Int.eq_ofNat_of_zero_le (by omega : 0 ≤ g)
      rw [Int.toNat_natCast] at hg2
      have hg3 : 1 ≤ g := by omega
      refine gK (gS (gS (gR ?_)))
      refine gFp Tryz.underlying58 Tryz.sizeOf3 0 ?_
      refine gLo Tryz.isAgg3 0 ?_
      refine gBi bEq ?_
      refine gE ?_
      refine GoH.cond rfl (fun hc => ?_) (fun hc => ?_)
      ·
       have h11 : op = 11 := by simpa using hc
       refine gS ?_
       refine GoH.drawXR [0, 1, 2, 4, 5, 6] 3 [7, 8] mixed rfl ?_
       refine RdXR.v (fun _ => (Vop.ldB rfl rfl rfl rfl Tryz.isAgg25 1 rfl Tryz.sizeOf25 rfl)) ?_
       refine RdXR.v (fun _ => (Vop.fldP rfl rfl rfl rfl Tryz.underlying58 rfl (by exact Tryz.sizeOf3) 3 rfl)) ?_
       refine RdXR.v (fun _ => (Vop.ldo rfl rfl rfl rfl Tryz.isAgg3 0 rfl rfl)) ?_
       refine RdXR.v (fun _ => (Vop.fldP rfl rfl rfl rfl Tryz.underlying25 rfl (by exact Tryz.sizeOf3) 0 rfl)) ?_
       refine RdXR.v (fun _ => (Vop.ldo (v := .int .i64 m.n) rfl rfl rfl rfl Tryz.isAgg3 1 rfl rfl)) ?_
       refine RdXR.v (fun _ => (Vop.mv rfl rfl rfl rfl)) ?_
       refine RdXR.call _ rfl rfl rfl rfl rfl (fun _ _ => Tryz.call72 _ _) (fun w _ hS => (by exact rjoinM_c m n g w (hm.ex0 hS.ext) hv hn ⟨hg3, hg2⟩)) ?_
       rintro v w1 w2 Y' hS he ho
       obtain ⟨q, cap, sp, rfl, hq, hcap, hS'⟩ := gainO hS he ho
       refine ⟨_, hS'.atEnd, ?_⟩
       refine GoH.callP rfl rfl rfl rfl rfl (fun _ _ => Tryz.call71 _ _) (fun w _ hS => (by have := wBox_c (q.map (fun b => ⟨b, 0, none⟩)) cap (joinL n m.rel g) n x w (sluAt hS 2 rfl (fun e => hq e)) joinTo_len (by omega); rw [← hn] at this; exact this)) ?_
       refine gAs ?_
       refine gE ?_
       refine GoH.ret Tryz.f50 Tryz.func50 rfl (fun w' hS => ?_)
       exact ⟨hS.ext, by rw [oneW, if_neg h3, if_neg h8, if_neg h9, if_neg h10, if_pos h11, Int.toNat_natCast]; rfl⟩
      ·
       have h11 : ¬ op = 11 := by simpa using hc
       refine gK (gS (gS (gR ?_)))
       refine gFp Tryz.underlying58 Tryz.sizeOf3 0 ?_
       refine gLo Tryz.isAgg3 0 ?_
       refine gBi bEq ?_
       refine gE ?_
       refine GoH.cond rfl (fun hc => ?_) (fun hc => ?_)
       ·
        have h12 : op = 12 := by simpa using hc
        refine gS ?_
        refine GoH.drawXR [0, 1, 2, 4, 5, 6] 3 [7, 8] mixed rfl ?_
        refine RdXR.v (fun _ => (Vop.ldB rfl rfl rfl rfl Tryz.isAgg25 1 rfl Tryz.sizeOf25 rfl)) ?_
        refine RdXR.v (fun _ => (Vop.fldP rfl rfl rfl rfl Tryz.underlying58 rfl (by exact Tryz.sizeOf3) 3 rfl)) ?_
        refine RdXR.v (fun _ => (Vop.ldo rfl rfl rfl rfl Tryz.isAgg3 0 rfl rfl)) ?_
        refine RdXR.v (fun _ => (Vop.fldP rfl rfl rfl rfl Tryz.underlying25 rfl (by exact Tryz.sizeOf3) 0 rfl)) ?_
        refine RdXR.v (fun _ => (Vop.ldo (v := .int .i64 m.n) rfl rfl rfl rfl Tryz.isAgg3 1 rfl rfl)) ?_
        refine RdXR.v (fun _ => (Vop.mv rfl rfl rfl rfl)) ?_
        refine RdXR.call _ rfl rfl rfl rfl rfl (fun _ _ => Tryz.call73 _ _) (fun w _ hS => (by exact rmeetM_c m n g w (hm.ex0 hS.ext) hv hn ⟨hg3, hg2⟩)) ?_
        rintro v w1 w2 Y' hS he ho
        obtain ⟨q, cap, sp, rfl, hq, hcap, hS'⟩ := gainO hS he ho
        refine ⟨_, hS'.atEnd, ?_⟩
        refine GoH.callP rfl rfl rfl rfl rfl (fun _ _ => Tryz.call71 _ _) (fun w _ hS => (by have := wBox_c (q.map (fun b => ⟨b, 0, none⟩)) cap (meetL n m.rel g) n x w (sluAt hS 2 rfl (fun e => hq e)) meetTo_len (by omega); rw [← hn] at this; exact this)) ?_
        refine gAs ?_
        refine gE ?_
        refine GoH.ret Tryz.f50 Tryz.func50 rfl (fun w' hS => ?_)
        exact ⟨hS.ext, by rw [oneW, if_neg h3, if_neg h8, if_neg h9, if_neg h10, if_neg h11, if_pos h12, Int.toNat_natCast]; rfl⟩
       ·
        have h12 : ¬ op = 12 := by simpa using hc
        refine gK (gS ?_)
        refine GoH.drawXR [0, 1, 2, 4, 5, 6, 7] 3 [8, 9] mixed rfl ?_
        refine RdXR.v (fun _ => (Vop.ldB rfl rfl rfl rfl Tryz.isAgg25 1 rfl Tryz.sizeOf25 rfl)) ?_
        refine RdXR.v (fun _ => (Vop.fldP rfl rfl rfl rfl Tryz.underlying58 rfl (by exact Tryz.sizeOf3) 3 rfl)) ?_
        refine RdXR.v (fun _ => (Vop.ldo rfl rfl rfl rfl Tryz.isAgg3 0 rfl rfl)) ?_
        refine RdXR.v (fun _ => (Vop.fldP rfl rfl rfl rfl Tryz.underlying25 rfl (by exact Tryz.sizeOf3) 0 rfl)) ?_
        refine RdXR.v (fun _ => (Vop.ldo (v := .int .i64 m.n) rfl rfl rfl rfl Tryz.isAgg3 1 rfl rfl)) ?_
        iterate 2 refine RdXR.v (fun _ => (Vop.mv rfl rfl rfl rfl)) ?_
        refine RdXR.call _ rfl rfl rfl rfl rfl (fun _ _ => Tryz.call72 _ _) (fun w _ hS => (by exact rjoinM_c m n g w (hm.ex0 hS.ext) hv hn ⟨hg3, hg2⟩)) ?_
        rintro v w1 w2 Y' hS he ho
        obtain ⟨q, cap, sp, rfl, hq, hcap, hS'⟩ := gainO hS he ho
        refine ⟨_, hS'.atEnd, ?_⟩
        refine GoH.callP rfl rfl rfl rfl rfl (fun _ _ => Tryz.call74 _ _) (fun w _ hS => (by have := wCommon_c (q.map (fun b => ⟨b, 0, none⟩)) cap (joinL n m.rel g) n x y w (sluAt hS 2 rfl (fun e => hq e)) joinTo_len (by omega); rw [← hn] at this; exact this)) ?_
        refine gAs ?_
        refine gE ?_
        refine GoH.ret Tryz.f50 Tryz.func50 rfl (fun w' hS => ?_)
        exact ⟨hS.ext, by rw [oneW, if_neg h3, if_neg h8, if_neg h9, if_neg h10, if_neg h11, if_neg h12, Int.toNat_natCast]; rfl⟩
theorem wCheck_c (m : MV) (a : Option Addr) (ca : Nat) (f : List NV) (w : World) (hm : m.At w) (ha : FA w a f) (hl : f.length ≤ maxLen) :
    Cn Tryz.prog 35 [m.v, .slice a f.length ca, .int .i64 15] w (fun v _ => v = .int .i64 (holdE m.n m.val m.rel f)) := by
  have hrl : m.rel.length = m.rows.length := by simp [MV.rel]
  have hfl := frgL_lt (compF f)
  refine Cn.of Tryz.func35 rfl rfl ?_
  refine gS (gR ?_)
  refine GoH.bx rfl rfl rfl rfl (fun b3 => ?_)
  refine gAs ?_
  refine gE (gS (gR ?_))
  refine GoH.v (Vop.ldB rfl rfl rfl rfl Tryz.isAgg25 0 rfl Tryz.sizeOf25 rfl) ?_
  refine GoH.callP rfl rfl rfl rfl rfl (fun _ _ => Tryz.call18 _ _) (fun w _ hS => (by exact rmCheck_c m w (hm.ex0 hS.ext))) ?_
  refine gAs ?_
  refine gE (gS (gS (gR ?_)))
  refine gMv ?_
  refine gBi bNe ?_
  refine gE ?_
  refine GoH.cond rfl (fun hc => ?_) (fun hc => ?_)
  ·
   have h1 : checkM m.n m.val m.rel ≠ 0 := by simpa using hc
   refine gS (gR ?_)
   refine gMv ?_
   refine gAs ?_
   refine gE ?_
   refine GoH.ret Tryz.f35 Tryz.func35 rfl (fun w' hS => ?_)
   exact ⟨hS.ext, by rw [holdE, if_pos h1]; rfl⟩
  ·
   have h1 : ¬ checkM m.n m.val m.rel ≠ 0 := by simpa using hc
   refine gK (gS (gR ?_))
   refine gMv ?_
   refine GoH.callP rfl rfl rfl rfl rfl (fun _ _ => Tryz.call28 _ _) (fun w _ hS => (by exact rchk_c a ca f w (ha.ex0 hS.ext) hl)) ?_
   refine gAs ?_
   refine gE (gS (gS (gR ?_)))
   refine gMv ?_
   refine gBi bNe ?_
   refine gE ?_
   refine GoH.cond rfl (fun hc => ?_) (fun hc => ?_)
   ·
    have h2 : chkF f ≠ 0 := by simpa using hc
    refine gS (gR ?_)
    refine gMv ?_
    refine gAs ?_
    refine gE ?_
    refine GoH.ret Tryz.f35 Tryz.func35 rfl (fun w' hS => ?_)
    exact ⟨hS.ext, by rw [holdE, if_neg h1, if_pos h2]; rfl⟩
   ·
    have h2 : ¬ chkF f ≠ 0 := by simpa using hc
    refine gK (gS (gS (gR ?_)))
    refine gMv ?_
    refine GoH.callP rfl rfl rfl rfl rfl (fun _ _ => Tryz.call30 _ _) (fun w _ hS => (by exact rfrags_c a ca f w (ha.ex0 hS.ext) hl)) ?_
    refine gMv ?_
    refine GoH.v (Vop.bin rfl rfl rfl rfl (bAndNotI hfl (by omega : (15 : Nat) < 512)) rfl) ?_
    refine gBi bNe ?_
    refine gE ?_
    refine GoH.cond rfl (fun hc => ?_) (fun hc => ?_)
    ·
     have h3 : andN (frgL (compF f)) 15 ≠ 0 := by simpa using hc
     refine gS (gR ?_)
     refine gAs ?_
     refine gE ?_
     refine GoH.ret Tryz.f35 Tryz.func35 rfl (fun w' hS => ?_)
     exact ⟨hS.ext, by rw [holdE, if_neg h1, if_neg h2, if_pos h3]; rfl⟩
    ·
     have h3 : ¬ andN (frgL (compF f)) 15 ≠ 0 := by simpa using hc
     refine gK (gS (gS (gR ?_)))
     refine gMv ?_
     refine gFp Tryz.underlying25 Tryz.sizeOf23 2 ?_
     refine GoH.v (Vop.ldo (v := .slice m.ra m.rows.length m.rc) rfl rfl rfl rfl Tryz.isAgg23 0 rfl rfl) ?_
     refine gBl Tryz.underlying23 ?_
     refine gFp Tryz.underlying25 Tryz.sizeOf22 1 ?_
     refine GoH.v (Vop.ldo (v := .slice m.va m.val.length m.vc) rfl rfl rfl rfl Tryz.isAgg22 0 rfl rfl) ?_
     refine gBl Tryz.underlying22 ?_
     refine GoH.callP rfl rfl rfl rfl rfl (fun _ _ => Tryz.call29 _ _) (fun w _ hS => (by exact rfitsF_c a ca f m.rows.length m.val.length w (ha.ex0 hS.ext) hl)) ?_
     refine gUn uNot ?_
     refine gE ?_
     refine GoH.cond rfl (fun hc => ?_) (fun hc => ?_)
     ·
      have h4 : fitB f m.rel.length m.val.length = false := by rw [hrl]; simpa using hc
      refine gS (gR ?_)
      refine gAs ?_
      refine gE ?_
      refine GoH.ret Tryz.f35 Tryz.func35 rfl (fun w' hS => ?_)
      exact ⟨hS.ext, by rw [holdE, if_neg h1, if_neg h2, if_neg h3, if_pos h4]; rfl⟩
     ·
      have h4 : ¬ fitB f m.rel.length m.val.length = false := by rw [hrl]; simpa using hc
      refine gK (gS (gR ?_))
      refine gAs ?_
      refine gE ?_
      refine GoH.ret Tryz.f35 Tryz.func35 rfl (fun w' hS => ?_)
      exact ⟨hS.ext, by rw [holdE, if_neg h1, if_neg h2, if_neg h3, if_neg h4]; rfl⟩
end Go.Proofs.YtcljmlnnfdaljaaGreatDoor
namespace Go.Proofs.YtcljmlnnfdaljaaGreatDoor
open Go.RowKit Go.Proofs.Wit
/-! the reference's checker: all nodes -/
theorem wfits_c (m : MV) (a : Option Addr) (ca : Nat) (f : List NV) (i : Nat) (w : World) (_hm : m.At w) (ha : FA w a f) (hl : f.length ≤ maxLen) (hy1 : andN (frgL (compF (subF f i))) 15 = 0) (hy2 : fitB (subF f i) m.rows.length m.val.length = true) (hsl : (subF f i).length ≤ 200) :
    Cn Tryz.prog 49 [m.v, .slice a f.length ca, .int .i64 i] w (fun v _ => v = .bool true) := by
  have hfl := frgL_lt (compF (subF f i))
  have hsm : (subF f i).length ≤ maxLen := by unfold maxLen; omega
  refine Cn.of Tryz.func49 rfl rfl ?_
  refine gS (gR ?_)
  refine GoH.bx rfl rfl rfl rfl (fun b3 => ?_)
  refine gAs ?_
  refine gE (gS (gR ?_))
  iterate 2 refine gMv ?_
  refine GoH.callM _ rfl rfl rfl rfl rfl (fun _ _ => Tryz.call48 _ _) (fun w _ hS => rsub_c a ca f i w (ha.ex0 hS.ext) hl) ?_
  rintro v w1 w2 Y' hS he ho
  obtain ⟨q, cap, sp, rfl, hq, hcap, hS'⟩ := gainN hS he ho
  refine ⟨_, hS', ?_⟩
  refine gAs ?_
  refine gE (gS (gR ?_))
  refine gMv ?_
  refine GoH.callP rfl rfl rfl rfl rfl (fun _ _ => Tryz.call30 _ _) (fun w _ hS => (by exact rfrags_c (q.map (fun b => ⟨b, 0, none⟩)) cap (subF f i) w (faAt hS 0 rfl (fun e => (hq e).1)) hsm)) ?_
  refine GoH.v (Vop.bin rfl rfl rfl rfl (bAndNotI hfl (by omega : (15 : Nat) < 512)) rfl) ?_
  refine GoH.v (Vop.bin rfl rfl rfl rfl (bEqV (v := true) (by rw [hy1]; rfl)) rfl) ?_
  iterate 2 refine gMv ?_
  refine gFp Tryz.underlying25 Tryz.sizeOf23 2 ?_
  refine GoH.v (Vop.ldo (v := .slice m.ra m.rows.length m.rc) rfl rfl rfl rfl Tryz.isAgg23 1 rfl rfl) ?_
  refine gBl Tryz.underlying23 ?_
  refine gFp Tryz.underlying25 Tryz.sizeOf22 1 ?_
  refine GoH.v (Vop.ldo (v := .slice m.va m.val.length m.vc) rfl rfl rfl rfl Tryz.isAgg22 1 rfl rfl) ?_
  refine gBl Tryz.underlying22 ?_
  refine GoH.callP rfl rfl rfl rfl rfl (fun _ _ => Tryz.call29 _ _) (fun w _ hS => (by have := rfitsF_c (q.map (fun b => ⟨b, 0, none⟩)) cap (subF f i) m.rows.length m.val.length w (faAt hS 0 rfl (fun e => (hq e).1)) hsm; rw [hy2] at this; exact this)) ?_
  refine gPt ?_
  refine gAs ?_
  refine gE ?_
  refine GoH.ret Tryz.f49 Tryz.func49 rfl (fun w' hS => ?_)
  exact ⟨hS.ext, rfl⟩
def setsR (m : MV) (n : Nat) (g : List NV) : List W64 := if holdE m.n m.val m.rel g = 0 then setsL n m.val m.rel g g.length else []
def SetsIs (w w' : World) (v : Value) (m : MV) (n : Nat) (g : List NV) : Prop := ∃ sv, v = .tuple #[sv, .int .i64 (holdE m.n m.val m.rel g)] ∧ Own w w' sv (setsR m n g)
set_option maxRecDepth 8000 in
theorem wSets_c (m : MV) (n : Nat) (a : Option Addr) (ca : Nat) (g : List NV) (w : World) (hm : m.At w) (hn : m.n = (n : Int)) (ha : FA w a g) (hgl : g.length ≤ maxLen) (hcan : chkF g = 0 → CanF g) :
    Cn Tryz.prog 34 [m.v, .slice a g.length ca] w (fun v w' => SetsIs w w' v m n g) := by
  obtain ⟨i0, hi, hz, hsz, hby⟩ := info_parts infoU
  have hrl : m.rel.length = m.rows.length := by simp [MV.rel]
  refine Cn.of Tryz.func34 rfl rfl ?_
  refine gS (gR ?_)
  refine GoH.bx rfl rfl rfl rfl (fun b2 => ?_)
  iterate 2 refine gAs ?_
  refine gE (gS (gR ?_))
  refine GoH.v (Vop.ldB rfl rfl rfl rfl Tryz.isAgg25 0 rfl Tryz.sizeOf25 rfl) ?_
  refine gMv ?_
  refine GoH.callP rfl rfl rfl rfl rfl (fun _ _ => Tryz.call35 _ _) (fun w _ hS => (by exact wCheck_c m a ca g w (hm.ex0 hS.ext) (ha.ex0 hS.ext) hgl)) ?_
  refine gAs ?_
  refine gE (gS (gS (gR ?_)))
  refine gMv ?_
  refine gBi bNe ?_
  refine gE ?_
  refine GoH.cond rfl (fun hc => ?_) (fun hc => ?_)
  ·
   have h0 : holdE m.n m.val m.rel g ≠ 0 := by simpa using hc
   refine gS (gR ?_)
   refine gMv ?_
   iterate 2 refine gAs ?_
   refine gE ?_
   refine GoH.ret Tryz.f34 Tryz.func34 rfl (fun w' hS => ?_)
   exact ⟨hS.ext, _, rfl, by rw [setsR, if_neg h0]; exact own_nil _ _⟩
  ·
   have h0 : holdE m.n m.val m.rel g = 0 := by simpa using hc
   obtain ⟨hv, hck, hst⟩ := holdE_zero.1 h0
   rw [hrl] at hst
   have hC := hcan hck
   have hglen := hC.len
   refine gK (gS (gR ?_))
   refine gAs ?_
   refine gE (gS (gS (gR ?_)))
   refine gAs ?_
   refine gE (gB ?_)
   refine GoH.addNone (ob U 36 [] []) ?_
   refine GoH.loop (σ := Nat × Option Nat × Nat × List Value) (fun z => [(1, .slice a g.length ca), (2, .pointer (some ⟨b2, 0, none⟩)), (7, osv z.2.1 (setsL n m.val m.rel g z.1).length z.2.2.1), (8, .int .i64 z.1)]) (fun z => [(z.2.1, ob U 36 (setsL n m.val m.rel g z.1) z.2.2.2), (some b2, .cells m.v.cells 25 (0, 0))])
     (fun z => z.1 ≤ g.length ∧ (z.2.1 = none → (setsL n m.val m.rel g z.1).length = 0 ∧ z.2.2.1 = 0) ∧ ((setsL n m.val m.rel g z.1).map U ++ z.2.2.2).length = z.2.2.1) (fun z => g.length - z.1) (0, none, 0, [])
     ⟨Nat.zero_le _, fun _ => ⟨rfl, rfl⟩, rfl⟩ ⟨rfl, rfl, rfl, rfl, trivial⟩ (List.Sublist.refl _) (fun z hI IH => ?_)
   obtain ⟨k, q, cap, sp⟩ := z
   obtain ⟨hk, hq, hcap⟩ := hI
   dsimp only at hk hq hcap IH ⊢
   refine gS (gS (gR ?_))
   iterate 2 refine gMv ?_
   refine gBl Tryz.underlying31 ?_
   refine gBi bLt ?_
   refine gE ?_
   refine GoH.cond rfl (fun hc => ?_) (fun hc => ?_)
   ·
    have hlt : k < g.length := by simpa using hc
    have hy := hC.stat hst hlt
    have hsub := (hC.sub hlt).1.len
    have hnd := hC.node hst hlt
    have hord := hC.nodes.ord k hlt
    have hsl : (setsL n m.val m.rel g k).length = k := setsL_len
    have hsn := semT_node (n := n) (val := m.val) (rel := m.rel) hC.nodes hlt
    refine gK (gS (gB (gS (gS (gR ?_)))))
    refine GoH.v (Vop.ldB rfl rfl rfl rfl Tryz.isAgg25 1 rfl Tryz.sizeOf25 rfl) ?_
    iterate 2 refine gMv ?_
    refine GoH.callP rfl rfl rfl rfl rfl (fun _ _ => Tryz.call49 _ _) (fun w _ hS => (by exact wfits_c m a ca g k w (hm.ex0 hS.ext) (ha.ex0 hS.ext) hgl hy.1 hy.2 hsub)) ?_
    refine gUn uNot ?_
    refine gE (GoH.condF rfl (gK (gS (gR ?_))))
    iterate 2 refine GoH.v (Vop.asg (v := U 0#64) rfl rfl rfl rfl) ?_
    refine gE (gS (gS (gR ?_)))
    iterate 2 refine gMv ?_
    refine GoH.v (Vop.idxN rfl rfl rfl rfl rfl Tryz.underlying31 Tryz.sizeOf58 ⟨_, (ha).at_⟩ (flat_len (enc := NV.cells) (sz := 6) (fun _ => rfl)) (by decide) (k) ⟨rfl, hlt⟩) ?_
    refine GoH.v (Vop.fldA rfl rfl rfl rfl Tryz.underlying58 rfl Tryz.sizeOf3 ((k) * 6 + 0) rfl) ?_
    refine GoH.v (Vop.ld rfl rfl rfl rfl Tryz.isAgg3 (fun w _ hS => Sl.fld (enc := NV.cells) (sz := 6) ((ha).ex0 hS.ext).at_ (fun _ => rfl) hlt rfl)) ?_
    refine GoH.callP rfl rfl rfl rfl rfl (fun _ _ => Tryz.call32 _ _) (fun w _ hS => (by exact usesX_c g[k].op w)) ?_
    refine gE ?_
    refine GoH.cond rfl (fun hc => ?_) (fun hc => ?_)
    ·
     have hx := hord.1 hc
     rw [if_pos hc] at hsn
     obtain ⟨b, rfl⟩ : ∃ b, q = some b := by
       cases q with
       | none => have := (hq rfl).1; omega
       | some b => exact ⟨b, rfl⟩
     have hget : (setsL n m.val m.rel g k).getD g[k].x.toNat 0#64 = semT n m.val m.rel (treeAt g g[k].x.toNat) := setsL_get (by omega)
     refine gR ?_
     iterate 3 refine gMv ?_
     refine GoH.v (Vop.idxN rfl rfl rfl rfl rfl Tryz.underlying31 Tryz.sizeOf58 ⟨_, (ha).at_⟩ (flat_len (enc := NV.cells) (sz := 6) (fun _ => rfl)) (by decide) (k) ⟨rfl, hlt⟩) ?_
     refine GoH.v (Vop.fldA rfl rfl rfl rfl Tryz.underlying58 rfl Tryz.sizeOf3 ((k) * 6 + 4) rfl) ?_
     refine GoH.v (Vop.ld rfl rfl rfl rfl Tryz.isAgg3 (fun w _ hS => Sl.fld (enc := NV.cells) (sz := 6) ((ha).ex0 hS.ext).at_ (fun _ => rfl) hlt rfl)) ?_
     refine GoH.v (Vop.idxS rfl rfl rfl rfl rfl Tryz.underlying22 Tryz.sizeOf36 (g[k].x.toNat) ⟨(Int.toNat_of_nonneg hx.1).symm, (by rw [hsl]; omega)⟩) ?_
     refine GoH.v (Vop.ldE U 0#64 rfl rfl rfl rfl Tryz.isAgg36 0 rfl (by rw [hsl]; omega)) ?_
     refine gAs ?_
     refine gE (gS (gS (gR ?_)))
     iterate 2 refine gMv ?_
     refine GoH.v (Vop.idxN rfl rfl rfl rfl rfl Tryz.underlying31 Tryz.sizeOf58 ⟨_, (ha).at_⟩ (flat_len (enc := NV.cells) (sz := 6) (fun _ => rfl)) (by decide) (k) ⟨rfl, hlt⟩) ?_
     refine GoH.v (Vop.fldA rfl rfl rfl rfl Tryz.underlying58 rfl Tryz.sizeOf3 ((k) * 6 + 0) rfl) ?_
     refine GoH.v (Vop.ld rfl rfl rfl rfl Tryz.isAgg3 (fun w _ hS => Sl.fld (enc := NV.cells) (sz := 6) ((ha).ex0 hS.ext).at_ (fun _ => rfl) hlt rfl)) ?_
     refine GoH.callP rfl rfl rfl rfl rfl (fun _ _ => Tryz.call33 _ _) (fun w _ hS => (by exact usesY_c g[k].op w)) ?_
     refine gE ?_
     refine GoH.cond rfl (fun hc => ?_) (fun hc => ?_)
     ·
      have hy2 := hord.2 hc
      rw [if_pos hc] at hsn
      have hget2 : (setsL n m.val m.rel g k).getD g[k].y.toNat 0#64 = semT n m.val m.rel (treeAt g g[k].y.toNat) := setsL_get (by omega)
      rw [← hget, ← hget2] at hsn
      refine gR ?_
      iterate 3 refine gMv ?_
      refine GoH.v (Vop.idxN rfl rfl rfl rfl rfl Tryz.underlying31 Tryz.sizeOf58 ⟨_, (ha).at_⟩ (flat_len (enc := NV.cells) (sz := 6) (fun _ => rfl)) (by decide) (k) ⟨rfl, hlt⟩) ?_
      refine GoH.v (Vop.fldA rfl rfl rfl rfl Tryz.underlying58 rfl Tryz.sizeOf3 ((k) * 6 + 5) rfl) ?_
      refine GoH.v (Vop.ld rfl rfl rfl rfl Tryz.isAgg3 (fun w _ hS => Sl.fld (enc := NV.cells) (sz := 6) ((ha).ex0 hS.ext).at_ (fun _ => rfl) hlt rfl)) ?_
      refine GoH.v (Vop.idxS rfl rfl rfl rfl rfl Tryz.underlying22 Tryz.sizeOf36 (g[k].y.toNat) ⟨(Int.toNat_of_nonneg hy2.1).symm, (by rw [hsl]; omega)⟩) ?_
      refine GoH.v (Vop.ldE U 0#64 rfl rfl rfl rfl Tryz.isAgg36 0 rfl (by rw [hsl]; omega)) ?_
      refine gAs ?_
      refine gE ?_
      refine GoH.drawT 9 13 mixed rfl ?_
      refine RdT.v (Vop.mv rfl rfl rfl rfl) ?_
      refine RdT.v (Vop.ldB rfl rfl rfl rfl Tryz.isAgg25 1 rfl Tryz.sizeOf25 rfl) ?_
      iterate 2 refine RdT.v (Vop.mv rfl rfl rfl rfl) ?_
      refine RdT.v (Vop.idxN rfl rfl rfl rfl rfl Tryz.underlying31 Tryz.sizeOf58 ⟨_, (ha).at_⟩ (flat_len (enc := NV.cells) (sz := 6) (fun _ => rfl)) (by decide) (k) ⟨rfl, hlt⟩) ?_
      refine RdT.v (Vop.ldN (cs := NV.cells g[k]) rfl rfl rfl rfl Tryz.isAgg58 Tryz.sizeOf58 (fun w _ hS => Sl.many (enc := NV.cells) (sz := 6) (ha.ex0 hS.ext).at_ (fun _ => rfl) hlt)) ?_
      iterate 2 refine RdT.v (Vop.mv rfl rfl rfl rfl) ?_
      refine RdT.callP rfl rfl rfl rfl rfl (fun _ _ => Tryz.call50 _ _) (fun w _ hS => (by have := wOne_c m n g[k] ((setsL n m.val m.rel g k).getD g[k].x.toNat 0#64) ((setsL n m.val m.rel g k).getD g[k].y.toNat 0#64) w (hm.ex0 hS.ext) hv hn hnd; rw [← hsn] at this; exact this)) ?_
      refine RdT.nil ?_
      refine Tl.one (d := 68) rfl ?_
      refine Mop.bsN (c := [_]) rfl rfl rfl rfl Tryz.underlying22 Tryz.sizeOf36 Tryz.zeroValue36 rfl rfl (fun b68 => ⟨by repeat (first | exact List.Sublist.refl _ | exact List.nil_sublist _ | refine List.Sublist.cons_cons _ ?_ | refine List.Sublist.cons _ ?_), ?_⟩)
      refine Tl.sw [10, 11] rfl rfl ?_
      refine GoH.appE U (xs := setsL n m.val m.rel g k) (sp := sp) (q := some b) (news := [semT n m.val m.rel (treeAt g k)]) (spn := []) rfl rfl rfl rfl rfl Tryz.underlying22 hi hz hsz rfl hq 1 rfl 0 rfl hcap rfl (by decide) (fun _ => rfl) (by unfold maxLen; rw [hsl]; omega) (by rw [hby, hsl]; omega) (fun b' sp' cap' hlen2 => ?_)
      rw [← setsL_succ] at hlen2 ⊢
      refine gAs ?_
      refine gE (gIb (gR ?_))
      refine gMv ?_
      refine GoH.v (Vop.bin rfl rfl rfl rfl (bAdd (by omega)) rfl) ?_
      refine gAs ?_
      refine gE ?_
      exact IH (k + 1, some b', cap', sp') _ _ ⟨hlt, (fun e => by cases e), hlen2⟩ (by dsimp only; omega) ⟨rfl, rfl, rfl, rfl, trivial⟩ (.cons _ (List.Sublist.refl _))
     ·
      rw [if_neg (by rw [hc]; simp), ← hget] at hsn
      refine gK ?_
      refine GoH.drawT 9 13 mixed rfl ?_
      refine RdT.v (Vop.mv rfl rfl rfl rfl) ?_
      refine RdT.v (Vop.ldB rfl rfl rfl rfl Tryz.isAgg25 1 rfl Tryz.sizeOf25 rfl) ?_
      iterate 2 refine RdT.v (Vop.mv rfl rfl rfl rfl) ?_
      refine RdT.v (Vop.idxN rfl rfl rfl rfl rfl Tryz.underlying31 Tryz.sizeOf58 ⟨_, (ha).at_⟩ (flat_len (enc := NV.cells) (sz := 6) (fun _ => rfl)) (by decide) (k) ⟨rfl, hlt⟩) ?_
      refine RdT.v (Vop.ldN (cs := NV.cells g[k]) rfl rfl rfl rfl Tryz.isAgg58 Tryz.sizeOf58 (fun w _ hS => Sl.many (enc := NV.cells) (sz := 6) (ha.ex0 hS.ext).at_ (fun _ => rfl) hlt)) ?_
      iterate 2 refine RdT.v (Vop.mv rfl rfl rfl rfl) ?_
      refine RdT.callP rfl rfl rfl rfl rfl (fun _ _ => Tryz.call50 _ _) (fun w _ hS => (by have := wOne_c m n g[k] ((setsL n m.val m.rel g k).getD g[k].x.toNat 0#64) 0#64 w (hm.ex0 hS.ext) hv hn hnd; rw [← hsn] at this; exact this)) ?_
      refine RdT.nil ?_
      refine Tl.one (d := 68) rfl ?_
      refine Mop.bsN (c := [_]) rfl rfl rfl rfl Tryz.underlying22 Tryz.sizeOf36 Tryz.zeroValue36 rfl rfl (fun b68 => ⟨by repeat (first | exact List.Sublist.refl _ | exact List.nil_sublist _ | refine List.Sublist.cons_cons _ ?_ | refine List.Sublist.cons _ ?_), ?_⟩)
      refine Tl.sw [10, 11] rfl rfl ?_
      refine GoH.appE U (xs := setsL n m.val m.rel g k) (sp := sp) (q := some b) (news := [semT n m.val m.rel (treeAt g k)]) (spn := []) rfl rfl rfl rfl rfl Tryz.underlying22 hi hz hsz rfl hq 1 rfl 0 rfl hcap rfl (by decide) (fun _ => rfl) (by unfold maxLen; rw [hsl]; omega) (by rw [hby, hsl]; omega) (fun b' sp' cap' hlen2 => ?_)
      rw [← setsL_succ] at hlen2 ⊢
      refine gAs ?_
      refine gE (gIb (gR ?_))
      refine gMv ?_
      refine GoH.v (Vop.bin rfl rfl rfl rfl (bAdd (by omega)) rfl) ?_
      refine gAs ?_
      refine gE ?_
      exact IH (k + 1, some b', cap', sp') _ _ ⟨hlt, (fun e => by cases e), hlen2⟩ (by dsimp only; omega) ⟨rfl, rfl, rfl, rfl, trivial⟩ (.cons _ (List.Sublist.refl _))
    ·
     have hc0 := hc
     rw [if_neg (by rw [hc]; simp)] at hsn
     refine gK (gS (gS (gR ?_)))
     iterate 2 refine gMv ?_
     refine GoH.v (Vop.idxN rfl rfl rfl rfl rfl Tryz.underlying31 Tryz.sizeOf58 ⟨_, (ha).at_⟩ (flat_len (enc := NV.cells) (sz := 6) (fun _ => rfl)) (by decide) (k) ⟨rfl, hlt⟩) ?_
     refine GoH.v (Vop.fldA rfl rfl rfl rfl Tryz.underlying58 rfl Tryz.sizeOf3 ((k) * 6 + 0) rfl) ?_
     refine GoH.v (Vop.ld rfl rfl rfl rfl Tryz.isAgg3 (fun w _ hS => Sl.fld (enc := NV.cells) (sz := 6) ((ha).ex0 hS.ext).at_ (fun _ => rfl) hlt rfl)) ?_
     refine GoH.callP rfl rfl rfl rfl rfl (fun _ _ => Tryz.call33 _ _) (fun w _ hS => (by exact usesY_c g[k].op w)) ?_
     refine gE ?_
     refine GoH.cond rfl (fun hc => ?_) (fun hc => ?_)
     ·
      rw [usY_X hc] at hc0; cases hc0
     ·
      rw [if_neg (by rw [hc]; simp)] at hsn
      refine gK ?_
      refine GoH.drawT 9 13 mixed rfl ?_
      refine RdT.v (Vop.mv rfl rfl rfl rfl) ?_
      refine RdT.v (Vop.ldB rfl rfl rfl rfl Tryz.isAgg25 1 rfl Tryz.sizeOf25 rfl) ?_
      iterate 2 refine RdT.v (Vop.mv rfl rfl rfl rfl) ?_
      refine RdT.v (Vop.idxN rfl rfl rfl rfl rfl Tryz.underlying31 Tryz.sizeOf58 ⟨_, (ha).at_⟩ (flat_len (enc := NV.cells) (sz := 6) (fun _ => rfl)) (by decide) (k) ⟨rfl, hlt⟩) ?_
      refine RdT.v (Vop.ldN (cs := NV.cells g[k]) rfl rfl rfl rfl Tryz.isAgg58 Tryz.sizeOf58 (fun w _ hS => Sl.many (enc := NV.cells) (sz := 6) (ha.ex0 hS.ext).at_ (fun _ => rfl) hlt)) ?_
      iterate 2 refine RdT.v (Vop.mv rfl rfl rfl rfl) ?_
      refine RdT.callP rfl rfl rfl rfl rfl (fun _ _ => Tryz.call50 _ _) (fun w _ hS => (by have := wOne_c m n g[k] 0#64 0#64 w (hm.ex0 hS.ext) hv hn hnd; rw [← hsn] at this; exact this)) ?_
      refine RdT.nil ?_
      refine Tl.one (d := 68) rfl ?_
      refine Mop.bsN (c := [_]) rfl rfl rfl rfl Tryz.underlying22 Tryz.sizeOf36 Tryz.zeroValue36 rfl rfl (fun b68 => ⟨by repeat (first | exact List.Sublist.refl _ | exact List.nil_sublist _ | refine List.Sublist.cons_cons _ ?_ | refine List.Sublist.cons _ ?_), ?_⟩)
      refine Tl.sw [10, 11] rfl rfl ?_
      refine GoH.appE U (xs := setsL n m.val m.rel g k) (sp := sp) (q := q) (news := [semT n m.val m.rel (treeAt g k)]) (spn := []) rfl rfl rfl rfl rfl Tryz.underlying22 hi hz hsz rfl hq 1 rfl 0 rfl hcap rfl (by decide) (fun _ => rfl) (by unfold maxLen; rw [hsl]; omega) (by rw [hby, hsl]; omega) (fun b' sp' cap' hlen2 => ?_)
      rw [← setsL_succ] at hlen2 ⊢
      refine gAs ?_
      refine gE (gIb (gR ?_))
      refine gMv ?_
      refine GoH.v (Vop.bin rfl rfl rfl rfl (bAdd (by omega)) rfl) ?_
      refine gAs ?_
      refine gE ?_
      exact IH (k + 1, some b', cap', sp') _ _ ⟨hlt, (fun e => by cases e), hlen2⟩ (by dsimp only; omega) ⟨rfl, rfl, rfl, rfl, trivial⟩ (.cons _ (List.Sublist.refl _))
   ·
    have hge : ¬ k < g.length := by simpa using hc
    obtain rfl : k = g.length := by omega
    refine GoH.exit rfl (gS (gR ?_))
    refine gMv ?_
    iterate 2 refine gAs ?_
    refine gE ?_
    refine GoH.ret Tryz.f34 Tryz.func34 rfl (fun w' hS => ?_)
    refine ⟨hS.ext, _, by rw [h0]; rfl, ?_⟩
    rw [setsR, if_pos h0]
    exact ⟨q, cap, sp, rfl, hq, hcap, fun b' hb => by subst hb; exact ⟨hS.fresh (j := 0) rfl, hS.get (j := 0) rfl⟩⟩
/-- the worlds in which a formula holds, or none -/
def holdS (m : MV) (n : Nat) (f : List NV) : W64 := if holdE m.n m.val m.rel f = 0 then semT n m.val m.rel (topT f) else 0#64
set_option maxRecDepth 8000 in
theorem wHolds_c (m : MV) (n : Nat) (a : Option Addr) (ca : Nat) (f : List NV) (w : World) (hm : m.At w) (hn : m.n = (n : Int)) (ha : FA w a f) (hl : f.length ≤ maxLen) :
    Cn Tryz.prog 15 [m.v, .slice a f.length ca] w (fun v _ => v = .tuple #[U (holdS m n f), .int .i64 (holdE m.n m.val m.rel f)]) := by
  have hcl := compF_le f
  have hcm : (compF f).length ≤ maxLen := by unfold maxLen; omega
  have hcan : chkF (compF f) = 0 → CanF (compF f) := fun h => by
    by_cases h0 : chkF f = 0
    · exact CanF.compF h0
    · rw [compF, if_pos h0] at h; cases h
  have hE : holdE m.n m.val m.rel (compF f) = 0 ↔ holdE m.n m.val m.rel f = 0 := by
    by_cases h0 : chkF f = 0
    · rw [holdE_comp h0]
    · constructor
      · intro h; rw [compF, if_pos h0] at h; exact absurd (holdE_zero.1 h).2.1 (by decide)
      · intro h; exact absurd (holdE_zero.1 h).2.1 h0
  refine Cn.of Tryz.func15 rfl rfl ?_
  refine gS (gR ?_)
  refine GoH.bx rfl rfl rfl rfl (fun b2 => ?_)
  refine GoH.v (Vop.asg (v := U 0#64) rfl rfl rfl rfl) ?_
  refine gAs ?_
  refine gE (gS ?_)
  refine GoH.drawO mixed (os := [[0, 1, 2, 3, 4, 5, 6, 7, 8], [0, 1, 2, 3, 4, 5, 7, 6, 8], [0, 1, 2, 3, 4, 6, 5, 7, 8], [1, 0, 2, 3, 4, 5, 6, 7, 8], [1, 0, 2, 3, 4, 5, 7, 6, 8], [1, 0, 2, 3, 4, 6, 5, 7, 8], [1, 2, 0, 3, 4, 5, 6, 7, 8], [1, 2, 0, 3, 4, 5, 7, 6, 8], [1, 2, 0, 3, 4, 6, 5, 7, 8]]) rfl ?_
  refine List.forall_mem_cons.2 ⟨?_, ?_⟩
  · -- order [0, 1, 2, 3, 4, 5, 6, 7, 8]
   refine GoH.v (Vop.ldB rfl rfl rfl rfl Tryz.isAgg25 0 rfl Tryz.sizeOf25 rfl) ?_
   refine gMv ?_
   refine GoH.callM _ rfl rfl rfl rfl rfl (fun _ _ => Tryz.call31 _ _) (fun w _ hS => rcompact_c a ca f w (ha.ex0 hS.ext) hl) ?_
   rintro v w1 w2 Y' hS he ho
   rw [subF_top] at ho
   obtain ⟨q, cap, sp, rfl, hq, hcap, hS'⟩ := gainN hS he ho
   refine ⟨_, hS', ?_⟩
   refine GoH.callM _ rfl rfl rfl rfl rfl (fun _ _ => Tryz.call34 _ _) (fun w _ hS => (by exact wSets_c m n (q.map (fun b => ⟨b, 0, none⟩)) cap (compF f) w (hm.ex0 hS.ext) hn (faAt hS 0 rfl (fun e => (hq e).1)) hcm hcan)) ?_
   rintro v w1 w2 Y' hS he ⟨sv, rfl, h2⟩
   obtain ⟨q2, cap2, sp2, rfl, hq2, hcap2, hS'⟩ := gainO hS he h2
   refine ⟨_, hS', ?_⟩
   refine gMv ?_
   iterate 2 refine gEx ?_
   iterate 2 refine gAs ?_
   refine gE (gS (gS (gR ?_)))
   refine gMv ?_
   refine gBi bNe ?_
   refine gMv ?_
   refine GoH.cases (d := 17) rfl (fun hc => ?_) (fun hc => ?_)
   ·
    have h0 : holdE m.n m.val m.rel f ≠ 0 := fun h => by simp [hE.2 h] at hc
    iterate 3 refine gNo ?_
    refine gPt ?_
    refine gE (GoH.condT rfl (gS (gR ?_)))
    refine GoH.v (Vop.ldB rfl rfl rfl rfl Tryz.isAgg25 2 rfl Tryz.sizeOf25 rfl) ?_
    refine gMv ?_
    refine GoH.callP rfl rfl rfl rfl rfl (fun _ _ => Tryz.call35 _ _) (fun w _ hS => (by exact wCheck_c m a ca f w (hm.ex0 hS.ext) (ha.ex0 hS.ext) hl)) ?_
    refine GoH.v (Vop.asg (v := U 0#64) rfl rfl rfl rfl) ?_
    refine gAs ?_
    refine gE ?_
    refine GoH.ret Tryz.f15 Tryz.func15 rfl (fun w' hS => ?_)
    exact ⟨hS.ext, by rw [holdS, if_neg h0]; rfl⟩
   ·
    have h0c : holdE m.n m.val m.rel (compF f) = 0 := by simpa using hc
    have h0 := hE.1 h0c
    have hf1 := (holdE_zero.1 h0).2.1
    have hC := CanF.compF hf1
    have hpos := (chkF_zero.1 hC.chk).pos
    have htop := sets_top (n := n) (val := m.val) (rel := m.rel) hC
    rw [topT_comp hf1] at htop
    have hsl : (setsR m n (compF f)).length = (compF f).length := by rw [setsR, if_pos h0c, setsL_len]
    have hget : (setsR m n (compF f)).getD ((compF f).length - 1) 0#64 = holdS m n f := by rw [setsR, if_pos h0c, htop, holdS, if_pos h0]
    obtain ⟨b, rfl⟩ : ∃ b, q2 = some b := by
      cases q2 with
      | none => have := (hq2 rfl).1; omega
      | some b => exact ⟨b, rfl⟩
    refine gMv ?_
    refine gBl Tryz.underlying22 ?_
    refine GoH.v (Vop.bin rfl rfl rfl rfl (bEqV (v := false) (beq_eq_false_iff_ne.2 (by omega))) rfl) ?_
    refine gPf ?_
    refine gE (GoH.condF rfl (gK (gS (gR ?_))))
    iterate 2 refine gMv ?_
    refine gBl Tryz.underlying22 ?_
    refine GoH.v (Vop.bin rfl rfl rfl rfl (bSub (by omega)) rfl) ?_
    refine GoH.v (Vop.idxS rfl rfl rfl rfl rfl Tryz.underlying22 Tryz.sizeOf36 ((compF f).length - 1) ⟨(by rw [hsl]; omega), (by rw [hsl]; omega)⟩) ?_
    refine GoH.v (Vop.ldE U 0#64 rfl rfl rfl rfl Tryz.isAgg36 0 rfl (by rw [hsl]; omega)) ?_
    iterate 2 refine gAs ?_
    refine gE ?_
    refine GoH.ret Tryz.f15 Tryz.func15 rfl (fun w' hS => ?_)
    exact ⟨hS.ext, by rw [h0, ← hget]; rfl⟩
  refine List.forall_mem_cons.2 ⟨?_, ?_⟩
  · -- order [0, 1, 2, 3, 4, 5, 7, 6, 8]
   refine GoH.v (Vop.ldB rfl rfl rfl rfl Tryz.isAgg25 0 rfl Tryz.sizeOf25 rfl) ?_
   refine gMv ?_
   refine GoH.callM _ rfl rfl rfl rfl rfl (fun _ _ => Tryz.call31 _ _) (fun w _ hS => rcompact_c a ca f w (ha.ex0 hS.ext) hl) ?_
   rintro v w1 w2 Y' hS he ho
   rw [subF_top] at ho
   obtain ⟨q, cap, sp, rfl, hq, hcap, hS'⟩ := gainN hS he ho
   refine ⟨_, hS', ?_⟩
   refine GoH.callM _ rfl rfl rfl rfl rfl (fun _ _ => Tryz.call34 _ _) (fun w _ hS => (by exact wSets_c m n (q.map (fun b => ⟨b, 0, none⟩)) cap (compF f) w (hm.ex0 hS.ext) hn (faAt hS 0 rfl (fun e => (hq e).1)) hcm hcan)) ?_
   rintro v w1 w2 Y' hS he ⟨sv, rfl, h2⟩
   obtain ⟨q2, cap2, sp2, rfl, hq2, hcap2, hS'⟩ := gainO hS he h2
   refine ⟨_, hS', ?_⟩
   refine gMv ?_
   refine gEx ?_
   refine gAs ?_
   refine gEx ?_
   refine gAs ?_
   refine gE (gS (gS (gR ?_)))
   refine gMv ?_
   refine gBi bNe ?_
   refine gMv ?_
   refine GoH.cases (d := 17) rfl (fun hc => ?_) (fun hc => ?_)
   ·
    have h0 : holdE m.n m.val m.rel f ≠ 0 := fun h => by simp [hE.2 h] at hc
    iterate 3 refine gNo ?_
    refine gPt ?_
    refine gE (GoH.condT rfl (gS (gR ?_)))
    refine GoH.v (Vop.ldB rfl rfl rfl rfl Tryz.isAgg25 2 rfl Tryz.sizeOf25 rfl) ?_
    refine gMv ?_
    refine GoH.callP rfl rfl rfl rfl rfl (fun _ _ => Tryz.call35 _ _) (fun w _ hS => (by exact wCheck_c m a ca f w (hm.ex0 hS.ext) (ha.ex0 hS.ext) hl)) ?_
    refine GoH.v (Vop.asg (v := U 0#64) rfl rfl rfl rfl) ?_
    refine gAs ?_
    refine gE ?_
    refine GoH.ret Tryz.f15 Tryz.func15 rfl (fun w' hS => ?_)
    exact ⟨hS.ext, by rw [holdS, if_neg h0]; rfl⟩
   ·
    have h0c : holdE m.n m.val m.rel (compF f) = 0 := by simpa using hc
    have h0 := hE.1 h0c
    have hf1 := (holdE_zero.1 h0).2.1
    have hC := CanF.compF hf1
    have hpos := (chkF_zero.1 hC.chk).pos
    have htop := sets_top (n := n) (val := m.val) (rel := m.rel) hC
    rw [topT_comp hf1] at htop
    have hsl : (setsR m n (compF f)).length = (compF f).length := by rw [setsR, if_pos h0c, setsL_len]
    have hget : (setsR m n (compF f)).getD ((compF f).length - 1) 0#64 = holdS m n f := by rw [setsR, if_pos h0c, htop, holdS, if_pos h0]
    obtain ⟨b, rfl⟩ : ∃ b, q2 = some b := by
      cases q2 with
      | none => have := (hq2 rfl).1; omega
      | some b => exact ⟨b, rfl⟩
    refine gMv ?_
    refine gBl Tryz.underlying22 ?_
    refine GoH.v (Vop.bin rfl rfl rfl rfl (bEqV (v := false) (beq_eq_false_iff_ne.2 (by omega))) rfl) ?_
    refine gPf ?_
    refine gE (GoH.condF rfl (gK (gS (gR ?_))))
    iterate 2 refine gMv ?_
    refine gBl Tryz.underlying22 ?_
    refine GoH.v (Vop.bin rfl rfl rfl rfl (bSub (by omega)) rfl) ?_
    refine GoH.v (Vop.idxS rfl rfl rfl rfl rfl Tryz.underlying22 Tryz.sizeOf36 ((compF f).length - 1) ⟨(by rw [hsl]; omega), (by rw [hsl]; omega)⟩) ?_
    refine GoH.v (Vop.ldE U 0#64 rfl rfl rfl rfl Tryz.isAgg36 0 rfl (by rw [hsl]; omega)) ?_
    iterate 2 refine gAs ?_
    refine gE ?_
    refine GoH.ret Tryz.f15 Tryz.func15 rfl (fun w' hS => ?_)
    exact ⟨hS.ext, by rw [h0, ← hget]; rfl⟩
  refine List.forall_mem_cons.2 ⟨?_, ?_⟩
  · -- order [0, 1, 2, 3, 4, 6, 5, 7, 8]
   refine GoH.v (Vop.ldB rfl rfl rfl rfl Tryz.isAgg25 0 rfl Tryz.sizeOf25 rfl) ?_
   refine gMv ?_
   refine GoH.callM _ rfl rfl rfl rfl rfl (fun _ _ => Tryz.call31 _ _) (fun w _ hS => rcompact_c a ca f w (ha.ex0 hS.ext) hl) ?_
   rintro v w1 w2 Y' hS he ho
   rw [subF_top] at ho
   obtain ⟨q, cap, sp, rfl, hq, hcap, hS'⟩ := gainN hS he ho
   refine ⟨_, hS', ?_⟩
   refine GoH.callM _ rfl rfl rfl rfl rfl (fun _ _ => Tryz.call34 _ _) (fun w _ hS => (by exact wSets_c m n (q.map (fun b => ⟨b, 0, none⟩)) cap (compF f) w (hm.ex0 hS.ext) hn (faAt hS 0 rfl (fun e => (hq e).1)) hcm hcan)) ?_
   rintro v w1 w2 Y' hS he ⟨sv, rfl, h2⟩
   obtain ⟨q2, cap2, sp2, rfl, hq2, hcap2, hS'⟩ := gainO hS he h2
   refine ⟨_, hS', ?_⟩
   refine gMv ?_
   iterate 2 refine gEx ?_
   iterate 2 refine gAs ?_
   refine gE (gS (gS (gR ?_)))
   refine gMv ?_
   refine gBi bNe ?_
   refine gMv ?_
   refine GoH.cases (d := 17) rfl (fun hc => ?_) (fun hc => ?_)
   ·
    have h0 : holdE m.n m.val m.rel f ≠ 0 := fun h => by simp [hE.2 h] at hc
    iterate 3 refine gNo ?_
    refine gPt ?_
    refine gE (GoH.condT rfl (gS (gR ?_)))
    refine GoH.v (Vop.ldB rfl rfl rfl rfl Tryz.isAgg25 2 rfl Tryz.sizeOf25 rfl) ?_
    refine gMv ?_
    refine GoH.callP rfl rfl rfl rfl rfl (fun _ _ => Tryz.call35 _ _) (fun w _ hS => (by exact wCheck_c m a ca f w (hm.ex0 hS.ext) (ha.ex0 hS.ext) hl)) ?_
    refine GoH.v (Vop.asg (v := U 0#64) rfl rfl rfl rfl) ?_
    refine gAs ?_
    refine gE ?_
    refine GoH.ret Tryz.f15 Tryz.func15 rfl (fun w' hS => ?_)
    exact ⟨hS.ext, by rw [holdS, if_neg h0]; rfl⟩
   ·
    have h0c : holdE m.n m.val m.rel (compF f) = 0 := by simpa using hc
    have h0 := hE.1 h0c
    have hf1 := (holdE_zero.1 h0).2.1
    have hC := CanF.compF hf1
    have hpos := (chkF_zero.1 hC.chk).pos
    have htop := sets_top (n := n) (val := m.val) (rel := m.rel) hC
    rw [topT_comp hf1] at htop
    have hsl : (setsR m n (compF f)).length = (compF f).length := by rw [setsR, if_pos h0c, setsL_len]
    have hget : (setsR m n (compF f)).getD ((compF f).length - 1) 0#64 = holdS m n f := by rw [setsR, if_pos h0c, htop, holdS, if_pos h0]
    obtain ⟨b, rfl⟩ : ∃ b, q2 = some b := by
      cases q2 with
      | none => have := (hq2 rfl).1; omega
      | some b => exact ⟨b, rfl⟩
    refine gMv ?_
    refine gBl Tryz.underlying22 ?_
    refine GoH.v (Vop.bin rfl rfl rfl rfl (bEqV (v := false) (beq_eq_false_iff_ne.2 (by omega))) rfl) ?_
    refine gPf ?_
    refine gE (GoH.condF rfl (gK (gS (gR ?_))))
    iterate 2 refine gMv ?_
    refine gBl Tryz.underlying22 ?_
    refine GoH.v (Vop.bin rfl rfl rfl rfl (bSub (by omega)) rfl) ?_
    refine GoH.v (Vop.idxS rfl rfl rfl rfl rfl Tryz.underlying22 Tryz.sizeOf36 ((compF f).length - 1) ⟨(by rw [hsl]; omega), (by rw [hsl]; omega)⟩) ?_
    refine GoH.v (Vop.ldE U 0#64 rfl rfl rfl rfl Tryz.isAgg36 0 rfl (by rw [hsl]; omega)) ?_
    iterate 2 refine gAs ?_
    refine gE ?_
    refine GoH.ret Tryz.f15 Tryz.func15 rfl (fun w' hS => ?_)
    exact ⟨hS.ext, by rw [h0, ← hget]; rfl⟩
  refine List.forall_mem_cons.2 ⟨?_, ?_⟩
  · -- order [1, 0, 2, 3, 4, 5, 6, 7, 8]
   refine gMv ?_
   refine GoH.v (Vop.ldB rfl rfl rfl rfl Tryz.isAgg25 0 rfl Tryz.sizeOf25 rfl) ?_
   refine GoH.callM _ rfl rfl rfl rfl rfl (fun _ _ => Tryz.call31 _ _) (fun w _ hS => rcompact_c a ca f w (ha.ex0 hS.ext) hl) ?_
   rintro v w1 w2 Y' hS he ho
   rw [subF_top] at ho
   obtain ⟨q, cap, sp, rfl, hq, hcap, hS'⟩ := gainN hS he ho
   refine ⟨_, hS', ?_⟩
   refine GoH.callM _ rfl rfl rfl rfl rfl (fun _ _ => Tryz.call34 _ _) (fun w _ hS => (by exact wSets_c m n (q.map (fun b => ⟨b, 0, none⟩)) cap (compF f) w (hm.ex0 hS.ext) hn (faAt hS 0 rfl (fun e => (hq e).1)) hcm hcan)) ?_
   rintro v w1 w2 Y' hS he ⟨sv, rfl, h2⟩
   obtain ⟨q2, cap2, sp2, rfl, hq2, hcap2, hS'⟩ := gainO hS he h2
   refine ⟨_, hS', ?_⟩
   refine gMv ?_
   iterate 2 refine gEx ?_
   iterate 2 refine gAs ?_
   refine gE (gS (gS (gR ?_)))
   refine gMv ?_
   refine gBi bNe ?_
   refine gMv ?_
   refine GoH.cases (d := 17) rfl (fun hc => ?_) (fun hc => ?_)
   ·
    have h0 : holdE m.n m.val m.rel f ≠ 0 := fun h => by simp [hE.2 h] at hc
    iterate 3 refine gNo ?_
    refine gPt ?_
    refine gE (GoH.condT rfl (gS (gR ?_)))
    refine GoH.v (Vop.ldB rfl rfl rfl rfl Tryz.isAgg25 2 rfl Tryz.sizeOf25 rfl) ?_
    refine gMv ?_
    refine GoH.callP rfl rfl rfl rfl rfl (fun _ _ => Tryz.call35 _ _) (fun w _ hS => (by exact wCheck_c m a ca f w (hm.ex0 hS.ext) (ha.ex0 hS.ext) hl)) ?_
    refine GoH.v (Vop.asg (v := U 0#64) rfl rfl rfl rfl) ?_
    refine gAs ?_
    refine gE ?_
    refine GoH.ret Tryz.f15 Tryz.func15 rfl (fun w' hS => ?_)
    exact ⟨hS.ext, by rw [holdS, if_neg h0]; rfl⟩
   ·
    have h0c : holdE m.n m.val m.rel (compF f) = 0 := by simpa using hc
    have h0 := hE.1 h0c
    have hf1 := (holdE_zero.1 h0).2.1
    have hC := CanF.compF hf1
    have hpos := (chkF_zero.1 hC.chk).pos
    have htop := sets_top (n := n) (val := m.val) (rel := m.rel) hC
    rw [topT_comp hf1] at htop
    have hsl : (setsR m n (compF f)).length = (compF f).length := by rw [setsR, if_pos h0c, setsL_len]
    have hget : (setsR m n (compF f)).getD ((compF f).length - 1) 0#64 = holdS m n f := by rw [setsR, if_pos h0c, htop, holdS, if_pos h0]
    obtain ⟨b, rfl⟩ : ∃ b, q2 = some b := by
      cases q2 with
      | none => have := (hq2 rfl).1; omega
      | some b => exact ⟨b, rfl⟩
    refine gMv ?_
    refine gBl Tryz.underlying22 ?_
    refine GoH.v (Vop.bin rfl rfl rfl rfl (bEqV (v := false) (beq_eq_false_iff_ne.2 (by omega))) rfl) ?_
    refine gPf ?_
    refine gE (GoH.condF rfl (gK (gS (gR ?_))))
    iterate 2 refine gMv ?_
    refine gBl Tryz.underlying22 ?_
    refine GoH.v (Vop.bin rfl rfl rfl rfl (bSub (by omega)) rfl) ?_
    refine GoH.v (Vop.idxS rfl rfl rfl rfl rfl Tryz.underlying22 Tryz.sizeOf36 ((compF f).length - 1) ⟨(by rw [hsl]; omega), (by rw [hsl]; omega)⟩) ?_
    refine GoH.v (Vop.ldE U 0#64 rfl rfl rfl rfl Tryz.isAgg36 0 rfl (by rw [hsl]; omega)) ?_
    iterate 2 refine gAs ?_
    refine gE ?_
    refine GoH.ret Tryz.f15 Tryz.func15 rfl (fun w' hS => ?_)
    exact ⟨hS.ext, by rw [h0, ← hget]; rfl⟩
  refine List.forall_mem_cons.2 ⟨?_, ?_⟩
  · -- order [1, 0, 2, 3, 4, 5, 7, 6, 8]
   refine gMv ?_
   refine GoH.v (Vop.ldB rfl rfl rfl rfl Tryz.isAgg25 0 rfl Tryz.sizeOf25 rfl) ?_
   refine GoH.callM _ rfl rfl rfl rfl rfl (fun _ _ => Tryz.call31 _ _) (fun w _ hS => rcompact_c a ca f w (ha.ex0 hS.ext) hl) ?_
   rintro v w1 w2 Y' hS he ho
   rw [subF_top] at ho
   obtain ⟨q, cap, sp, rfl, hq, hcap, hS'⟩ := gainN hS he ho
   refine ⟨_, hS', ?_⟩
   refine GoH.callM _ rfl rfl rfl rfl rfl (fun _ _ => Tryz.call34 _ _) (fun w _ hS => (by exact wSets_c m n (q.map (fun b => ⟨b, 0, none⟩)) cap (compF f) w (hm.ex0 hS.ext) hn (faAt hS 0 rfl (fun e => (hq e).1)) hcm hcan)) ?_
   rintro v w1 w2 Y' hS he ⟨sv, rfl, h2⟩
   obtain ⟨q2, cap2, sp2, rfl, hq2, hcap2, hS'⟩ := gainO hS he h2
   refine ⟨_, hS', ?_⟩
   refine gMv ?_
   refine gEx ?_
   refine gAs ?_
   refine gEx ?_
   refine gAs ?_
   refine gE (gS (gS (gR ?_)))
   refine gMv ?_
   refine gBi bNe ?_
   refine gMv ?_
   refine GoH.cases (d := 17) rfl (fun hc => ?_) (fun hc => ?_)
   ·
    have h0 : holdE m.n m.val m.rel f ≠ 0 := fun h => by simp [hE.2 h] at hc
    iterate 3 refine gNo ?_
    refine gPt ?_
    refine gE (GoH.condT rfl (gS (gR ?_)))
    refine GoH.v (Vop.ldB rfl rfl rfl rfl Tryz.isAgg25 2 rfl Tryz.sizeOf25 rfl) ?_
    refine gMv ?_
    refine GoH.callP rfl rfl rfl rfl rfl (fun _ _ => Tryz.call35 _ _) (fun w _ hS => (by exact wCheck_c m a ca f w (hm.ex0 hS.ext) (ha.ex0 hS.ext) hl)) ?_
    refine GoH.v (Vop.asg (v := U 0#64) rfl rfl rfl rfl) ?_
    refine gAs ?_
    refine gE ?_
    refine GoH.ret Tryz.f15 Tryz.func15 rfl (fun w' hS => ?_)
    exact ⟨hS.ext, by rw [holdS, if_neg h0]; rfl⟩
   ·
    have h0c : holdE m.n m.val m.rel (compF f) = 0 := by simpa using hc
    have h0 := hE.1 h0c
    have hf1 := (holdE_zero.1 h0).2.1
    have hC := CanF.compF hf1
    have hpos := (chkF_zero.1 hC.chk).pos
    have htop := sets_top (n := n) (val := m.val) (rel := m.rel) hC
    rw [topT_comp hf1] at htop
    have hsl : (setsR m n (compF f)).length = (compF f).length := by rw [setsR, if_pos h0c, setsL_len]
    have hget : (setsR m n (compF f)).getD ((compF f).length - 1) 0#64 = holdS m n f := by rw [setsR, if_pos h0c, htop, holdS, if_pos h0]
    obtain ⟨b, rfl⟩ : ∃ b, q2 = some b := by
      cases q2 with
      | none => have := (hq2 rfl).1; omega
      | some b => exact ⟨b, rfl⟩
    refine gMv ?_
    refine gBl Tryz.underlying22 ?_
    refine GoH.v (Vop.bin rfl rfl rfl rfl (bEqV (v := false) (beq_eq_false_iff_ne.2 (by omega))) rfl) ?_
    refine gPf ?_
    refine gE (GoH.condF rfl (gK (gS (gR ?_))))
    iterate 2 refine gMv ?_
    refine gBl Tryz.underlying22 ?_
    refine GoH.v (Vop.bin rfl rfl rfl rfl (bSub (by omega)) rfl) ?_
    refine GoH.v (Vop.idxS rfl rfl rfl rfl rfl Tryz.underlying22 Tryz.sizeOf36 ((compF f).length - 1) ⟨(by rw [hsl]; omega), (by rw [hsl]; omega)⟩) ?_
    refine GoH.v (Vop.ldE U 0#64 rfl rfl rfl rfl Tryz.isAgg36 0 rfl (by rw [hsl]; omega)) ?_
    iterate 2 refine gAs ?_
    refine gE ?_
    refine GoH.ret Tryz.f15 Tryz.func15 rfl (fun w' hS => ?_)
    exact ⟨hS.ext, by rw [h0, ← hget]; rfl⟩
  refine List.forall_mem_cons.2 ⟨?_, ?_⟩
  · -- order [1, 0, 2, 3, 4, 6, 5, 7, 8]
   refine gMv ?_
   refine GoH.v (Vop.ldB rfl rfl rfl rfl Tryz.isAgg25 0 rfl Tryz.sizeOf25 rfl) ?_
   refine GoH.callM _ rfl rfl rfl rfl rfl (fun _ _ => Tryz.call31 _ _) (fun w _ hS => rcompact_c a ca f w (ha.ex0 hS.ext) hl) ?_
   rintro v w1 w2 Y' hS he ho
   rw [subF_top] at ho
   obtain ⟨q, cap, sp, rfl, hq, hcap, hS'⟩ := gainN hS he ho
   refine ⟨_, hS', ?_⟩
   refine GoH.callM _ rfl rfl rfl rfl rfl (fun _ _ => Tryz.call34 _ _) (fun w _ hS => (by exact wSets_c m n (q.map (fun b => ⟨b, 0, none⟩)) cap (compF f) w (hm.ex0 hS.ext) hn (faAt hS 0 rfl (fun e => (hq e).1)) hcm hcan)) ?_
   rintro v w1 w2 Y' hS he ⟨sv, rfl, h2⟩
   obtain ⟨q2, cap2, sp2, rfl, hq2, hcap2, hS'⟩ := gainO hS he h2
   refine ⟨_, hS', ?_⟩
   refine gMv ?_
   iterate 2 refine gEx ?_
   iterate 2 refine gAs ?_
   refine gE (gS (gS (gR ?_)))
   refine gMv ?_
   refine gBi bNe ?_
   refine gMv ?_
   refine GoH.cases (d := 17) rfl (fun hc => ?_) (fun hc => ?_)
   ·
    have h0 : holdE m.n m.val m.rel f ≠ 0 := fun h => by simp [hE.2 h] at hc
    iterate 3 refine gNo ?_
    refine gPt ?_
    refine gE (GoH.condT rfl (gS (gR ?_)))
    refine GoH.v (Vop.ldB rfl rfl rfl rfl Tryz.isAgg25 2 rfl Tryz.sizeOf25 rfl) ?_
    refine gMv ?_
    refine GoH.callP rfl rfl rfl rfl rfl (fun _ _ => Tryz.call35 _ _) (fun w _ hS => (by exact wCheck_c m a ca f w (hm.ex0 hS.ext) (ha.ex0 hS.ext) hl)) ?_
    refine GoH.v (Vop.asg (v := U 0#64) rfl rfl rfl rfl) ?_
    refine gAs ?_
    refine gE ?_
    refine GoH.ret Tryz.f15 Tryz.func15 rfl (fun w' hS => ?_)
    exact ⟨hS.ext, by rw [holdS, if_neg h0]; rfl⟩
   ·
    have h0c : holdE m.n m.val m.rel (compF f) = 0 := by simpa using hc
    have h0 := hE.1 h0c
    have hf1 := (holdE_zero.1 h0).2.1
    have hC := CanF.compF hf1
    have hpos := (chkF_zero.1 hC.chk).pos
    have htop := sets_top (n := n) (val := m.val) (rel := m.rel) hC
    rw [topT_comp hf1] at htop
    have hsl : (setsR m n (compF f)).length = (compF f).length := by rw [setsR, if_pos h0c, setsL_len]
    have hget : (setsR m n (compF f)).getD ((compF f).length - 1) 0#64 = holdS m n f := by rw [setsR, if_pos h0c, htop, holdS, if_pos h0]
    obtain ⟨b, rfl⟩ : ∃ b, q2 = some b := by
      cases q2 with
      | none => have := (hq2 rfl).1; omega
      | some b => exact ⟨b, rfl⟩
    refine gMv ?_
    refine gBl Tryz.underlying22 ?_
    refine GoH.v (Vop.bin rfl rfl rfl rfl (bEqV (v := false) (beq_eq_false_iff_ne.2 (by omega))) rfl) ?_
    refine gPf ?_
    refine gE (GoH.condF rfl (gK (gS (gR ?_))))
    iterate 2 refine gMv ?_
    refine gBl Tryz.underlying22 ?_
    refine GoH.v (Vop.bin rfl rfl rfl rfl (bSub (by omega)) rfl) ?_
    refine GoH.v (Vop.idxS rfl rfl rfl rfl rfl Tryz.underlying22 Tryz.sizeOf36 ((compF f).length - 1) ⟨(by rw [hsl]; omega), (by rw [hsl]; omega)⟩) ?_
    refine GoH.v (Vop.ldE U 0#64 rfl rfl rfl rfl Tryz.isAgg36 0 rfl (by rw [hsl]; omega)) ?_
    iterate 2 refine gAs ?_
    refine gE ?_
    refine GoH.ret Tryz.f15 Tryz.func15 rfl (fun w' hS => ?_)
    exact ⟨hS.ext, by rw [h0, ← hget]; rfl⟩
  refine List.forall_mem_cons.2 ⟨?_, ?_⟩
  · -- order [1, 2, 0, 3, 4, 5, 6, 7, 8]
   refine gMv ?_
   refine GoH.callM _ rfl rfl rfl rfl rfl (fun _ _ => Tryz.call31 _ _) (fun w _ hS => rcompact_c a ca f w (ha.ex0 hS.ext) hl) ?_
   rintro v w1 w2 Y' hS he ho
   rw [subF_top] at ho
   obtain ⟨q, cap, sp, rfl, hq, hcap, hS'⟩ := gainN hS he ho
   refine ⟨_, hS', ?_⟩
   refine GoH.v (Vop.ldB rfl rfl rfl rfl Tryz.isAgg25 1 rfl Tryz.sizeOf25 rfl) ?_
   refine GoH.callM _ rfl rfl rfl rfl rfl (fun _ _ => Tryz.call34 _ _) (fun w _ hS => (by exact wSets_c m n (q.map (fun b => ⟨b, 0, none⟩)) cap (compF f) w (hm.ex0 hS.ext) hn (faAt hS 0 rfl (fun e => (hq e).1)) hcm hcan)) ?_
   rintro v w1 w2 Y' hS he ⟨sv, rfl, h2⟩
   obtain ⟨q2, cap2, sp2, rfl, hq2, hcap2, hS'⟩ := gainO hS he h2
   refine ⟨_, hS', ?_⟩
   refine gMv ?_
   iterate 2 refine gEx ?_
   iterate 2 refine gAs ?_
   refine gE (gS (gS (gR ?_)))
   refine gMv ?_
   refine gBi bNe ?_
   refine gMv ?_
   refine GoH.cases (d := 17) rfl (fun hc => ?_) (fun hc => ?_)
   ·
    have h0 : holdE m.n m.val m.rel f ≠ 0 := fun h => by simp [hE.2 h] at hc
    iterate 3 refine gNo ?_
    refine gPt ?_
    refine gE (GoH.condT rfl (gS (gR ?_)))
    refine GoH.v (Vop.ldB rfl rfl rfl rfl Tryz.isAgg25 2 rfl Tryz.sizeOf25 rfl) ?_
    refine gMv ?_
    refine GoH.callP rfl rfl rfl rfl rfl (fun _ _ => Tryz.call35 _ _) (fun w _ hS => (by exact wCheck_c m a ca f w (hm.ex0 hS.ext) (ha.ex0 hS.ext) hl)) ?_
    refine GoH.v (Vop.asg (v := U 0#64) rfl rfl rfl rfl) ?_
    refine gAs ?_
    refine gE ?_
    refine GoH.ret Tryz.f15 Tryz.func15 rfl (fun w' hS => ?_)
    exact ⟨hS.ext, by rw [holdS, if_neg h0]; rfl⟩
   ·
    have h0c : holdE m.n m.val m.rel (compF f) = 0 := by simpa using hc
    have h0 := hE.1 h0c
    have hf1 := (holdE_zero.1 h0).2.1
    have hC := CanF.compF hf1
    have hpos := (chkF_zero.1 hC.chk).pos
    have htop := sets_top (n := n) (val := m.val) (rel := m.rel) hC
    rw [topT_comp hf1] at htop
    have hsl : (setsR m n (compF f)).length = (compF f).length := by rw [setsR, if_pos h0c, setsL_len]
    have hget : (setsR m n (compF f)).getD ((compF f).length - 1) 0#64 = holdS m n f := by rw [setsR, if_pos h0c, htop, holdS, if_pos h0]
    obtain ⟨b, rfl⟩ : ∃ b, q2 = some b := by
      cases q2 with
      | none => have := (hq2 rfl).1; omega
      | some b => exact ⟨b, rfl⟩
    refine gMv ?_
    refine gBl Tryz.underlying22 ?_
    refine GoH.v (Vop.bin rfl rfl rfl rfl (bEqV (v := false) (beq_eq_false_iff_ne.2 (by omega))) rfl) ?_
    refine gPf ?_
    refine gE (GoH.condF rfl (gK (gS (gR ?_))))
    iterate 2 refine gMv ?_
    refine gBl Tryz.underlying22 ?_
    refine GoH.v (Vop.bin rfl rfl rfl rfl (bSub (by omega)) rfl) ?_
    refine GoH.v (Vop.idxS rfl rfl rfl rfl rfl Tryz.underlying22 Tryz.sizeOf36 ((compF f).length - 1) ⟨(by rw [hsl]; omega), (by rw [hsl]; omega)⟩) ?_
    refine GoH.v (Vop.ldE U 0#64 rfl rfl rfl rfl Tryz.isAgg36 0 rfl (by rw [hsl]; omega)) ?_
    iterate 2 refine gAs ?_
    refine gE ?_
    refine GoH.ret Tryz.f15 Tryz.func15 rfl (fun w' hS => ?_)
    exact ⟨hS.ext, by rw [h0, ← hget]; rfl⟩
  refine List.forall_mem_cons.2 ⟨?_, ?_⟩
  · -- order [1, 2, 0, 3, 4, 5, 7, 6, 8]
   refine gMv ?_
   refine GoH.callM _ rfl rfl rfl rfl rfl (fun _ _ => Tryz.call31 _ _) (fun w _ hS => rcompact_c a ca f w (ha.ex0 hS.ext) hl) ?_
   rintro v w1 w2 Y' hS he ho
   rw [subF_top] at ho
   obtain ⟨q, cap, sp, rfl, hq, hcap, hS'⟩ := gainN hS he ho
   refine ⟨_, hS', ?_⟩
   refine GoH.v (Vop.ldB rfl rfl rfl rfl Tryz.isAgg25 1 rfl Tryz.sizeOf25 rfl) ?_
   refine GoH.callM _ rfl rfl rfl rfl rfl (fun _ _ => Tryz.call34 _ _) (fun w _ hS => (by exact wSets_c m n (q.map (fun b => ⟨b, 0, none⟩)) cap (compF f) w (hm.ex0 hS.ext) hn (faAt hS 0 rfl (fun e => (hq e).1)) hcm hcan)) ?_
   rintro v w1 w2 Y' hS he ⟨sv, rfl, h2⟩
   obtain ⟨q2, cap2, sp2, rfl, hq2, hcap2, hS'⟩ := gainO hS he h2
   refine ⟨_, hS', ?_⟩
   refine gMv ?_
   refine gEx ?_
   refine gAs ?_
   refine gEx ?_
   refine gAs ?_
   refine gE (gS (gS (gR ?_)))
   refine gMv ?_
   refine gBi bNe ?_
   refine gMv ?_
   refine GoH.cases (d := 17) rfl (fun hc => ?_) (fun hc => ?_)
   ·
    have h0 : holdE m.n m.val m.rel f ≠ 0 := fun h => by simp [hE.2 h] at hc
    iterate 3 refine gNo ?_
    refine gPt ?_
    refine gE (GoH.condT rfl (gS (gR ?_)))
    refine GoH.v (Vop.ldB rfl rfl rfl rfl Tryz.isAgg25 2 rfl Tryz.sizeOf25 rfl) ?_
    refine gMv ?_
    refine GoH.callP rfl rfl rfl rfl rfl (fun _ _ => Tryz.call35 _ _) (fun w _ hS => (by exact wCheck_c m a ca f w (hm.ex0 hS.ext) (ha.ex0 hS.ext) hl)) ?_
    refine GoH.v (Vop.asg (v := U 0#64) rfl rfl rfl rfl) ?_
    refine gAs ?_
    refine gE ?_
    refine GoH.ret Tryz.f15 Tryz.func15 rfl (fun w' hS => ?_)
    exact ⟨hS.ext, by rw [holdS, if_neg h0]; rfl⟩
   ·
    have h0c : holdE m.n m.val m.rel (compF f) = 0 := by simpa using hc
    have h0 := hE.1 h0c
    have hf1 := (holdE_zero.1 h0).2.1
    have hC := CanF.compF hf1
    have hpos := (chkF_zero.1 hC.chk).pos
    have htop := sets_top (n := n) (val := m.val) (rel := m.rel) hC
    rw [topT_comp hf1] at htop
    have hsl : (setsR m n (compF f)).length = (compF f).length := by rw [setsR, if_pos h0c, setsL_len]
    have hget : (setsR m n (compF f)).getD ((compF f).length - 1) 0#64 = holdS m n f := by rw [setsR, if_pos h0c, htop, holdS, if_pos h0]
    obtain ⟨b, rfl⟩ : ∃ b, q2 = some b := by
      cases q2 with
      | none => have := (hq2 rfl).1; omega
      | some b => exact ⟨b, rfl⟩
    refine gMv ?_
    refine gBl Tryz.underlying22 ?_
    refine GoH.v (Vop.bin rfl rfl rfl rfl (bEqV (v := false) (beq_eq_false_iff_ne.2 (by omega))) rfl) ?_
    refine gPf ?_
    refine gE (GoH.condF rfl (gK (gS (gR ?_))))
    iterate 2 refine gMv ?_
    refine gBl Tryz.underlying22 ?_
    refine GoH.v (Vop.bin rfl rfl rfl rfl (bSub (by omega)) rfl) ?_
    refine GoH.v (Vop.idxS rfl rfl rfl rfl rfl Tryz.underlying22 Tryz.sizeOf36 ((compF f).length - 1) ⟨(by rw [hsl]; omega), (by rw [hsl]; omega)⟩) ?_
    refine GoH.v (Vop.ldE U 0#64 rfl rfl rfl rfl Tryz.isAgg36 0 rfl (by rw [hsl]; omega)) ?_
    iterate 2 refine gAs ?_
    refine gE ?_
    refine GoH.ret Tryz.f15 Tryz.func15 rfl (fun w' hS => ?_)
    exact ⟨hS.ext, by rw [h0, ← hget]; rfl⟩
  refine List.forall_mem_cons.2 ⟨?_, ?_⟩
  · -- order [1, 2, 0, 3, 4, 6, 5, 7, 8]
   refine gMv ?_
   refine GoH.callM _ rfl rfl rfl rfl rfl (fun _ _ => Tryz.call31 _ _) (fun w _ hS => rcompact_c a ca f w (ha.ex0 hS.ext) hl) ?_
   rintro v w1 w2 Y' hS he ho
   rw [subF_top] at ho
   obtain ⟨q, cap, sp, rfl, hq, hcap, hS'⟩ := gainN hS he ho
   refine ⟨_, hS', ?_⟩
   refine GoH.v (Vop.ldB rfl rfl rfl rfl Tryz.isAgg25 1 rfl Tryz.sizeOf25 rfl) ?_
   refine GoH.callM _ rfl rfl rfl rfl rfl (fun _ _ => Tryz.call34 _ _) (fun w _ hS => (by exact wSets_c m n (q.map (fun b => ⟨b, 0, none⟩)) cap (compF f) w (hm.ex0 hS.ext) hn (faAt hS 0 rfl (fun e => (hq e).1)) hcm hcan)) ?_
   rintro v w1 w2 Y' hS he ⟨sv, rfl, h2⟩
   obtain ⟨q2, cap2, sp2, rfl, hq2, hcap2, hS'⟩ := gainO hS he h2
   refine ⟨_, hS', ?_⟩
   refine gMv ?_
   iterate 2 refine gEx ?_
   iterate 2 refine gAs ?_
   refine gE (gS (gS (gR ?_)))
   refine gMv ?_
   refine gBi bNe ?_
   refine gMv ?_
   refine GoH.cases (d := 17) rfl (fun hc => ?_) (fun hc => ?_)
   ·
    have h0 : holdE m.n m.val m.rel f ≠ 0 := fun h => by simp [hE.2 h] at hc
    iterate 3 refine gNo ?_
    refine gPt ?_
    refine gE (GoH.condT rfl (gS (gR ?_)))
    refine GoH.v (Vop.ldB rfl rfl rfl rfl Tryz.isAgg25 2 rfl Tryz.sizeOf25 rfl) ?_
    refine gMv ?_
    refine GoH.callP rfl rfl rfl rfl rfl (fun _ _ => Tryz.call35 _ _) (fun w _ hS => (by exact wCheck_c m a ca f w (hm.ex0 hS.ext) (ha.ex0 hS.ext) hl)) ?_
    refine GoH.v (Vop.asg (v := U 0#64) rfl rfl rfl rfl) ?_
    refine gAs ?_
    refine gE ?_
    refine GoH.ret Tryz.f15 Tryz.func15 rfl (fun w' hS => ?_)
    exact ⟨hS.ext, by rw [holdS, if_neg h0]; rfl⟩
   ·
    have h0c : holdE m.n m.val m.rel (compF f) = 0 := by simpa using hc
    have h0 := hE.1 h0c
    have hf1 := (holdE_zero.1 h0).2.1
    have hC := CanF.compF hf1
    have hpos := (chkF_zero.1 hC.chk).pos
    have htop := sets_top (n := n) (val := m.val) (rel := m.rel) hC
    rw [topT_comp hf1] at htop
    have hsl : (setsR m n (compF f)).length = (compF f).length := by rw [setsR, if_pos h0c, setsL_len]
    have hget : (setsR m n (compF f)).getD ((compF f).length - 1) 0#64 = holdS m n f := by rw [setsR, if_pos h0c, htop, holdS, if_pos h0]
    obtain ⟨b, rfl⟩ : ∃ b, q2 = some b := by
      cases q2 with
      | none => have := (hq2 rfl).1; omega
      | some b => exact ⟨b, rfl⟩
    refine gMv ?_
    refine gBl Tryz.underlying22 ?_
    refine GoH.v (Vop.bin rfl rfl rfl rfl (bEqV (v := false) (beq_eq_false_iff_ne.2 (by omega))) rfl) ?_
    refine gPf ?_
    refine gE (GoH.condF rfl (gK (gS (gR ?_))))
    iterate 2 refine gMv ?_
    refine gBl Tryz.underlying22 ?_
    refine GoH.v (Vop.bin rfl rfl rfl rfl (bSub (by omega)) rfl) ?_
    refine GoH.v (Vop.idxS rfl rfl rfl rfl rfl Tryz.underlying22 Tryz.sizeOf36 ((compF f).length - 1) ⟨(by rw [hsl]; omega), (by rw [hsl]; omega)⟩) ?_
    refine GoH.v (Vop.ldE U 0#64 rfl rfl rfl rfl Tryz.isAgg36 0 rfl (by rw [hsl]; omega)) ?_
    iterate 2 refine gAs ?_
    refine gE ?_
    refine GoH.ret Tryz.f15 Tryz.func15 rfl (fun w' hS => ?_)
    exact ⟨hS.ext, by rw [h0, ← hget]; rfl⟩
  intro _ hx; cases hx
end Go.Proofs.YtcljmlnnfdaljaaGreatDoor
