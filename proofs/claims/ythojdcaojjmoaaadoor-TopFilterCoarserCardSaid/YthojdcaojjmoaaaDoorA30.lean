/- What calls of the program return, under the conditions that each theorem states. -/
import Derived.Test.YthojdcaojjmoaaaDoorA28
import Derived.Test.YthojdcaojjmoaaaDoorA29
import Derived.Test.YthojdcaojjmoaaaDoorA04
namespace Go.Proofs.YthojdcaojjmoaaaDoor
open Go.RowKit Go.Proofs.Wit
/-! the program's checker -/
theorem request_c (m : MV) (a : Option Addr) (ca : Nat) (f : List NV) (w : World) (hm : m.At w) (ha : FA w a f) (hl : f.length ≤ maxLen) : Cn Tryd.prog 39 [m.v, .slice a f.length ca] w (fun v _ => v = .int .i64 (holdE m.n m.val m.rel f)) := by
  have hrl : m.rel.length = m.rows.length := by simp [MV.rel]
  refine Cn.of Tryd.func39 rfl rfl ?_
  refine gS (gR ?_)
  refine GoH.bx rfl rfl rfl rfl (fun b2 => ?_)
  refine gAs ?_
  refine gE (gS (gS (gR ?_)))
  refine GoH.v (Vop.ldB rfl rfl rfl rfl Tryd.isAgg25 0 rfl Tryd.sizeOf25 rfl) ?_
  refine GoH.callP rfl rfl rfl rfl rfl (fun _ _ => Tryd.call14 _ _) (fun w _ hS => (by exact mcheck_c m w (hm.ex0 hS.ext))) ?_
  refine gAs ?_
  refine gE (gS (gR ?_))
  refine gMv ?_
  refine gBi bNe ?_
  refine gE ?_
  refine GoH.cond rfl (fun hc => ?_) (fun hc => ?_)
  ·
   have h1 : checkM m.n m.val m.rel ≠ 0 := by simpa using hc
   refine gS (gR ?_)
   refine gMv ?_
   refine gAs ?_
   refine gE ?_
   refine GoH.ret Tryd.f39 Tryd.func39 rfl (fun w' hS => ?_)
   exact ⟨hS.ext, by rw [holdE, if_pos h1]; rfl⟩
  ·
   have h1 : checkM m.n m.val m.rel = 0 := by simpa using hc
   have hv := checkM_zero.1 h1
   have hag := hv.agents
   have hfa := hv.facts
   refine gK (gS (gS (gR ?_)))
   refine gMv ?_
   refine GoH.callP rfl rfl rfl rfl rfl (fun _ _ => Tryd.call17 _ _) (fun w _ hS => (by exact fcheck_c a ca f w (ha.ex0 hS.ext) hl)) ?_
   refine gAs ?_
   refine gE (gS (gR ?_))
   refine gMv ?_
   refine gBi bNe ?_
   refine gE ?_
   refine GoH.cond rfl (fun hc => ?_) (fun hc => ?_)
   ·
    have h2 : chkF f ≠ 0 := by simpa using hc
    refine gS (gR ?_)
    refine gMv ?_
    refine gAs ?_
    refine gE ?_
    refine GoH.ret Tryd.f39 Tryd.func39 rfl (fun w' hS => ?_)
    exact ⟨hS.ext, by rw [holdE, if_neg (by simp [h1]), if_pos h2]; rfl⟩
   ·
    have h2 : chkF f = 0 := by simpa using hc
    refine gK (gS (gS (gR ?_)))
    refine gMv ?_
    refine GoH.callP rfl rfl rfl rfl rfl (fun _ _ => Tryd.call22 _ _) (fun w _ hS => (by exact frags_c a ca f w (ha.ex0 hS.ext) hl)) ?_
    refine GoH.v (Vop.bin rfl rfl rfl rfl (bAndNotI (frgL_lt _) (by omega : (15 : Nat) < 512)) rfl) ?_
    refine gBi bNe ?_
    refine gE ?_
    refine GoH.cond rfl (fun hc => ?_) (fun hc => ?_)
    ·
     have h3 : andN (frgL (compF f)) 15 ≠ 0 := by
       have : ((andN (frgL (compF f)) 15 : Nat) : Int) ≠ 0 := by simpa using hc
       omega
     refine gS (gR ?_)
     refine gAs ?_
     refine gE ?_
     refine GoH.ret Tryd.f39 Tryd.func39 rfl (fun w' hS => ?_)
     exact ⟨hS.ext, by rw [holdE, if_neg (by simp [h1]), if_neg (by simp [h2]), if_pos h3]; rfl⟩
    ·
     have h3 : andN (frgL (compF f)) 15 = 0 := by
       have : ((andN (frgL (compF f)) 15 : Nat) : Int) = 0 := by simpa using hc
       omega
     refine gK (gS (gS (gR ?_)))
     refine gMv ?_
     refine gFp Tryd.underlying25 Tryd.sizeOf23 2 ?_
     refine GoH.v (Vop.ldo (v := .slice m.ra m.rows.length m.rc) rfl rfl rfl rfl Tryd.isAgg23 0 rfl rfl) ?_
     refine gBl Tryd.underlying23 ?_
     refine gFp Tryd.underlying25 Tryd.sizeOf22 1 ?_
     refine GoH.v (Vop.ldo (v := .slice m.va m.val.length m.vc) rfl rfl rfl rfl Tryd.isAgg22 0 rfl rfl) ?_
     refine gBl Tryd.underlying22 ?_
     refine GoH.callP rfl rfl rfl rfl rfl (fun _ _ => Tryd.call51 _ _) (fun w _ hS => (by exact pfits_c a ca f m.rows.length m.val.length w (ha.ex0 hS.ext) hl (by omega) (by omega))) ?_
     refine gUn uNot ?_
     refine gE ?_
     refine GoH.cond rfl (fun hc => ?_) (fun hc => ?_)
     ·
      have h4 : fitB f m.rel.length m.val.length = false := by rw [hrl]; simpa using hc
      refine gS (gR ?_)
      refine gAs ?_
      refine gE ?_
      refine GoH.ret Tryd.f39 Tryd.func39 rfl (fun w' hS => ?_)
      exact ⟨hS.ext, by rw [holdE, if_neg (by simp [h1]), if_neg (by simp [h2]), if_neg (by simp [h3]), if_pos h4]; rfl⟩
     ·
      have h4 : fitB f m.rel.length m.val.length = true := by rw [hrl]; simpa using hc
      refine gK (gS (gR ?_))
      refine gAs ?_
      refine gE ?_
      refine GoH.ret Tryd.f39 Tryd.func39 rfl (fun w' hS => ?_)
      exact ⟨hS.ext, by rw [holdE, if_neg (by simp [h1]), if_neg (by simp [h2]), if_neg (by simp [h3]), if_neg (by simp [h4])]; rfl⟩
theorem pcommon_c (a : Option Addr) (ca : Nat) (r : List W64) (c s : W64) (w : World) (ha : SlU w a r) (hv : Val r) : Cn Tryd.prog 56 [.slice a r.length ca, U (allW r.length), U c, U s] w (fun v _ => v = U (comW r r.length c s)) := by
  have hl := hv.len
  refine Cn.of Tryd.func56 rfl rfl ?_
  refine gS (gR ?_)
  refine GoH.v (Vop.asg (v := U 0#64) rfl rfl rfl rfl) ?_
  refine gE (gS (gR ?_))
  refine gMv ?_
  refine gAs ?_
  refine gE (gB ?_)
  refine GoH.loop (σ := Nat) (fun k => [(0, .slice a r.length ca), (1, U (allW r.length)), (2, U c), (3, U s), (9, U (gcB r r.length c s k))]) (fun _ => []) (fun _ => True) (fun k => cntB r.length (gcB r r.length c s k)) 0 trivial ⟨rfl, rfl, rfl, rfl, rfl, trivial⟩ .slnil (fun k _ IH => ?_)
  refine gB (gS (gR ?_))
  iterate 3 refine gMv ?_
  refine gBi bAndNot ?_
  iterate 2 refine gMv ?_
  refine gBi bAnd ?_
  refine gBi bOr ?_
  refine GoH.callP rfl rfl rfl rfl rfl (fun _ _ => Tryd.call52 _ _) (fun w _ hS => (by exact boxV_c a ca r _ w (ha.ex0 hS.ext) hv)) ?_
  refine gAs ?_
  refine gE (gS (gS (gR ?_)))
  iterate 2 refine gMv ?_
  refine gBi bEqU ?_
  refine gE ?_
  refine GoH.cond rfl (fun hc => ?_) (fun hc => ?_)
  ·
   have he : gcB r r.length c s (k + 1) = gcB r r.length c s k := eq_of_beq hc
   refine gS (gR ?_)
   refine gMv ?_
   refine gAs ?_
   refine gE ?_
   refine GoH.ret Tryd.f56 Tryd.func56 rfl (fun w' hS => ?_)
   exact ⟨hS.ext, by rw [gc_fix hl (fun a b h => hv.lt a b h) he]; rfl⟩
  ·
   have he : gcB r r.length c s (k + 1) ≠ gcB r r.length c s k := beq_eq_false_iff_ne.1 (show (gcB r r.length c s (k + 1) == gcB r r.length c s k) = false from hc)
   refine gK (gR ?_)
   refine gMv ?_
   refine gAs ?_
   refine gE (gIb ?_)
   exact IH (k + 1) _ _ trivial (gc_less hl he) ⟨rfl, rfl, rfl, rfl, rfl, trivial⟩ .slnil
set_option maxRecDepth 8000 in
theorem pvalue_c (m : MV) (n : Nat) (nd : NV) (x y : W64) (w : World) (hm : m.At w) (hv : ValM m.n m.val m.rel) (hn : m.n = (n : Int)) (hop : 1 ≤ nd.op ∧ nd.op ≤ 21) (hF : FldOk nd.op nd.i nd.e nd.g) :
    Cn Tryd.prog 40 [m.v, nd.v, U x, U y] w (fun v _ => v = .tuple #[U (if stB m.rel.length m.val.length nd.op nd.i nd.g = true then oneW n m.val m.rel nd.op nd.i nd.g x y else 0#64), .bool (stB m.rel.length m.val.length nd.op nd.i nd.g)]) := by
  have hn1 := hv.n1
  have hn64 := hv.n64
  have hag := hv.agents
  have hfa := hv.facts
  have hrl : m.rel.length = m.rows.length := by simp [MV.rel]
  have hvN : ValM (n : Int) m.val m.rel := by rw [← hn]; exact hv
  have hsh := all_shr (n := n) (by omega)
  obtain ⟨op, i, e, g, nx, ny⟩ := nd
  dsimp only at hop hF ⊢
  have hp4 : (2 : Nat) ^ m.rows.length ≤ 2 ^ 4 := Nat.pow_le_pow_right (by decide) (by omega)
  have hpos := Nat.two_pow_pos m.rel.length
  refine Cn.of Tryd.func40 rfl rfl ?_
  refine gS (gR ?_)
  refine GoH.bx rfl rfl rfl rfl (fun b4 => ?_)
  refine GoH.bx rfl rfl rfl rfl (fun b5 => ?_)
  refine GoH.v (Vop.asg (v := U 0#64) rfl rfl rfl rfl) ?_
  refine gAs ?_
  refine gE (gS (gR ?_))
  refine gFp Tryd.underlying25 Tryd.sizeOf3 0 ?_
  refine GoH.v (Vop.ldo (v := .int .i64 m.n) rfl rfl rfl rfl Tryd.isAgg3 1 rfl rfl) ?_
  refine GoH.v (Vop.bin rfl rfl rfl rfl (bSubE (c := ((64 - n : Nat) : Int)) (by rw [hn]; omega) (by omega)) rfl) ?_
  refine GoH.v (Vop.bin (a := U 18446744073709551615#64) rfl rfl rfl rfl (bShr (x := 18446744073709551615#64) (64 - n) rfl) rfl) ?_
  rw [hsh]
  refine gAs ?_
  refine gE (gS (gS (gR ?_)))
  refine gFp Tryd.underlying50 Tryd.sizeOf3 0 ?_
  refine gLo Tryd.isAgg3 0 ?_
  refine gE (gB (gS (gR ?_)))
  refine gBi bEq ?_
  refine gAs ?_
  refine gE ?_
  refine GoH.cond rfl (fun hc => ?_) (fun hc => ?_)
  ·
   obtain rfl : op = 1 := by simpa using hc
   have hst : stB m.rel.length m.val.length 1 i g = true := stB_iff.2 ⟨by decide, fun h => absurd h (by decide), fun h => absurd h (by decide), by rw [hF.g0 rfl]; exact hpos⟩
   refine gS (gR ?_)
   refine gMv ?_
   iterate 2 refine gAs ?_
   refine gE ?_
   refine GoH.ret Tryd.f40 Tryd.func40 rfl (fun w' hS => ?_)
   refine ⟨hS.ext, ?_⟩
   rw [hst]; rfl
  ·
   have n1 : ¬ op = 1 := by simpa using hc
   refine gS (gR ?_)
   refine gBi bEq ?_
   refine gAs ?_
   refine gE ?_
   refine GoH.cond rfl (fun hc => ?_) (fun hc => ?_)
   ·
    obtain rfl : op = 2 := by simpa using hc
    have hst : stB m.rel.length m.val.length 2 i g = true := stB_iff.2 ⟨by decide, fun h => absurd h (by decide), fun h => absurd h (by decide), by rw [hF.g0 rfl]; exact hpos⟩
    refine gS (gR ?_)
    refine GoH.v (Vop.asg (v := U 0#64) rfl rfl rfl rfl) ?_
    refine gAs ?_
    refine gE ?_
    refine GoH.ret Tryd.f40 Tryd.func40 rfl (fun w' hS => ?_)
    refine ⟨hS.ext, ?_⟩
    rw [hst]; rfl
   ·
    have n2 : ¬ op = 2 := by simpa using hc
    refine gS (gR ?_)
    refine gBi bEq ?_
    refine gAs ?_
    refine gE ?_
    refine GoH.cond rfl (fun hc => ?_) (fun hc => ?_)
    ·
     obtain rfl : op = 3 := by simpa using hc
     have hfi := hF.fact rfl
     obtain ⟨k, rfl⟩ : ∃ k : Nat, i = (k : Int) := ⟨i.toNat, by omega⟩
     refine gS (gS (gR ?_))
     refine gFp Tryd.underlying50 Tryd.sizeOf3 1 ?_
     refine gLo Tryd.isAgg3 0 ?_
     refine gFp Tryd.underlying25 Tryd.sizeOf22 1 ?_
     refine GoH.v (Vop.ldo (v := .slice m.va m.val.length m.vc) rfl rfl rfl rfl Tryd.isAgg22 1 rfl rfl) ?_
     refine gBl Tryd.underlying22 ?_
     refine gBi bGe ?_
     refine gE ?_
     refine GoH.cond rfl (fun hc => ?_) (fun hc => ?_)
     ·
      have hge : ¬ k < m.val.length := by simp at hc; omega
      have hst : stB m.rel.length m.val.length 3 (k : Int) g = false := by
        rw [Bool.eq_false_iff]; intro h; exact hge ((stB_iff.1 h).2.2.1 rfl)
      refine gS (gR ?_)
      refine GoH.v (Vop.asg (v := U 0#64) rfl rfl rfl rfl) ?_
      refine gAs ?_
      refine gE ?_
      refine GoH.ret Tryd.f40 Tryd.func40 rfl (fun w' hS => ?_)
      refine ⟨hS.ext, ?_⟩
      rw [hst]; rfl
     ·
      have hlt : k < m.val.length := by simp at hc; omega
      have hst : stB m.rel.length m.val.length 3 (k : Int) g = true := stB_iff.2 ⟨by decide, fun h => absurd h (by decide), fun _ => hlt, by rw [hF.g0 rfl]; exact hpos⟩
      have hgd : m.val.getD k 0#64 = m.val[k] := by simp [List.getD_eq_getElem?_getD, hlt]
      refine gK (gS (gR ?_))
      refine gFp Tryd.underlying25 Tryd.sizeOf22 1 ?_
      refine GoH.v (Vop.ldo (v := .slice m.va m.val.length m.vc) rfl rfl rfl rfl Tryd.isAgg22 1 rfl rfl) ?_
      refine gFp Tryd.underlying50 Tryd.sizeOf3 1 ?_
      refine gLo Tryd.isAgg3 0 ?_
      refine GoH.v (Vop.idx rfl rfl rfl rfl rfl Tryd.underlying22 Tryd.sizeOf37 ⟨_, hm.val⟩ (by simp) (k) ⟨rfl, by simpa using hlt⟩) ?_
      refine GoH.v (Vop.ld rfl rfl rfl rfl Tryd.isAgg37 (fun w _ hS => (SlU.ex0 hm.val hS.ext).at (k) hlt)) ?_
      iterate 2 refine gAs ?_
      refine gE ?_
      refine GoH.ret Tryd.f40 Tryd.func40 rfl (fun w' hS => ?_)
      refine ⟨hS.ext, ?_⟩
      rw [hst, if_pos rfl, show oneW n m.val m.rel 3 (k : Int) g x y = m.val.getD k 0#64 from rfl, hgd]; rfl
    ·
     have n3 : ¬ op = 3 := by simpa using hc
     refine gS (gR ?_)
     refine gBi bEq ?_
     refine gAs ?_
     refine gE ?_
     refine GoH.cond rfl (fun hc => ?_) (fun hc => ?_)
     ·
      obtain rfl : op = 4 := by simpa using hc
      have hst : stB m.rel.length m.val.length 4 i g = true := stB_iff.2 ⟨by decide, fun h => absurd h (by decide), fun h => absurd h (by decide), by rw [hF.g0 rfl]; exact hpos⟩
      refine gS (gR ?_)
      iterate 2 refine gMv ?_
      refine gBi bAndNot ?_
      iterate 2 refine gAs ?_
      refine gE ?_
      refine GoH.ret Tryd.f40 Tryd.func40 rfl (fun w' hS => ?_)
      refine ⟨hS.ext, ?_⟩
      rw [hst]; rfl
     ·
      have n4 : ¬ op = 4 := by simpa using hc
      refine gS (gR ?_)
      refine gBi bEq ?_
      refine gAs ?_
      refine gE ?_
      refine GoH.cond rfl (fun hc => ?_) (fun hc => ?_)
      ·
       obtain rfl : op = 5 := by simpa using hc
       have hst : stB m.rel.length m.val.length 5 i g = true := stB_iff.2 ⟨by decide, fun h => absurd h (by decide), fun h => absurd h (by decide), by rw [hF.g0 rfl]; exact hpos⟩
       refine gS (gR ?_)
       iterate 2 refine gMv ?_
       refine gBi bAnd ?_
       iterate 2 refine gAs ?_
       refine gE ?_
       refine GoH.ret Tryd.f40 Tryd.func40 rfl (fun w' hS => ?_)
       refine ⟨hS.ext, ?_⟩
       rw [hst]; rfl
      ·
       have n5 : ¬ op = 5 := by simpa using hc
       refine gS (gR ?_)
       refine gBi bEq ?_
       refine gAs ?_
       refine gE ?_
       refine GoH.cond rfl (fun hc => ?_) (fun hc => ?_)
       ·
        obtain rfl : op = 6 := by simpa using hc
        have hst : stB m.rel.length m.val.length 6 i g = true := stB_iff.2 ⟨by decide, fun h => absurd h (by decide), fun h => absurd h (by decide), by rw [hF.g0 rfl]; exact hpos⟩
        refine gS (gR ?_)
        iterate 2 refine gMv ?_
        refine gBi bOr ?_
        iterate 2 refine gAs ?_
        refine gE ?_
        refine GoH.ret Tryd.f40 Tryd.func40 rfl (fun w' hS => ?_)
        refine ⟨hS.ext, ?_⟩
        rw [hst]; rfl
       ·
        have n6 : ¬ op = 6 := by simpa using hc
        refine gS (gR ?_)
        refine gBi bEq ?_
        refine gAs ?_
        refine gE ?_
        refine GoH.cond rfl (fun hc => ?_) (fun hc => ?_)
        ·
         obtain rfl : op = 7 := by simpa using hc
         have hst : stB m.rel.length m.val.length 7 i g = true := stB_iff.2 ⟨by decide, fun h => absurd h (by decide), fun h => absurd h (by decide), by rw [hF.g0 rfl]; exact hpos⟩
         refine gS (gR ?_)
         iterate 2 refine gMv ?_
         refine gBi bAndNot ?_
         refine gMv ?_
         refine gBi bOr ?_
         iterate 2 refine gAs ?_
         refine gE ?_
         refine GoH.ret Tryd.f40 Tryd.func40 rfl (fun w' hS => ?_)
         refine ⟨hS.ext, ?_⟩
         rw [hst]; rfl
        ·
         have n7 : ¬ op = 7 := by simpa using hc
         refine gS (gR ?_)
         refine gBi bEq ?_
         refine gAs ?_
         refine gE ?_
         refine GoH.cond rfl (fun hc => ?_) (fun hc => ?_)
         ·
          obtain rfl : op = 8 := by simpa using hc
          have hst : stB m.rel.length m.val.length 8 i g = true := stB_iff.2 ⟨by decide, fun h => absurd h (by decide), fun h => absurd h (by decide), by rw [hF.g0 rfl]; exact hpos⟩
          refine gS (gR ?_)
          iterate 3 refine gMv ?_
          refine gBi bXor ?_
          refine gBi bAndNot ?_
          iterate 2 refine gAs ?_
          refine gE ?_
          refine GoH.ret Tryd.f40 Tryd.func40 rfl (fun w' hS => ?_)
          refine ⟨hS.ext, ?_⟩
          rw [hst]; rfl
         ·
          have n8 : ¬ op = 8 := by simpa using hc
          refine gS (gS (gR ?_))
          refine gBi bEq ?_
          refine gAs ?_
          refine gE ?_
          refine GoH.cond rfl (fun hc => ?_) (fun hc => ?_)
          ·
           obtain rfl : op = 9 := by simpa using hc
           refine gK ?_
           refine GoH.cond rfl (fun hc => ?_) (fun hc => ?_)
           ·
            have hai := hF.ag rfl
            obtain ⟨k, rfl⟩ : ∃ k : Nat, i = (k : Int) := ⟨i.toNat, by omega⟩
            refine gS (gS (gR ?_))
            refine gFp Tryd.underlying50 Tryd.sizeOf3 1 ?_
            refine gLo Tryd.isAgg3 0 ?_
            refine gFp Tryd.underlying25 Tryd.sizeOf23 2 ?_
            refine GoH.v (Vop.ldo (v := .slice m.ra m.rows.length m.rc) rfl rfl rfl rfl Tryd.isAgg23 1 rfl rfl) ?_
            refine gBl Tryd.underlying23 ?_
            refine gBi bGe ?_
            refine gE ?_
            refine GoH.cond rfl (fun hc => ?_) (fun hc => ?_)
            ·
             have hge : ¬ k < m.rows.length := by simp at hc; omega
             have hst : stB m.rel.length m.val.length 9 (k : Int) g = false := by
               rw [Bool.eq_false_iff]; intro h; have := (stB_iff.1 h).2.1 rfl; rw [hrl] at this; exact hge this
             refine gS (gR ?_)
             refine GoH.v (Vop.asg (v := U 0#64) rfl rfl rfl rfl) ?_
             refine gAs ?_
             refine gE ?_
             refine GoH.ret Tryd.f40 Tryd.func40 rfl (fun w' hS => ?_)
             refine ⟨hS.ext, ?_⟩
             rw [hst]; rfl
            ·
             have hlt : k < m.rows.length := by simp at hc; omega
             have hst : stB m.rel.length m.val.length 9 (k : Int) g = true := stB_iff.2 ⟨by decide, fun _ => by rw [hrl]; exact hlt, fun h => absurd h (by decide), by rw [hF.g0 rfl]; exact hpos⟩
             have hrow := hm.row m.rows[k] (List.getElem_mem hlt)
             have hrm : m.rows[k].xs ∈ m.rel := List.mem_map.2 ⟨_, List.getElem_mem hlt, rfl⟩
             have hrv := hv.rels _ hrm
             have hrn : m.rows[k].xs.length = n := by have := hv.len _ hrm; omega
             have hrd : m.rel.getD k [] = m.rows[k].xs := relD hlt
             refine gK (gS (gS (gR ?_)))
             refine gFp Tryd.underlying50 Tryd.sizeOf3 0 ?_
             refine gLo Tryd.isAgg3 0 ?_
             refine gBi bEq ?_
             refine gE ?_
             refine GoH.cond rfl (fun hc => ?_) (fun hc => ?_)
             ·
              refine gS (gR ?_)
              refine gFp Tryd.underlying25 Tryd.sizeOf23 2 ?_
              refine GoH.v (Vop.ldo (v := .slice m.ra m.rows.length m.rc) rfl rfl rfl rfl Tryd.isAgg23 1 rfl rfl) ?_
              refine gFp Tryd.underlying50 Tryd.sizeOf3 1 ?_
              refine gLo Tryd.isAgg3 0 ?_
              refine GoH.v (Vop.idx rfl rfl rfl rfl rfl Tryd.underlying23 Tryd.sizeOf22 ⟨_, hm.rel⟩ (by simp) (k) ⟨rfl, by simpa using hlt⟩) ?_
              refine GoH.v (Vop.ld rfl rfl rfl rfl Tryd.isAgg22 (fun w _ hS => (SlR.ex0 hm.rel hS.ext).at (k) hlt)) ?_
              refine gMv ?_
              refine GoH.callP rfl rfl rfl rfl rfl (fun _ _ => Tryd.call52 _ _) (fun w _ hS => (by exact boxV_c m.rows[k].a m.rows[k].cap m.rows[k].xs x w (hrow.ex0 hS.ext).at_ hrv)) ?_
              iterate 2 refine gAs ?_
              refine gE ?_
              refine GoH.ret Tryd.f40 Tryd.func40 rfl (fun w' hS => ?_)
              refine ⟨hS.ext, ?_⟩
              rw [hst, if_pos rfl, show oneW n m.val m.rel 9 (k : Int) g x y = boxW (m.rel.getD k []) n x from rfl, hrd, hrn]; rfl
             ·
              exact absurd hc (by simp)
           ·
            exact absurd hc (by simp)
          ·
           have n9 : ¬ op = 9 := by simpa using hc
           refine gR ?_
           refine gBi bEq ?_
           refine gAs ?_
           refine gE ?_
           refine GoH.cond rfl (fun hc => ?_) (fun hc => ?_)
           ·
            obtain rfl : op = 10 := by simpa using hc
            have hai := hF.ag rfl
            obtain ⟨k, rfl⟩ : ∃ k : Nat, i = (k : Int) := ⟨i.toNat, by omega⟩
            refine gS (gS (gR ?_))
            refine gFp Tryd.underlying50 Tryd.sizeOf3 1 ?_
            refine gLo Tryd.isAgg3 0 ?_
            refine gFp Tryd.underlying25 Tryd.sizeOf23 2 ?_
            refine GoH.v (Vop.ldo (v := .slice m.ra m.rows.length m.rc) rfl rfl rfl rfl Tryd.isAgg23 1 rfl rfl) ?_
            refine gBl Tryd.underlying23 ?_
            refine gBi bGe ?_
            refine gE ?_
            refine GoH.cond rfl (fun hc => ?_) (fun hc => ?_)
            ·
             have hge : ¬ k < m.rows.length := by simp at hc; omega
             have hst : stB m.rel.length m.val.length 10 (k : Int) g = false := by
               rw [Bool.eq_false_iff]; intro h; have := (stB_iff.1 h).2.1 rfl; rw [hrl] at this; exact hge this
             refine gS (gR ?_)
             refine GoH.v (Vop.asg (v := U 0#64) rfl rfl rfl rfl) ?_
             refine gAs ?_
             refine gE ?_
             refine GoH.ret Tryd.f40 Tryd.func40 rfl (fun w' hS => ?_)
             refine ⟨hS.ext, ?_⟩
             rw [hst]; rfl
            ·
             have hlt : k < m.rows.length := by simp at hc; omega
             have hst : stB m.rel.length m.val.length 10 (k : Int) g = true := stB_iff.2 ⟨by decide, fun _ => by rw [hrl]; exact hlt, fun h => absurd h (by decide), by rw [hF.g0 rfl]; exact hpos⟩
             have hrow := hm.row m.rows[k] (List.getElem_mem hlt)
             have hrm : m.rows[k].xs ∈ m.rel := List.mem_map.2 ⟨_, List.getElem_mem hlt, rfl⟩
             have hrv := hv.rels _ hrm
             have hrn : m.rows[k].xs.length = n := by have := hv.len _ hrm; omega
             have hrd : m.rel.getD k [] = m.rows[k].xs := relD hlt
             refine gK (gS (gS (gR ?_)))
             refine gFp Tryd.underlying50 Tryd.sizeOf3 0 ?_
             refine gLo Tryd.isAgg3 0 ?_
             refine gBi bEq ?_
             refine gE ?_
             refine GoH.cond rfl (fun hc => ?_) (fun hc => ?_)
             ·
              exact absurd hc (by simp)
             ·
              refine gK (gS (gR ?_))
              refine gFp Tryd.underlying25 Tryd.sizeOf23 2 ?_
              refine GoH.v (Vop.ldo (v := .slice m.ra m.rows.length m.rc) rfl rfl rfl rfl Tryd.isAgg23 1 rfl rfl) ?_
              refine gFp Tryd.underlying50 Tryd.sizeOf3 1 ?_
              refine gLo Tryd.isAgg3 0 ?_
              refine GoH.v (Vop.idx rfl rfl rfl rfl rfl Tryd.underlying23 Tryd.sizeOf22 ⟨_, hm.rel⟩ (by simp) (k) ⟨rfl, by simpa using hlt⟩) ?_
              refine GoH.v (Vop.ld rfl rfl rfl rfl Tryd.isAgg22 (fun w _ hS => (SlR.ex0 hm.rel hS.ext).at (k) hlt)) ?_
              refine gMv ?_
              refine GoH.callP rfl rfl rfl rfl rfl (fun _ _ => Tryd.call53 _ _) (fun w _ hS => (by exact diaV_c m.rows[k].a m.rows[k].cap m.rows[k].xs x w (hrow.ex0 hS.ext).at_ hrv)) ?_
              iterate 2 refine gAs ?_
              refine gE ?_
              refine GoH.ret Tryd.f40 Tryd.func40 rfl (fun w' hS => ?_)
              refine ⟨hS.ext, ?_⟩
              rw [hst, if_pos rfl, show oneW n m.val m.rel 10 (k : Int) g x y = allW n &&& ~~~boxW (m.rel.getD k []) n (allW n &&& ~~~x) from rfl, hrd, poss_dia hrv, hrn]; rfl
           ·
            have n10 : ¬ op = 10 := by simpa using hc
            refine gS (gS (gR ?_))
            refine gBi bEq ?_
            refine gAs ?_
            refine gE ?_
            refine GoH.cond rfl (fun hc => ?_) (fun hc => ?_)
            ·
             obtain rfl : op = 11 := by simpa using hc
             refine gK ?_
             refine GoH.cond rfl (fun hc => ?_) (fun hc => ?_)
             ·
              have hgi := hF.gr rfl
              obtain ⟨k, rfl⟩ : ∃ k : Nat, g = (k : Int) := ⟨g.toNat, by omega⟩
              refine gS (gS ?_)
              refine GoH.draw 7 mixed rfl ?_
              refine rFp Tryd.underlying50 Tryd.sizeOf3 3 ?_
              refine rLo Tryd.isAgg3 0 ?_
              refine rFp Tryd.underlying25 Tryd.sizeOf23 2 ?_
              refine RdGo.v (Vop.ldo (v := .slice m.ra m.rows.length m.rc) rfl rfl rfl rfl Tryd.isAgg23 1 rfl rfl) ?_
              refine rBl Tryd.underlying23 ?_
              refine RdGo.v (Vop.bin rfl rfl rfl rfl (bShlN (x := 1) (j := m.rows.length) rfl (by omega) (by omega)) rfl) ?_
              refine rBi bGe ?_
              refine RdGo.nil ?_
              refine gE ?_
              refine GoH.cond rfl (fun hc => ?_) (fun hc => ?_)
              ·
               have hge : ¬ k < 2 ^ m.rows.length := by have h6 : ((k : Int) ≥ ((1 * 2 ^ m.rows.length : Nat) : Int)) := of_decide_eq_true hc; omega
               have hst : stB m.rel.length m.val.length 11 i (k : Int) = false := by
                 rw [Bool.eq_false_iff]; intro h; have := (stB_iff.1 h).2.2.2; rw [hrl] at this; exact hge this
               refine gS (gR ?_)
               refine GoH.v (Vop.asg (v := U 0#64) rfl rfl rfl rfl) ?_
               refine gAs ?_
               refine gE ?_
               refine GoH.ret Tryd.f40 Tryd.func40 rfl (fun w' hS => ?_)
               refine ⟨hS.ext, ?_⟩
               rw [hst]; rfl
              ·
               have hlt : k < 2 ^ m.rows.length := by have h6 : ¬ ((k : Int) ≥ ((1 * 2 ^ m.rows.length : Nat) : Int)) := of_decide_eq_false hc; omega
               have hst : stB m.rel.length m.val.length 11 i (k : Int) = true := stB_iff.2 ⟨by decide, fun h => absurd h (by decide), fun h => absurd h (by decide), by rw [hrl]; exact hlt⟩
               refine gK (gS (gS (gR ?_)))
               refine gFp Tryd.underlying50 Tryd.sizeOf3 0 ?_
               refine gLo Tryd.isAgg3 0 ?_
               refine gBi bEq ?_
               refine gE ?_
               refine GoH.cond rfl (fun hc => ?_) (fun hc => ?_)
               ·
                exact absurd hc (by simp)
               ·
                obtain ⟨hjv, hjl⟩ := joinL_val hvN k
                refine gK (gS (gR ?_))
                refine GoH.v (Vop.ldB rfl rfl rfl rfl Tryd.isAgg25 1 rfl Tryd.sizeOf25 rfl) ?_
                refine gFp Tryd.underlying50 Tryd.sizeOf3 3 ?_
                refine gLo Tryd.isAgg3 0 ?_
                refine GoH.callM _ rfl rfl rfl rfl rfl (fun _ _ => Tryd.call55 _ _) (fun w _ hS => (by exact groupM_c m n k w (hm.ex0 hS.ext) hv hn ⟨by omega, hlt⟩)) ?_
                rintro v w1 w2 Y' hS he ho
                obtain ⟨q, cap, sp, rfl, hq, hcap, hS'⟩ := gainO hS he ho
                refine ⟨_, hS', ?_⟩
                refine gAs ?_
                refine gE (gS (gS (gR ?_)))
                refine gFp Tryd.underlying50 Tryd.sizeOf3 0 ?_
                refine gLo Tryd.isAgg3 1 ?_
                refine gBi bEq ?_
                refine gE ?_
                refine GoH.cond rfl (fun hc => ?_) (fun hc => ?_)
                ·
                 refine gS (gR ?_)
                 iterate 2 refine gMv ?_
                 refine GoH.callP rfl rfl rfl rfl rfl (fun _ _ => Tryd.call52 _ _) (fun w _ hS => (by exact boxV_c (q.map (fun b => ⟨b, 0, none⟩)) cap (joinL n m.rel k) x w ((InS.at (fun e => (hq e).1) (List.mem_cons_self ..)).sl hS) hjv)) ?_
                 iterate 2 refine gAs ?_
                 refine gE ?_
                 refine GoH.ret Tryd.f40 Tryd.func40 rfl (fun w' hS => ?_)
                 refine ⟨hS.ext, ?_⟩
                 rw [hst, if_pos rfl, show oneW n m.val m.rel 11 i (k : Int) x y = boxW (joinL n m.rel k) n x from rfl, hjl]; rfl
                ·
                 exact absurd hc (by simp)
             ·
              exact absurd hc (by simp)
            ·
             have n11 : ¬ op = 11 := by simpa using hc
             refine gS (gR ?_)
             refine gBi bEq ?_
             refine gAs ?_
             refine gE ?_
             refine GoH.cond rfl (fun hc => ?_) (fun hc => ?_)
             ·
              obtain rfl : op = 12 := by simpa using hc
              refine gK ?_
              refine GoH.cond rfl (fun hc => ?_) (fun hc => ?_)
              ·
               have hgi := hF.gr rfl
               obtain ⟨k, rfl⟩ : ∃ k : Nat, g = (k : Int) := ⟨g.toNat, by omega⟩
               refine gS (gS ?_)
               refine GoH.draw 7 mixed rfl ?_
               refine rFp Tryd.underlying50 Tryd.sizeOf3 3 ?_
               refine rLo Tryd.isAgg3 0 ?_
               refine rFp Tryd.underlying25 Tryd.sizeOf23 2 ?_
               refine RdGo.v (Vop.ldo (v := .slice m.ra m.rows.length m.rc) rfl rfl rfl rfl Tryd.isAgg23 1 rfl rfl) ?_
               refine rBl Tryd.underlying23 ?_
               refine RdGo.v (Vop.bin rfl rfl rfl rfl (bShlN (x := 1) (j := m.rows.length) rfl (by omega) (by omega)) rfl) ?_
               refine rBi bGe ?_
               refine RdGo.nil ?_
               refine gE ?_
               refine GoH.cond rfl (fun hc => ?_) (fun hc => ?_)
               ·
                have hge : ¬ k < 2 ^ m.rows.length := by have h6 : ((k : Int) ≥ ((1 * 2 ^ m.rows.length : Nat) : Int)) := of_decide_eq_true hc; omega
                have hst : stB m.rel.length m.val.length 12 i (k : Int) = false := by
                  rw [Bool.eq_false_iff]; intro h; have := (stB_iff.1 h).2.2.2; rw [hrl] at this; exact hge this
                refine gS (gR ?_)
                refine GoH.v (Vop.asg (v := U 0#64) rfl rfl rfl rfl) ?_
                refine gAs ?_
                refine gE ?_
                refine GoH.ret Tryd.f40 Tryd.func40 rfl (fun w' hS => ?_)
                refine ⟨hS.ext, ?_⟩
                rw [hst]; rfl
               ·
                have hlt : k < 2 ^ m.rows.length := by have h6 : ¬ ((k : Int) ≥ ((1 * 2 ^ m.rows.length : Nat) : Int)) := of_decide_eq_false hc; omega
                have hst : stB m.rel.length m.val.length 12 i (k : Int) = true := stB_iff.2 ⟨by decide, fun h => absurd h (by decide), fun h => absurd h (by decide), by rw [hrl]; exact hlt⟩
                refine gK (gS (gS (gR ?_)))
                refine gFp Tryd.underlying50 Tryd.sizeOf3 0 ?_
                refine gLo Tryd.isAgg3 0 ?_
                refine gBi bEq ?_
                refine gE ?_
                refine GoH.cond rfl (fun hc => ?_) (fun hc => ?_)
                ·
                 obtain ⟨hjv, hjl⟩ := meetL_val hvN k
                 refine gS (gR ?_)
                 refine GoH.v (Vop.ldB rfl rfl rfl rfl Tryd.isAgg25 1 rfl Tryd.sizeOf25 rfl) ?_
                 refine gFp Tryd.underlying50 Tryd.sizeOf3 3 ?_
                 refine gLo Tryd.isAgg3 0 ?_
                 refine GoH.callM _ rfl rfl rfl rfl rfl (fun _ _ => Tryd.call54 _ _) (fun w _ hS => (by exact meetM_c m n k w (hm.ex0 hS.ext) hv hn ⟨by omega, hlt⟩)) ?_
                 rintro v w1 w2 Y' hS he ho
                 obtain ⟨q, cap, sp, rfl, hq, hcap, hS'⟩ := gainO hS he ho
                 refine ⟨_, hS', ?_⟩
                 refine gMv ?_
                 refine GoH.callP rfl rfl rfl rfl rfl (fun _ _ => Tryd.call52 _ _) (fun w _ hS => (by exact boxV_c (q.map (fun b => ⟨b, 0, none⟩)) cap (meetL n m.rel k) x w ((InS.at (fun e => (hq e).1) (List.mem_cons_self ..)).sl hS) hjv)) ?_
                 iterate 2 refine gAs ?_
                 refine gE ?_
                 refine GoH.ret Tryd.f40 Tryd.func40 rfl (fun w' hS => ?_)
                 refine ⟨hS.ext, ?_⟩
                 rw [hst, if_pos rfl, show oneW n m.val m.rel 12 i (k : Int) x y = boxW (meetL n m.rel k) n x from rfl, hjl]; rfl
                ·
                 exact absurd hc (by simp)
              ·
               exact absurd hc (by simp)
             ·
              have n12 : ¬ op = 12 := by simpa using hc
              refine gR ?_
              refine gBi bEq ?_
              refine gAs ?_
              refine gE ?_
              refine GoH.cond rfl (fun hc => ?_) (fun hc => ?_)
              ·
               obtain rfl : op = 13 := by simpa using hc
               have hgi := hF.gr rfl
               obtain ⟨k, rfl⟩ : ∃ k : Nat, g = (k : Int) := ⟨g.toNat, by omega⟩
               refine gS (gS ?_)
               refine GoH.draw 7 mixed rfl ?_
               refine rFp Tryd.underlying50 Tryd.sizeOf3 3 ?_
               refine rLo Tryd.isAgg3 0 ?_
               refine rFp Tryd.underlying25 Tryd.sizeOf23 2 ?_
               refine RdGo.v (Vop.ldo (v := .slice m.ra m.rows.length m.rc) rfl rfl rfl rfl Tryd.isAgg23 1 rfl rfl) ?_
               refine rBl Tryd.underlying23 ?_
               refine RdGo.v (Vop.bin rfl rfl rfl rfl (bShlN (x := 1) (j := m.rows.length) rfl (by omega) (by omega)) rfl) ?_
               refine rBi bGe ?_
               refine RdGo.nil ?_
               refine gE ?_
               refine GoH.cond rfl (fun hc => ?_) (fun hc => ?_)
               ·
                have hge : ¬ k < 2 ^ m.rows.length := by have h6 : ((k : Int) ≥ ((1 * 2 ^ m.rows.length : Nat) : Int)) := of_decide_eq_true hc; omega
                have hst : stB m.rel.length m.val.length 13 i (k : Int) = false := by
                  rw [Bool.eq_false_iff]; intro h; have := (stB_iff.1 h).2.2.2; rw [hrl] at this; exact hge this
                refine gS (gR ?_)
                refine GoH.v (Vop.asg (v := U 0#64) rfl rfl rfl rfl) ?_
                refine gAs ?_
                refine gE ?_
                refine GoH.ret Tryd.f40 Tryd.func40 rfl (fun w' hS => ?_)
                refine ⟨hS.ext, ?_⟩
                rw [hst]; rfl
               ·
                have hlt : k < 2 ^ m.rows.length := by have h6 : ¬ ((k : Int) ≥ ((1 * 2 ^ m.rows.length : Nat) : Int)) := of_decide_eq_false hc; omega
                have hst : stB m.rel.length m.val.length 13 i (k : Int) = true := stB_iff.2 ⟨by decide, fun h => absurd h (by decide), fun h => absurd h (by decide), by rw [hrl]; exact hlt⟩
                refine gK (gS (gS (gR ?_)))
                refine gFp Tryd.underlying50 Tryd.sizeOf3 0 ?_
                refine gLo Tryd.isAgg3 0 ?_
                refine gBi bEq ?_
                refine gE ?_
                refine GoH.cond rfl (fun hc => ?_) (fun hc => ?_)
                ·
                 exact absurd hc (by simp)
                ·
                 obtain ⟨hjv, hjl⟩ := joinL_val hvN k
                 refine gK (gS (gR ?_))
                 refine GoH.v (Vop.ldB rfl rfl rfl rfl Tryd.isAgg25 1 rfl Tryd.sizeOf25 rfl) ?_
                 refine gFp Tryd.underlying50 Tryd.sizeOf3 3 ?_
                 refine gLo Tryd.isAgg3 0 ?_
                 refine GoH.callM _ rfl rfl rfl rfl rfl (fun _ _ => Tryd.call55 _ _) (fun w _ hS => (by exact groupM_c m n k w (hm.ex0 hS.ext) hv hn ⟨by omega, hlt⟩)) ?_
                 rintro v w1 w2 Y' hS he ho
                 obtain ⟨q, cap, sp, rfl, hq, hcap, hS'⟩ := gainO hS he ho
                 refine ⟨_, hS', ?_⟩
                 refine gAs ?_
                 refine gE (gS (gS (gR ?_)))
                 refine gFp Tryd.underlying50 Tryd.sizeOf3 0 ?_
                 refine gLo Tryd.isAgg3 1 ?_
                 refine gBi bEq ?_
                 refine gE ?_
                 refine GoH.cond rfl (fun hc => ?_) (fun hc => ?_)
                 ·
                  exact absurd hc (by simp)
                 ·
                  refine gK (gS (gR ?_))
                  iterate 4 refine gMv ?_
                  refine GoH.callP rfl rfl rfl rfl rfl (fun _ _ => Tryd.call56 _ _) (fun w _ hS => (by
                  have := pcommon_c (q.map (fun b => ⟨b, 0, none⟩)) cap (joinL n m.rel k) x y w ((InS.at (fun e => (hq e).1) (List.mem_cons_self ..)).sl hS) hjv
                  rw [hjl] at this; rw [hjl]; exact this)) ?_
                  iterate 2 refine gAs ?_
                  refine gE ?_
                  refine GoH.ret Tryd.f40 Tryd.func40 rfl (fun w' hS => ?_)
                  refine ⟨hS.ext, ?_⟩
                  rw [hst, if_pos rfl, show oneW n m.val m.rel 13 i (k : Int) x y = comW (joinL n m.rel k) n x y from rfl]; rfl
              ·
               have n13 : ¬ op = 13 := by simpa using hc
               have hst : stB m.rel.length m.val.length op i g = false := by
                 rw [Bool.eq_false_iff]; intro h; have := (stB_iff.1 h).1; omega
               refine gK (gIb (gS (gR ?_)))
               refine GoH.v (Vop.asg (v := U 0#64) rfl rfl rfl rfl) ?_
               refine gAs ?_
               refine gE ?_
               refine GoH.ret Tryd.f40 Tryd.func40 rfl (fun w' hS => ?_)
               refine ⟨hS.ext, ?_⟩
               rw [hst]; rfl
end Go.Proofs.YthojdcaojjmoaaaDoor
