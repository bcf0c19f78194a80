/- What calls of the program return, under the conditions that each theorem states. -/
import Derived.Test.YthojdcaojjmoaaaDoorA26
import Derived.Test.YthojdcaojjmoaaaDoorA27
import Derived.Test.YthojdcaojjmoaaaDoorA08
import Derived.Test.YthojdcaojjmoaaaDoorA04
import Derived.Test.YthojdcaojjmoaaaDoorA13
import Derived.Test.YthojdcaojjmoaaaDoorA15
import Derived.Test.YthojdcaojjmoaaaDoorA03
import Derived.Test.YthojdcaojjmoaaaDoorA02
namespace Go.Proofs.YthojdcaojjmoaaaDoor
open Go.RowKit Go.Proofs.Wit
/-! the masks of a formula; what fits a model -/
theorem agents1_c (n : NV) (h : FldOk n.op n.i n.e n.g) (w : World) : Cn Tryd.prog 77 [n.v, usV n.op] w (fun v _ => v = .int .i64 (agN n : Nat)) := by
  refine Cn.of Tryd.func77 rfl rfl ?_
  refine gS (gR ?_)
  refine GoH.bx rfl rfl rfl rfl (fun b2 => ?_)
  refine GoH.bx rfl rfl rfl rfl (fun b3 => ?_)
  refine gAs ?_
  refine gE (gS (gS (gR ?_)))
  refine gFp Tryd.underlying52 Tryd.sizeOf4 3 ?_
  refine gLo Tryd.isAgg4 0 ?_
  refine gE ?_
  refine GoH.cond rfl (fun hc => ?_) (fun hc => ?_)
  ·
   have ha : agO n.op = true := hc
   have h1 := h.ag ha
   obtain ⟨k, hk⟩ : ∃ k : Nat, n.i = (k : Int) := ⟨n.i.toNat, by omega⟩
   have h3 : n.g = 0 := h.g0 (ag_gr ha)
   have hpw : 1 * 2 ^ k < 9223372036854775808 := by
     have : k = 0 ∨ k = 1 ∨ k = 2 ∨ k = 3 := by omega
     rcases this with rfl | rfl | rfl | rfl <;> decide
   refine gS (gR ?_)
   refine gFp Tryd.underlying50 Tryd.sizeOf3 1 ?_
   refine gLo Tryd.isAgg3 1 ?_
   refine GoH.v (Vop.bin rfl rfl rfl rfl (bShlN (x := 1) (j := k) hk hpw (by omega)) rfl) ?_
   refine gAs ?_
   refine gE ?_
   refine GoH.ret Tryd.f77 Tryd.func77 rfl (fun w' hS => ?_)
   exact ⟨hS.ext, by rw [agN, if_pos ha, h3, hk]; simp; rfl⟩
  ·
   have ha : ¬ agO n.op = true := by rw [show agO n.op = false from hc]; simp
   have h1 := g_nn h
   refine gK (gS (gR ?_))
   refine gFp Tryd.underlying50 Tryd.sizeOf3 3 ?_
   refine gLo Tryd.isAgg3 1 ?_
   refine gAs ?_
   refine gE ?_
   refine GoH.ret Tryd.f77 Tryd.func77 rfl (fun w' hS => ?_)
   exact ⟨hS.ext, by rw [agN, if_neg ha, Nat.zero_or, Int.toNat_of_nonneg h1]; rfl⟩
theorem facts1_c (n : NV) (h : FldOk n.op n.i n.e n.g) (w : World) : Cn Tryd.prog 78 [n.v, usV n.op] w (fun v _ => v = .int .i64 (ftN n : Nat)) := by
  refine Cn.of Tryd.func78 rfl rfl ?_
  refine gS (gR ?_)
  refine GoH.bx rfl rfl rfl rfl (fun b2 => ?_)
  refine GoH.bx rfl rfl rfl rfl (fun b3 => ?_)
  refine gAs ?_
  refine gE (gS (gS (gR ?_)))
  refine gFp Tryd.underlying52 Tryd.sizeOf4 2 ?_
  refine gLo Tryd.isAgg4 0 ?_
  refine gE ?_
  refine GoH.cond rfl (fun hc => ?_) (fun hc => ?_)
  ·
   have ha : n.op = 3 := by simpa using hc
   have h1 := h.fact ha
   obtain ⟨k, hk⟩ : ∃ k : Nat, n.i = (k : Int) := ⟨n.i.toNat, by omega⟩
   have hpw : 1 * 2 ^ k < 9223372036854775808 := by
     have : 2 ^ k < 2 ^ 8 := Nat.pow_lt_pow_right (by decide) (by omega)
     omega
   refine gS (gR ?_)
   refine gFp Tryd.underlying50 Tryd.sizeOf3 1 ?_
   refine gLo Tryd.isAgg3 1 ?_
   refine GoH.v (Vop.bin rfl rfl rfl rfl (bShlN (x := 1) (j := k) hk hpw (by omega)) rfl) ?_
   refine gAs ?_
   refine gE ?_
   refine GoH.ret Tryd.f78 Tryd.func78 rfl (fun w' hS => ?_)
   exact ⟨hS.ext, by rw [ftN, if_pos ha, hk]; simp; rfl⟩
  ·
   have ha : ¬ n.op = 3 := by simpa using hc
   refine gK (gS (gR ?_))
   refine gAs ?_
   refine gE ?_
   refine GoH.ret Tryd.f78 Tryd.func78 rfl (fun w' hS => ?_)
   exact ⟨hS.ext, by rw [ftN, if_neg ha]; rfl⟩
set_option maxRecDepth 4000 in
theorem upagents_c (a : Option Addr) (ca : Nat) (f : List NV) (w : World) (ha : FA w a f) (hl : f.length ≤ maxLen) : Cn Tryd.prog 37 [.slice a f.length ca, .func (.func 77) #[] #[]] w (fun v _ => v = .int .i64 (orL agN (compF f) : Nat)) := by
  have hcl := compF_le f
  have hno := (compF_nodes f).fld
  refine Cn.of Tryd.func37 rfl rfl ?_
  refine gS (gR ?_)
  refine gAs ?_
  refine gE (gS (gR ?_))
  refine gAs ?_
  refine gE (gS (gS (gR ?_)))
  refine gMv ?_
  refine GoH.callM _ rfl rfl rfl rfl rfl (fun _ _ => Tryd.call18 _ _) (fun w _ hS => fcompact_c a ca f w (ha.ex0 hS.ext) hl) ?_
  rintro v w1 w2 Y' hS he ho
  rw [subF_top] at ho
  obtain ⟨q, cap, sp, rfl, hq, hcap, hS'⟩ := gainN hS he ho
  refine ⟨_, hS', ?_⟩
  refine gBl Tryd.underlying26 ?_
  refine gMv ?_
  refine gE (gB ?_)
  refine GoH.loop (σ := Nat) (fun k => [(1, .func (.func 77) #[] #[]), (5, .int .i64 (orL agN ((compF f).take k) : Nat)), (11, osv q (compF f).length cap), (12, .int .i64 (compF f).length), (13, .int .i64 k)]) (fun _ => [(q, obN 50 (compF f) sp)]) (fun k => k ≤ (compF f).length) (fun k => (compF f).length - k) 0 (Nat.zero_le _) ⟨rfl, rfl, rfl, rfl, rfl, trivial⟩ (List.Sublist.refl _) (fun k hk IH => ?_)
  refine gS (gR ?_)
  refine gBi bLt ?_
  refine gE (gS ?_)
  refine GoH.cond rfl (fun hc => ?_) (fun hc => ?_)
  ·
   have hm : k < (compF f).length := by simpa using hc
   obtain ⟨b, rfl⟩ : ∃ b, q = some b := by
     cases q with
     | none => have := (hq rfl).1; omega
     | some b => exact ⟨b, rfl⟩
   have hfk := hno _ (List.getElem_mem hm)
   have h1 : orL agN ((compF f).take k) < 2 ^ 4 := orL_lt (fun n hn => agN_lt (hno n (List.mem_of_mem_take hn)))
   have h2 := agN_lt hfk
   have ht : orL agN ((compF f).take (k + 1)) = orL agN ((compF f).take k) ||| agN (compF f)[k] := orL_take hm
   refine gK (gS (gB (gS (gR ?_))))
   refine GoH.v (Vop.idxS rfl rfl rfl rfl rfl Tryd.underlying26 Tryd.sizeOf50 k ⟨rfl, hm⟩) ?_
   refine GoH.v (Vop.ldN (cs := NV.cells (compF f)[k]) rfl rfl rfl rfl Tryd.isAgg50 Tryd.sizeOf50 (fun w _ hS => Sl.many (enc := NV.cells) (sz := 6) (a := some ⟨b, 0, none⟩) (Sl.blk (hS.get (j := 0) rfl)) (fun _ => rfl) hm)) ?_
   refine GoH.alc rfl rfl rfl (fun _ => Tryd.zeroValue50 _) (fun b7 => ?_)
   refine GoH.stB rfl rfl rfl rfl Tryd.sizeOf50 0 rfl rfl rfl rfl ?_
   refine gE (gS (gR ?_))
   refine gFp Tryd.underlying50 Tryd.sizeOf3 0 ?_
   refine gLo Tryd.isAgg3 0 ?_
   refine GoH.callP rfl rfl rfl rfl rfl (fun _ _ => Tryd.call19 _ _) (fun w _ hS => (by exact uses_c (compF f)[k].op w)) ?_
   refine gMv ?_
   iterate 2 refine gEx ?_
   refine GoH.alc rfl rfl rfl (fun _ => Tryd.zeroValue52 _) (fun b8 => ?_)
   refine GoH.stB rfl rfl rfl rfl Tryd.sizeOf52 0 rfl rfl rfl rfl ?_
   refine gAs ?_
   refine gE (gR ?_)
   iterate 2 refine gMv ?_
   refine GoH.v (Vop.ldB rfl rfl rfl rfl Tryd.isAgg50 1 rfl Tryd.sizeOf50 rfl) ?_
   refine GoH.v (Vop.ldB rfl rfl rfl rfl Tryd.isAgg52 0 rfl Tryd.sizeOf52 rfl) ?_
   refine GoH.callP rfl rfl rfl rfl rfl (fun _ _ => Tryd.call77 _ _) (fun w _ hS => (by exact agents1_c (compF f)[k] hfk w)) ?_
   refine GoH.v (Vop.bin rfl rfl rfl rfl (bOrI (by omega) (by omega) ht) rfl) ?_
   refine gAs ?_
   refine gE (gIb (gR ?_))
   refine GoH.v (Vop.bin rfl rfl rfl rfl (bAdd (by omega)) rfl) ?_
   refine gMv ?_
   refine gE ?_
   exact IH (k + 1) _ _ hm (by omega) ⟨rfl, rfl, rfl, rfl, rfl, trivial⟩ (.cons _ (.cons _ (List.Sublist.refl _)))
  ·
   have hge : ¬ k < (compF f).length := by simpa using hc
   obtain rfl : k = (compF f).length := by omega
   rw [List.take_length]
   refine GoH.exit rfl (gS (gR ?_))
   refine gMv ?_
   refine gAs ?_
   refine gE ?_
   refine GoH.ret Tryd.f37 Tryd.func37 rfl (fun w' hS => ?_)
   exact ⟨hS.ext, rfl⟩
theorem pagents_c (a : Option Addr) (ca : Nat) (f : List NV) (w : World) (ha : FA w a f) (hl : f.length ≤ maxLen) : Cn Tryd.prog 65 [.slice a f.length ca] w (fun v _ => v = .int .i64 (orL agN (compF f) : Nat)) := by
  refine Cn.of Tryd.func65 rfl rfl ?_
  refine gS (gR ?_)
  refine gAs ?_
  refine gE (gS (gR ?_))
  refine gMv ?_
  refine GoH.callP rfl rfl rfl rfl rfl (fun _ _ => Tryd.call37 _ _) (fun w _ hS => (by exact upagents_c a ca f w (ha.ex0 hS.ext) hl)) ?_
  refine gAs ?_
  refine gE ?_
  refine GoH.ret Tryd.f65 Tryd.func65 rfl (fun w' hS => ?_)
  exact ⟨hS.ext, rfl⟩
set_option maxRecDepth 4000 in
theorem upfacts_c (a : Option Addr) (ca : Nat) (f : List NV) (w : World) (ha : FA w a f) (hl : f.length ≤ maxLen) : Cn Tryd.prog 37 [.slice a f.length ca, .func (.func 78) #[] #[]] w (fun v _ => v = .int .i64 (orL ftN (compF f) : Nat)) := by
  have hcl := compF_le f
  have hno := (compF_nodes f).fld
  refine Cn.of Tryd.func37 rfl rfl ?_
  refine gS (gR ?_)
  refine gAs ?_
  refine gE (gS (gR ?_))
  refine gAs ?_
  refine gE (gS (gS (gR ?_)))
  refine gMv ?_
  refine GoH.callM _ rfl rfl rfl rfl rfl (fun _ _ => Tryd.call18 _ _) (fun w _ hS => fcompact_c a ca f w (ha.ex0 hS.ext) hl) ?_
  rintro v w1 w2 Y' hS he ho
  rw [subF_top] at ho
  obtain ⟨q, cap, sp, rfl, hq, hcap, hS'⟩ := gainN hS he ho
  refine ⟨_, hS', ?_⟩
  refine gBl Tryd.underlying26 ?_
  refine gMv ?_
  refine gE (gB ?_)
  refine GoH.loop (σ := Nat) (fun k => [(1, .func (.func 78) #[] #[]), (5, .int .i64 (orL ftN ((compF f).take k) : Nat)), (11, osv q (compF f).length cap), (12, .int .i64 (compF f).length), (13, .int .i64 k)]) (fun _ => [(q, obN 50 (compF f) sp)]) (fun k => k ≤ (compF f).length) (fun k => (compF f).length - k) 0 (Nat.zero_le _) ⟨rfl, rfl, rfl, rfl, rfl, trivial⟩ (List.Sublist.refl _) (fun k hk IH => ?_)
  refine gS (gR ?_)
  refine gBi bLt ?_
  refine gE (gS ?_)
  refine GoH.cond rfl (fun hc => ?_) (fun hc => ?_)
  ·
   have hm : k < (compF f).length := by simpa using hc
   obtain ⟨b, rfl⟩ : ∃ b, q = some b := by
     cases q with
     | none => have := (hq rfl).1; omega
     | some b => exact ⟨b, rfl⟩
   have hfk := hno _ (List.getElem_mem hm)
   have h1 : orL ftN ((compF f).take k) < 2 ^ 8 := orL_lt (fun n hn => ftN_lt (hno n (List.mem_of_mem_take hn)))
   have h2 := ftN_lt hfk
   have ht : orL ftN ((compF f).take (k + 1)) = orL ftN ((compF f).take k) ||| ftN (compF f)[k] := orL_take hm
   refine gK (gS (gB (gS (gR ?_))))
   refine GoH.v (Vop.idxS rfl rfl rfl rfl rfl Tryd.underlying26 Tryd.sizeOf50 k ⟨rfl, hm⟩) ?_
   refine GoH.v (Vop.ldN (cs := NV.cells (compF f)[k]) rfl rfl rfl rfl Tryd.isAgg50 Tryd.sizeOf50 (fun w _ hS => Sl.many (enc := NV.cells) (sz := 6) (a := some ⟨b, 0, none⟩) (Sl.blk (hS.get (j := 0) rfl)) (fun _ => rfl) hm)) ?_
   refine GoH.alc rfl rfl rfl (fun _ => Tryd.zeroValue50 _) (fun b7 => ?_)
   refine GoH.stB rfl rfl rfl rfl Tryd.sizeOf50 0 rfl rfl rfl rfl ?_
   refine gE (gS (gR ?_))
   refine gFp Tryd.underlying50 Tryd.sizeOf3 0 ?_
   refine gLo Tryd.isAgg3 0 ?_
   refine GoH.callP rfl rfl rfl rfl rfl (fun _ _ => Tryd.call19 _ _) (fun w _ hS => (by exact uses_c (compF f)[k].op w)) ?_
   refine gMv ?_
   iterate 2 refine gEx ?_
   refine GoH.alc rfl rfl rfl (fun _ => Tryd.zeroValue52 _) (fun b8 => ?_)
   refine GoH.stB rfl rfl rfl rfl Tryd.sizeOf52 0 rfl rfl rfl rfl ?_
   refine gAs ?_
   refine gE (gR ?_)
   iterate 2 refine gMv ?_
   refine GoH.v (Vop.ldB rfl rfl rfl rfl Tryd.isAgg50 1 rfl Tryd.sizeOf50 rfl) ?_
   refine GoH.v (Vop.ldB rfl rfl rfl rfl Tryd.isAgg52 0 rfl Tryd.sizeOf52 rfl) ?_
   refine GoH.callP rfl rfl rfl rfl rfl (fun _ _ => Tryd.call78 _ _) (fun w _ hS => (by exact facts1_c (compF f)[k] hfk w)) ?_
   refine GoH.v (Vop.bin rfl rfl rfl rfl (bOrI (by omega) (by omega) ht) rfl) ?_
   refine gAs ?_
   refine gE (gIb (gR ?_))
   refine GoH.v (Vop.bin rfl rfl rfl rfl (bAdd (by omega)) rfl) ?_
   refine gMv ?_
   refine gE ?_
   exact IH (k + 1) _ _ hm (by omega) ⟨rfl, rfl, rfl, rfl, rfl, trivial⟩ (.cons _ (.cons _ (List.Sublist.refl _)))
  ·
   have hge : ¬ k < (compF f).length := by simpa using hc
   obtain rfl : k = (compF f).length := by omega
   rw [List.take_length]
   refine GoH.exit rfl (gS (gR ?_))
   refine gMv ?_
   refine gAs ?_
   refine gE ?_
   refine GoH.ret Tryd.f37 Tryd.func37 rfl (fun w' hS => ?_)
   exact ⟨hS.ext, rfl⟩
theorem pfacts_c (a : Option Addr) (ca : Nat) (f : List NV) (w : World) (ha : FA w a f) (hl : f.length ≤ maxLen) : Cn Tryd.prog 66 [.slice a f.length ca] w (fun v _ => v = .int .i64 (orL ftN (compF f) : Nat)) := by
  refine Cn.of Tryd.func66 rfl rfl ?_
  refine gS (gR ?_)
  refine gAs ?_
  refine gE (gS (gR ?_))
  refine gMv ?_
  refine GoH.callP rfl rfl rfl rfl rfl (fun _ _ => Tryd.call37 _ _) (fun w _ hS => (by exact upfacts_c a ca f w (ha.ex0 hS.ext) hl)) ?_
  refine gAs ?_
  refine gE ?_
  refine GoH.ret Tryd.f66 Tryd.func66 rfl (fun w' hS => ?_)
  exact ⟨hS.ext, rfl⟩
theorem fits1_c (m A : Nat) (hm : m < 512) (hA : A < 31) (w : World) : Cn Tryd.prog 64 [.int .i64 m, .int .i64 A] w (fun v _ => v = .bool (decide (m / 2 ^ A = 0))) := by
  refine Cn.of Tryd.func64 rfl rfl ?_
  refine gS (gR ?_)
  refine gAs ?_
  refine gE (gS (gR ?_))
  refine gMv ?_
  refine GoH.v (Vop.bin rfl rfl rfl rfl (bGeV (v := false) (decide_eq_false (by omega))) rfl) ?_
  iterate 3 refine gMv ?_
  refine GoH.v (Vop.blt rfl rfl rfl (blt_max (c := (A : Int)) (by omega)) rfl) ?_
  refine GoH.v (Vop.bin rfl rfl rfl rfl (bShrN (j := A) (by simp) (by omega) (by omega)) rfl) ?_
  refine gBi bEq ?_
  refine gPf ?_
  refine gAs ?_
  refine gE ?_
  refine GoH.ret Tryd.f64 Tryd.func64 rfl (fun w' hS => ?_)
  refine ⟨hS.ext, ?_⟩
  have e : (((m / 2 ^ A : Nat) : Int) == 0) = decide (m / 2 ^ A = 0) := by
    rw [Bool.eq_iff_iff, beq_iff_eq, decide_eq_true_eq]; omega
  rw [← e]; rfl
theorem pfits_c (a : Option Addr) (ca : Nat) (f : List NV) (A Bf : Nat) (w : World) (ha : FA w a f) (hl : f.length ≤ maxLen) (hA : A < 31) (hB : Bf < 31) : Cn Tryd.prog 51 [.slice a f.length ca, .int .i64 A, .int .i64 Bf] w (fun v _ => v = .bool (fitB f A Bf)) := by
  have hno := (compF_nodes f).fld
  have h1 : orL agN (compF f) < 2 ^ 4 := orL_lt (fun n hn => agN_lt (hno n hn))
  have h2 : orL ftN (compF f) < 2 ^ 8 := orL_lt (fun n hn => ftN_lt (hno n hn))
  refine Cn.of Tryd.func51 rfl rfl ?_
  refine gS (gR ?_)
  refine gAs ?_
  refine gE (gS (gR ?_))
  refine gAs ?_
  refine gE (gS (gR ?_))
  refine gMv ?_
  refine GoH.callP rfl rfl rfl rfl rfl (fun _ _ => Tryd.call17 _ _) (fun w _ hS => (by exact fcheck_c a ca f w (ha.ex0 hS.ext) hl)) ?_
  refine gBi bEq ?_
  refine gMv ?_
  refine GoH.cases (d := 11) rfl (fun hc => ?_) (fun hc => ?_)
  ·
   have h0 : chkF f = 0 := by simpa using hc
   iterate 2 refine gMv ?_
   refine GoH.callP rfl rfl rfl rfl rfl (fun _ _ => Tryd.call65 _ _) (fun w _ hS => (by exact pagents_c a ca f w (ha.ex0 hS.ext) hl)) ?_
   refine gMv ?_
   refine GoH.callP rfl rfl rfl rfl rfl (fun _ _ => Tryd.call64 _ _) (fun w _ hS => (by exact fits1_c (orL agN (compF f)) A (by omega) hA w)) ?_
   refine gPt ?_
   refine gMv ?_
   refine GoH.cases (d := 18) rfl (fun hc => ?_) (fun hc => ?_)
   ·
    have h3 := hc
    iterate 2 refine gMv ?_
    refine GoH.callP rfl rfl rfl rfl rfl (fun _ _ => Tryd.call66 _ _) (fun w _ hS => (by exact pfacts_c a ca f w (ha.ex0 hS.ext) hl)) ?_
    refine gMv ?_
    refine GoH.callP rfl rfl rfl rfl rfl (fun _ _ => Tryd.call64 _ _) (fun w _ hS => (by exact fits1_c (orL ftN (compF f)) Bf (by omega) hB w)) ?_
    refine gPt ?_
    refine gAs ?_
    refine gE ?_
    refine GoH.ret Tryd.f51 Tryd.func51 rfl (fun w' hS => ?_)
    refine ⟨hS.ext, ?_⟩
    rw [fitB, okM_shr h1, okM_shr h2, h3, h0]; rfl
   ·
    have h3 : decide (orL agN (compF f) / 2 ^ A = 0) = false := hc
    iterate 5 refine gNo ?_
    refine gPf ?_
    refine gAs ?_
    refine gE ?_
    refine GoH.ret Tryd.f51 Tryd.func51 rfl (fun w' hS => ?_)
    refine ⟨hS.ext, ?_⟩
    rw [fitB, okM_shr h1, h3, Bool.false_and, Bool.and_false]; rfl
  ·
   have h0 : (chkF f == 0) = false := hc
   iterate 5 refine gNo ?_
   refine gPf ?_
   refine gMv ?_
   iterate 5 refine gNo ?_
   refine gPf ?_
   refine gAs ?_
   refine gE ?_
   refine GoH.ret Tryd.f51 Tryd.func51 rfl (fun w' hS => ?_)
   refine ⟨hS.ext, ?_⟩
   rw [fitB, h0, Bool.false_and]; rfl
end Go.Proofs.YthojdcaojjmoaaaDoor
namespace Go.Proofs.YthojdcaojjmoaaaDoor
open Go.RowKit Go.Proofs.Wit
/-! the laws of chapter 19, 2 -/
theorem pboth_c (a : Option Addr) (ca : Nat) (p : List Int) (b : Option Addr) (cb : Nat) (q : List Int) (w : World) (ha : SlI w a p) (hb : SlI w b q) (hp : OkP p) (hq : OkP q) (hl : p.length = q.length) :
    Cn Tryd.prog 20 [.slice a p.length ca, .slice b q.length cb] w (fun v _ => v = .int .i64 0) := by
  refine Cn.of Tryd.func20 rfl rfl ?_
  refine gS (gR ?_)
  refine gAs ?_
  refine gE (gS (gS (gR ?_)))
  refine gMv ?_
  refine GoH.callP rfl rfl rfl rfl rfl (fun _ _ => Tryd.call35 _ _) (fun w _ hS => pchk_c a ca p w (ha.ex0 hS.ext) hp) ?_
  refine gMv ?_
  refine GoH.callP rfl rfl rfl rfl rfl (fun _ _ => Tryd.call35 _ _) (fun w _ hS => pchk_c b cb q w (hb.ex0 hS.ext) hq) ?_
  iterate 2 refine gAs ?_
  refine gE (gB (gS (gR ?_)))
  refine gMv ?_
  refine GoH.v (Vop.bin rfl rfl rfl rfl (bNeV (v := false) rfl) rfl) ?_
  refine gAs ?_
  refine gE (GoH.condF rfl (gS (gR ?_)))
  refine gMv ?_
  refine GoH.v (Vop.bin rfl rfl rfl rfl (bNeV (v := false) rfl) rfl) ?_
  refine gAs ?_
  refine gE (GoH.condF rfl (gS (gR ?_)))
  refine gMv ?_
  refine gBl Tryd.underlying29 ?_
  refine gMv ?_
  refine gBl Tryd.underlying29 ?_
  refine GoH.v (Vop.bin rfl rfl rfl rfl (bNeV (v := false) (by rw [hl]; simp)) rfl) ?_
  refine gAs ?_
  refine gE (GoH.condF rfl (gK (gIb (gS (gR ?_)))))
  refine gAs ?_
  refine gE ?_
  refine GoH.ret Tryd.f20 Tryd.func20 rfl (fun w' hS => ?_)
  exact ⟨hS.ext, rfl⟩
theorem refines_c (a : Option Addr) (ca : Nat) (p : List Int) (b : Option Addr) (cb : Nat) (q : List Int) (w : World) (ha : SlI w a p) (hb : SlI w b q) (hp : OkP p) (hq : OkP q) (hl : p.length = q.length)
    (hr : ∀ i, i < p.length → q.getD (p.getD i 0).toNat 0 = q.getD i 0) :
    Cn Tryd.prog 10 [.slice a p.length ca, .slice b q.length cb] w (fun v _ => v = .bool true) := by
  have hpl := hp.len
  refine Cn.of Tryd.func10 rfl rfl ?_
  refine gS (gR ?_)
  refine gAs ?_
  refine gE (gS (gS (gR ?_)))
  iterate 2 refine gMv ?_
  refine GoH.callP rfl rfl rfl rfl rfl (fun _ _ => Tryd.call20 _ _) (fun w _ hS => pboth_c a ca p b cb q w (ha.ex0 hS.ext) (hb.ex0 hS.ext) hp hq hl) ?_
  refine GoH.v (Vop.bin rfl rfl rfl rfl (bNeV (v := false) rfl) rfl) ?_
  refine gE (GoH.condF rfl (gK (gS (gS (gR ?_)))))
  refine gMv ?_
  refine gBl Tryd.underlying29 ?_
  refine gMv ?_
  refine gE (gB ?_)
  refine GoH.loop (σ := Nat) (fun k => [(1, .slice b q.length cb), (11, .slice a p.length ca), (12, .int .i64 p.length), (13, .int .i64 k)]) (fun _ => []) (fun k => k ≤ p.length) (fun k => p.length - k) 0 (Nat.zero_le _) ⟨rfl, rfl, rfl, rfl, trivial⟩ .slnil (fun k hI IH => ?_)
  refine gS (gR ?_)
  refine gBi bLt ?_
  refine gE (gS ?_)
  refine GoH.cond rfl (fun hc => ?_) (fun hc => ?_)
  ·
   have hlt : k < p.length := by simpa using hc
   have hlq : k < q.length := by omega
   obtain ⟨h1, h2, h3⟩ := hp.low k hlt
   have h0 := hr k hlt
   rw [← lowE hlt] at h0 h1 h2
   have hxq : p[k].toNat < q.length := by omega
   refine gK (gS (gB (gS (gR ?_))))
   refine gMv ?_
   refine GoH.v (Vop.idx rfl rfl rfl rfl rfl Tryd.underlying29 Tryd.sizeOf3 ⟨_, ha⟩ (by simp) (k) ⟨rfl, by simpa using hlt⟩) ?_
   refine GoH.v (Vop.ld rfl rfl rfl rfl Tryd.isAgg3 (fun w _ hS => (SlI.ex0 ha hS.ext).at (k) hlt)) ?_
   iterate 2 refine gAs ?_
   refine gE (gS ?_)
   refine GoH.draw 9 mixed rfl ?_
   iterate 2 refine rMv ?_
   refine RdGo.v (Vop.idx rfl rfl rfl rfl rfl Tryd.underlying29 Tryd.sizeOf3 ⟨_, hb⟩ (by simp) (k) ⟨rfl, by simpa using hlq⟩) ?_
   refine RdGo.v (Vop.ld rfl rfl rfl rfl Tryd.isAgg3 (fun w _ hS => (SlI.ex0 hb hS.ext).at (k) hlq)) ?_
   iterate 2 refine rMv ?_
   refine RdGo.v (Vop.idx rfl rfl rfl rfl rfl Tryd.underlying29 Tryd.sizeOf3 ⟨_, hb⟩ (by simp) p[k].toNat ⟨by omega, by simpa using hxq⟩) ?_
   refine RdGo.v (Vop.ld rfl rfl rfl rfl Tryd.isAgg3 (fun w _ hS => (SlI.ex0 hb hS.ext).at p[k].toNat hxq)) ?_
   refine RdGo.v (Vop.bin rfl rfl rfl rfl (bNeV (v := false) (by rw [lowE hlq, lowE hxq, h0]; simp)) rfl) ?_
   refine RdGo.nil ?_
   refine gE (GoH.condF rfl (gK (gIb (gR ?_))))
   refine GoH.v (Vop.bin rfl rfl rfl rfl (bAdd (by omega)) rfl) ?_
   refine gMv ?_
   refine gE ?_
   exact IH (k + 1) _ _ hlt (by omega) ⟨rfl, rfl, rfl, rfl, trivial⟩ .slnil
  ·
   refine GoH.exit rfl (gS (gR ?_))
   refine gAs ?_
   refine gE ?_
   refine GoH.ret Tryd.f10 Tryd.func10 rfl (fun w' hS => ?_)
   exact ⟨hS.ext, rfl⟩
end Go.Proofs.YthojdcaojjmoaaaDoor
namespace Go.Proofs.YthojdcaojjmoaaaDoor
open Go.RowKit Go.Proofs.Wit
/-! groups -/
theorem meet1_c (x y : W64) (w : World) : Cn Tryd.prog 70 [U x, U y] w (fun v _ => v = U (x &&& y)) := by
  refine Cn.of Tryd.func70 rfl rfl ?_
  refine gS (gR ?_)
  refine GoH.v (Vop.asg (v := U 0#64) rfl rfl rfl rfl) ?_
  refine gE (gS (gR ?_))
  iterate 2 refine gMv ?_
  refine gBi bAnd ?_
  refine gAs ?_
  refine gE ?_
  refine GoH.ret Tryd.f70 Tryd.func70 rfl (fun w' hS => ?_)
  exact ⟨hS.ext, rfl⟩
theorem cloneRow_c (r : Row) (w : World) (hr : r.At w) (hl : r.xs.length ≤ 100000) : Cn Tryd.prog 79 [r.v] w (fun v w' => Own w w' v r.xs) := clone_c r.a r.cap r.xs w hr.at_ hl hr.cap
set_option maxRecDepth 4000 in
theorem gather_c (m : MV) (n g : Nat) (w : World) (hm : m.At w) (hv : ValM m.n m.val m.rel) (hn : m.n = (n : Int)) (hg : 1 ≤ g ∧ g < 2 ^ m.rows.length) :
    Cn Tryd.prog 69 [m.v, .int .i64 g, .func (.func 70) #[] #[]] w (fun v w' => Own w w' v (meetL n m.rel g)) := by
  have hn64 := hv.n64
  have hn1 := hv.n1
  have hag := hv.agents
  have hrl : m.rel.length = m.rows.length := by simp [MV.rel]
  have hp4 : (2 : Nat) ^ m.rows.length ≤ 2 ^ 4 := Nat.pow_le_pow_right (by decide) (by omega)
  have h16 : (2 : Nat) ^ 4 = 16 := by decide
  refine Cn.of Tryd.func69 rfl rfl ?_
  refine gS (gR ?_)
  refine GoH.bx rfl rfl rfl rfl (fun b3 => ?_)
  refine gAs ?_
  refine gE (gS (gS (gR ?_)))
  refine GoH.v (Vop.ldB rfl rfl rfl rfl Tryd.isAgg25 0 rfl Tryd.sizeOf25 rfl) ?_
  refine GoH.callP rfl rfl rfl rfl rfl (fun _ _ => Tryd.call14 _ _) (fun w _ hS => (by exact (mcheck_c m w (hm.ex0 hS.ext)).mono (fun v w' _ e => by rw [e, checkM_zero.2 hv]))) ?_
  refine GoH.v (Vop.bin rfl rfl rfl rfl (bNeV (v := false) rfl) rfl) ?_
  iterate 2 refine gMv ?_
  refine GoH.v (Vop.bin rfl rfl rfl rfl (bLtV (v := false) (decide_eq_false (by omega))) rfl) ?_
  refine gPf ?_
  iterate 2 refine gMv ?_
  refine gFp Tryd.underlying25 Tryd.sizeOf23 2 ?_
  refine GoH.v (Vop.ldo (v := .slice m.ra m.rows.length m.rc) rfl rfl rfl rfl Tryd.isAgg23 0 rfl rfl) ?_
  refine gBl Tryd.underlying23 ?_
  refine GoH.v (Vop.bin rfl rfl rfl rfl (bShlN (x := 1) (j := m.rows.length) rfl (by omega) (by omega)) rfl) ?_
  refine GoH.v (Vop.bin rfl rfl rfl rfl (bGeV (v := false) (decide_eq_false (by omega))) rfl) ?_
  refine gPf ?_
  refine gE (GoH.condF rfl (gK (gS (gR ?_))))
  refine gAs ?_
  refine gE (gS (gS (gR ?_)))
  refine gFp Tryd.underlying25 Tryd.sizeOf23 2 ?_
  refine GoH.v (Vop.ldo (v := .slice m.ra m.rows.length m.rc) rfl rfl rfl rfl Tryd.isAgg23 0 rfl rfl) ?_
  refine gBl Tryd.underlying23 ?_
  refine gMv ?_
  refine gE (gB ?_)
  refine GoH.addNone (ob U 37 [] []) ?_
  refine GoH.loop (σ := Nat × Option Nat × Nat × List Value × List W64) (fun z => [(1, .int .i64 g), (2, .func (.func 70) #[] #[]), (7, osv z.2.1 z.2.2.2.2.length z.2.2.1), (27, .slice m.ra m.rows.length m.rc), (28, .int .i64 m.rows.length), (29, .int .i64 z.1)]) (fun z => [(z.2.1, ob U 37 z.2.2.2.2 z.2.2.2.1)])
    (fun z => z.1 ≤ m.rows.length ∧ (z.2.1 = none ∧ z.2.2.1 = 0 ∧ z.2.2.2.2 = [] ∧ (∀ a, a < z.1 → gb g a = 0) ∨ ∃ b, z.2.1 = some b ∧ z.2.2.2.2 = meetTo n m.rel g z.1 ∧ (z.2.2.2.2.map U ++ z.2.2.2.1).length = z.2.2.1)) (fun z => m.rows.length - z.1) (0, none, 0, [], [])
    ⟨Nat.zero_le _, .inl ⟨rfl, rfl, rfl, fun a ha => absurd ha (Nat.not_lt_zero _)⟩⟩ ⟨rfl, rfl, rfl, rfl, rfl, rfl, trivial⟩ (.cons_cons _ (.cons _ .slnil)) (fun z hI IH => ?_)
  obtain ⟨k, q, cap, sp, xs⟩ := z
  obtain ⟨hk, hcase⟩ := hI
  dsimp only at hk hcase IH ⊢
  refine gS (gR ?_)
  refine gBi bLt ?_
  refine gE (gS ?_)
  refine GoH.cond rfl (fun hc => ?_) (fun hc => ?_)
  ·
   have hlt : k < m.rows.length := by simpa using hc
   have hrow := hm.row m.rows[k] (List.getElem_mem hlt)
   have hrm : m.rows[k].xs ∈ m.rel := List.mem_map.2 ⟨_, List.getElem_mem hlt, rfl⟩
   have hrv := hv.rels _ hrm
   have hrn : m.rows[k].xs.length = n := by have := hv.len _ hrm; omega
   have hrd : m.rel.getD k [] = m.rows[k].xs := relD hlt
   refine gK (gS (gB (gS (gR ?_))))
   refine gMv ?_
   refine GoH.v (Vop.idx rfl rfl rfl rfl rfl Tryd.underlying23 Tryd.sizeOf22 ⟨_, hm.rel⟩ (by simp) (k) ⟨rfl, by simpa using hlt⟩) ?_
   refine GoH.v (Vop.ld rfl rfl rfl rfl Tryd.isAgg22 (fun w _ hS => (SlR.ex0 hm.rel hS.ext).at (k) hlt)) ?_
   iterate 2 refine gAs ?_
   refine gE (gS (gS (gR ?_)))
   iterate 2 refine gMv ?_
   refine GoH.v (Vop.bin rfl rfl rfl rfl (bShrN (j := k) rfl (by omega) (by omega)) rfl) ?_
   refine GoH.v (Vop.bin rfl rfl rfl rfl (bAnd1N (by have : g / 2 ^ k ≤ g := Nat.div_le_self _ _; omega)) rfl) ?_
   refine gBi bEq ?_
   refine gE ?_
   refine GoH.cond rfl (fun hc => ?_) (fun hc => ?_)
   ·
    have hb0 : gb g k = 0 := Int.ofNat_inj.1 (show ((gb g k : Nat) : Int) = ((0 : Nat) : Int) from beq_iff_eq.1 hc)
    refine GoH.exit rfl (gR ?_)
    refine GoH.v (Vop.bin rfl rfl rfl rfl (bAdd (by omega)) rfl) ?_
    refine gMv ?_
    refine gE ?_
    refine IH (k + 1, q, cap, sp, xs) _ _ ⟨hlt, ?_⟩ (by dsimp only; omega) ⟨rfl, rfl, rfl, rfl, rfl, rfl, trivial⟩ (List.Sublist.refl _)
    rcases hcase with ⟨h1, h2, h3, h4⟩ | ⟨b, h1, h2, h3⟩
    · exact .inl ⟨h1, h2, h3, fun a ha => by
        rcases Nat.lt_succ_iff_lt_or_eq.1 ha with ha | rfl
        · exact h4 a ha
        · exact hb0⟩
    · exact .inr ⟨b, h1, by rw [meetTo_skip hb0]; exact h2, h3⟩
   ·
    have hb1 : gb g k = 1 := by
      rcases gb_cases g k with h | h
      · exact absurd (show ((gb g k : Nat) : Int) = 0 by rw [h]; rfl) (beq_eq_false_iff_ne.1 hc)
      · exact h
    refine gK (gS (gS (gR ?_)))
    refine gMv ?_
    refine GoH.v (Vop.bin rfl rfl rfl rfl (bSlNil Tryd.underlying22) rfl) ?_
    refine gE ?_
    refine GoH.cond rfl (fun hc => ?_) (fun hc => ?_)
    ·
     obtain ⟨rfl, rfl, rfl, hno⟩ : q = none ∧ cap = 0 ∧ xs = [] ∧ ∀ a, a < k → gb g a = 0 := by
       rcases hcase with h | ⟨b, rfl, _⟩
       · exact h
       · cases hc
     refine gS (gR ?_)
     refine gMv ?_
     refine GoH.callM _ rfl rfl rfl rfl rfl (fun _ _ => Tryd.call79 _ _) (fun w _ hS => cloneRow_c m.rows[k] w (hrow.ex0 hS.ext) (by omega)) ?_
     rintro v w1 w2 Y' hS he ho
     obtain ⟨q2, cap2, sp2, rfl, hq2, hcap2, hS'⟩ := gainO hS he ho
     obtain ⟨b2, rfl⟩ : ∃ b, q2 = some b := by
       cases q2 with
       | none => have := (hq2 rfl).1; omega
       | some b => exact ⟨b, rfl⟩
     refine ⟨_, hS', ?_⟩
     refine gAs ?_
     refine gE (GoH.exit rfl (gR ?_))
     refine GoH.v (Vop.bin rfl rfl rfl rfl (bAdd (by omega)) rfl) ?_
     refine gMv ?_
     refine gE ?_
     exact IH (k + 1, some b2, cap2, sp2, m.rows[k].xs) _ _ ⟨hlt, .inr ⟨b2, rfl, (meetTo_first (by omega) hno hb1 hrd hrn hrv).symm, hcap2⟩⟩ (by dsimp only; omega) ⟨rfl, rfl, rfl, rfl, rfl, rfl, trivial⟩ (.cons_cons _ (.cons _ .slnil))
    ·
     obtain ⟨b, rfl, hxs, hcap⟩ : ∃ b, q = some b ∧ xs = meetTo n m.rel g k ∧ (xs.map U ++ sp).length = cap := by
       rcases hcase with ⟨rfl, _⟩ | h
       · cases hc
       · exact h
     have hxl : xs.length = n := by rw [hxs, meetTo_len]
     refine gK (gS (gR ?_))
     refine gMv ?_
     refine gBl Tryd.underlying22 ?_
     refine gMv ?_
     refine gE (gB ?_)
     refine GoH.loop (σ := Nat) (fun j => [(1, .int .i64 g), (2, .func (.func 70) #[] #[]), (7, osv (some b) xs.length cap), (9, m.rows[k].v), (27, .slice m.ra m.rows.length m.rc), (28, .int .i64 m.rows.length), (29, .int .i64 k), (44, .int .i64 xs.length), (45, .int .i64 j)]) (fun j => [(some b, ob U 37 (flm (fun w x => x &&& m.rows[k].xs.getD w 0#64) xs j) sp)])
       (fun j => j ≤ xs.length) (fun j => xs.length - j) 0 (Nat.zero_le _) ⟨rfl, rfl, rfl, rfl, rfl, rfl, rfl, rfl, rfl, trivial⟩ (by rw [flm_zero]; exact List.Sublist.refl _) (fun j hj IH2 => ?_)
     refine gS (gR ?_)
     refine gBi bLt ?_
     refine gE (gS ?_)
     refine GoH.cond rfl (fun hc => ?_) (fun hc => ?_)
     ·
      have hjl : j < xs.length := by simpa using hc
      have hjr : j < m.rows[k].xs.length := by omega
      have hjf : j < (flm (fun w x => x &&& m.rows[k].xs.getD w 0#64) xs j).length := by rw [flm_length]; exact hjl
      refine gK (gS (gB (gS (gR ?_))))
      refine gMv ?_
      refine gAs ?_
      refine gE ?_
      refine GoH.draw 13 mixed rfl ?_
      iterate 5 refine rMv ?_
      refine RdGo.v (Vop.idxS rfl rfl rfl rfl rfl Tryd.underlying22 Tryd.sizeOf37 (j) ⟨rfl, hjl⟩) ?_
      refine RdGo.v (Vop.ldE U 0#64 rfl rfl rfl rfl Tryd.isAgg37 0 rfl hjf) ?_
      iterate 2 refine rMv ?_
      refine RdGo.v (Vop.idx rfl rfl rfl rfl rfl Tryd.underlying22 Tryd.sizeOf37 ⟨_, hrow.at_⟩ (by simp) (j) ⟨rfl, by simpa using hjr⟩) ?_
      refine RdGo.v (Vop.ld rfl rfl rfl rfl Tryd.isAgg37 (fun w _ hS => (SlU.ex0 hrow.at_ hS.ext).at (j) hjr)) ?_
      refine RdGo.callP rfl rfl rfl rfl rfl (fun _ _ => Tryd.call70 _ _) (fun w _ hS => meet1_c _ _ w) ?_
      refine RdGo.v (Vop.idxS rfl rfl rfl rfl rfl Tryd.underlying22 Tryd.sizeOf37 (j) ⟨rfl, hjl⟩) ?_
      refine RdGo.nil ?_
      refine GoH.stE U _ rfl rfl rfl rfl Tryd.sizeOf37 rfl 0 rfl hjf ?_
      refine gE (gIb (gR ?_))
      refine GoH.v (Vop.bin rfl rfl rfl rfl (bAdd (by omega)) rfl) ?_
      refine gMv ?_
      refine gE ?_
      exact IH2 (j + 1) _ _ hjl (by omega) ⟨rfl, rfl, rfl, rfl, rfl, rfl, rfl, rfl, rfl, trivial⟩ (by rw [← flm_next hjl]; exact List.Sublist.refl _)
     ·
      have hge : ¬ j < xs.length := by simpa using hc
      obtain rfl : j = xs.length := by omega
      have hst : flm (fun w x => x &&& m.rows[k].xs.getD w 0#64) xs xs.length = meetTo n m.rel g (k + 1) := by rw [hxl, hxs]; exact meetTo_step hb1 hrd
      refine GoH.exit rfl (gIb (gR ?_))
      refine GoH.v (Vop.bin rfl rfl rfl rfl (bAdd (by omega)) rfl) ?_
      refine gMv ?_
      refine gE ?_
      exact IH (k + 1, some b, cap, sp, flm (fun w x => x &&& m.rows[k].xs.getD w 0#64) xs xs.length) _ _ ⟨hlt, .inr ⟨b, rfl, hst, by rw [← hcap]; simp [flm_length]⟩⟩ (by dsimp only; omega) ⟨rfl, rfl, (by rw [flm_length]; rfl), rfl, rfl, rfl, trivial⟩ (List.Sublist.refl _)
  ·
   have hge : ¬ k < m.rows.length := by simpa using hc
   obtain rfl : k = m.rows.length := by omega
   obtain ⟨b, rfl, hxs, hcap⟩ : ∃ b, q = some b ∧ xs = meetTo n m.rel g m.rows.length ∧ (xs.map U ++ sp).length = cap := by
     rcases hcase with ⟨_, _, _, h⟩ | h
     · exact absurd h (gb_some hg.1 hg.2)
     · exact h
   obtain rfl : xs = meetL n m.rel g := by rw [hxs, meetL, hrl]
   refine GoH.exit rfl (gS (gR ?_))
   refine gMv ?_
   refine gAs ?_
   refine gE ?_
   refine GoH.ret Tryd.f69 Tryd.func69 rfl (fun w' hS => ?_)
   exact ⟨hS.ext, some b, cap, sp, rfl, (fun h => by cases h), hcap, fun b' hb => by cases hb; exact ⟨hS.fresh (j := 0) rfl, hS.get (j := 0) rfl⟩⟩
theorem meetM_c (m : MV) (n g : Nat) (w : World) (hm : m.At w) (hv : ValM m.n m.val m.rel) (hn : m.n = (n : Int)) (hg : 1 ≤ g ∧ g < 2 ^ m.rows.length) :
    Cn Tryd.prog 54 [m.v, .int .i64 g] w (fun v w' => Own w w' v (meetL n m.rel g)) := by
  refine Cn.of Tryd.func54 rfl rfl ?_
  refine gS (gR ?_)
  refine GoH.bx rfl rfl rfl rfl (fun b2 => ?_)
  refine gAs ?_
  refine gE (gS (gR ?_))
  refine GoH.v (Vop.ldB rfl rfl rfl rfl Tryd.isAgg25 0 rfl Tryd.sizeOf25 rfl) ?_
  refine gMv ?_
  refine GoH.callM _ rfl rfl rfl rfl rfl (fun _ _ => Tryd.call69 _ _) (fun w _ hS => gather_c m n g w (hm.ex0 hS.ext) hv hn hg) ?_
  rintro v w1 w2 Y' hS he ho
  obtain ⟨q, cap, sp, rfl, hq, hcap, hS'⟩ := gainO hS he ho
  refine ⟨_, hS', ?_⟩
  refine gAs ?_
  refine gE ?_
  refine GoH.ret Tryd.f54 Tryd.func54 rfl (fun w' hS => ?_)
  exact ⟨hS.ext, q, cap, sp, rfl, hq, hcap, fun b' hb => by subst hb; exact ⟨hS.fresh (j := 0) rfl, hS.get (j := 0) rfl⟩⟩
end Go.Proofs.YthojdcaojjmoaaaDoor
namespace Go.Proofs.YthojdcaojjmoaaaDoor
open Go.RowKit Go.Proofs.Wit
/-! unions of the relations of a group -/
theorem join1_c (x y : W64) (w : World) : Cn Tryd.prog 71 [U x, U y] w (fun v _ => v = U (x ||| y)) := by
  refine Cn.of Tryd.func71 rfl rfl ?_
  refine gS (gR ?_)
  refine GoH.v (Vop.asg (v := U 0#64) rfl rfl rfl rfl) ?_
  refine gE (gS (gR ?_))
  iterate 2 refine gMv ?_
  refine gBi bOr ?_
  refine gAs ?_
  refine gE ?_
  refine GoH.ret Tryd.f71 Tryd.func71 rfl (fun w' hS => ?_)
  exact ⟨hS.ext, rfl⟩
set_option maxRecDepth 4000 in
theorem gatherG_c (m : MV) (n g : Nat) (w : World) (hm : m.At w) (hv : ValM m.n m.val m.rel) (hn : m.n = (n : Int)) (hg : 1 ≤ g ∧ g < 2 ^ m.rows.length) :
    Cn Tryd.prog 69 [m.v, .int .i64 g, .func (.func 71) #[] #[]] w (fun v w' => Own w w' v (joinL n m.rel g)) := by
  have hn64 := hv.n64
  have hn1 := hv.n1
  have hag := hv.agents
  have hrl : m.rel.length = m.rows.length := by simp [MV.rel]
  have hp4 : (2 : Nat) ^ m.rows.length ≤ 2 ^ 4 := Nat.pow_le_pow_right (by decide) (by omega)
  have h16 : (2 : Nat) ^ 4 = 16 := by decide
  refine Cn.of Tryd.func69 rfl rfl ?_
  refine gS (gR ?_)
  refine GoH.bx rfl rfl rfl rfl (fun b3 => ?_)
  refine gAs ?_
  refine gE (gS (gS (gR ?_)))
  refine GoH.v (Vop.ldB rfl rfl rfl rfl Tryd.isAgg25 0 rfl Tryd.sizeOf25 rfl) ?_
  refine GoH.callP rfl rfl rfl rfl rfl (fun _ _ => Tryd.call14 _ _) (fun w _ hS => (by exact (mcheck_c m w (hm.ex0 hS.ext)).mono (fun v w' _ e => by rw [e, checkM_zero.2 hv]))) ?_
  refine GoH.v (Vop.bin rfl rfl rfl rfl (bNeV (v := false) rfl) rfl) ?_
  iterate 2 refine gMv ?_
  refine GoH.v (Vop.bin rfl rfl rfl rfl (bLtV (v := false) (decide_eq_false (by omega))) rfl) ?_
  refine gPf ?_
  iterate 2 refine gMv ?_
  refine gFp Tryd.underlying25 Tryd.sizeOf23 2 ?_
  refine GoH.v (Vop.ldo (v := .slice m.ra m.rows.length m.rc) rfl rfl rfl rfl Tryd.isAgg23 0 rfl rfl) ?_
  refine gBl Tryd.underlying23 ?_
  refine GoH.v (Vop.bin rfl rfl rfl rfl (bShlN (x := 1) (j := m.rows.length) rfl (by omega) (by omega)) rfl) ?_
  refine GoH.v (Vop.bin rfl rfl rfl rfl (bGeV (v := false) (decide_eq_false (by omega))) rfl) ?_
  refine gPf ?_
  refine gE (GoH.condF rfl (gK (gS (gR ?_))))
  refine gAs ?_
  refine gE (gS (gS (gR ?_)))
  refine gFp Tryd.underlying25 Tryd.sizeOf23 2 ?_
  refine GoH.v (Vop.ldo (v := .slice m.ra m.rows.length m.rc) rfl rfl rfl rfl Tryd.isAgg23 0 rfl rfl) ?_
  refine gBl Tryd.underlying23 ?_
  refine gMv ?_
  refine gE (gB ?_)
  refine GoH.addNone (ob U 37 [] []) ?_
  refine GoH.loop (σ := Nat × Option Nat × Nat × List Value × List W64) (fun z => [(1, .int .i64 g), (2, .func (.func 71) #[] #[]), (7, osv z.2.1 z.2.2.2.2.length z.2.2.1), (27, .slice m.ra m.rows.length m.rc), (28, .int .i64 m.rows.length), (29, .int .i64 z.1)]) (fun z => [(z.2.1, ob U 37 z.2.2.2.2 z.2.2.2.1)])
    (fun z => z.1 ≤ m.rows.length ∧ (z.2.1 = none ∧ z.2.2.1 = 0 ∧ z.2.2.2.2 = [] ∧ (∀ a, a < z.1 → gb g a = 0) ∨ ∃ b, z.2.1 = some b ∧ z.2.2.2.2 = joinTo n m.rel g z.1 ∧ (z.2.2.2.2.map U ++ z.2.2.2.1).length = z.2.2.1)) (fun z => m.rows.length - z.1) (0, none, 0, [], [])
    ⟨Nat.zero_le _, .inl ⟨rfl, rfl, rfl, fun a ha => absurd ha (Nat.not_lt_zero _)⟩⟩ ⟨rfl, rfl, rfl, rfl, rfl, rfl, trivial⟩ (.cons_cons _ (.cons _ .slnil)) (fun z hI IH => ?_)
  obtain ⟨k, q, cap, sp, xs⟩ := z
  obtain ⟨hk, hcase⟩ := hI
  dsimp only at hk hcase IH ⊢
  refine gS (gR ?_)
  refine gBi bLt ?_
  refine gE (gS ?_)
  refine GoH.cond rfl (fun hc => ?_) (fun hc => ?_)
  ·
   have hlt : k < m.rows.length := by simpa using hc
   have hrow := hm.row m.rows[k] (List.getElem_mem hlt)
   have hrm : m.rows[k].xs ∈ m.rel := List.mem_map.2 ⟨_, List.getElem_mem hlt, rfl⟩
   have hrv := hv.rels _ hrm
   have hrn : m.rows[k].xs.length = n := by have := hv.len _ hrm; omega
   have hrd : m.rel.getD k [] = m.rows[k].xs := relD hlt
   refine gK (gS (gB (gS (gR ?_))))
   refine gMv ?_
   refine GoH.v (Vop.idx rfl rfl rfl rfl rfl Tryd.underlying23 Tryd.sizeOf22 ⟨_, hm.rel⟩ (by simp) (k) ⟨rfl, by simpa using hlt⟩) ?_
   refine GoH.v (Vop.ld rfl rfl rfl rfl Tryd.isAgg22 (fun w _ hS => (SlR.ex0 hm.rel hS.ext).at (k) hlt)) ?_
   iterate 2 refine gAs ?_
   refine gE (gS (gS (gR ?_)))
   iterate 2 refine gMv ?_
   refine GoH.v (Vop.bin rfl rfl rfl rfl (bShrN (j := k) rfl (by omega) (by omega)) rfl) ?_
   refine GoH.v (Vop.bin rfl rfl rfl rfl (bAnd1N (by have : g / 2 ^ k ≤ g := Nat.div_le_self _ _; omega)) rfl) ?_
   refine gBi bEq ?_
   refine gE ?_
   refine GoH.cond rfl (fun hc => ?_) (fun hc => ?_)
   ·
    have hb0 : gb g k = 0 := Int.ofNat_inj.1 (show ((gb g k : Nat) : Int) = ((0 : Nat) : Int) from beq_iff_eq.1 hc)
    refine GoH.exit rfl (gR ?_)
    refine GoH.v (Vop.bin rfl rfl rfl rfl (bAdd (by omega)) rfl) ?_
    refine gMv ?_
    refine gE ?_
    refine IH (k + 1, q, cap, sp, xs) _ _ ⟨hlt, ?_⟩ (by dsimp only; omega) ⟨rfl, rfl, rfl, rfl, rfl, rfl, trivial⟩ (List.Sublist.refl _)
    rcases hcase with ⟨h1, h2, h3, h4⟩ | ⟨b, h1, h2, h3⟩
    · exact .inl ⟨h1, h2, h3, fun a ha => by
        rcases Nat.lt_succ_iff_lt_or_eq.1 ha with ha | rfl
        · exact h4 a ha
        · exact hb0⟩
    · exact .inr ⟨b, h1, by rw [joinV_skip hb0]; exact h2, h3⟩
   ·
    have hb1 : gb g k = 1 := by
      rcases gb_cases g k with h | h
      · exact absurd (show ((gb g k : Nat) : Int) = 0 by rw [h]; rfl) (beq_eq_false_iff_ne.1 hc)
      · exact h
    refine gK (gS (gS (gR ?_)))
    refine gMv ?_
    refine GoH.v (Vop.bin rfl rfl rfl rfl (bSlNil Tryd.underlying22) rfl) ?_
    refine gE ?_
    refine GoH.cond rfl (fun hc => ?_) (fun hc => ?_)
    ·
     obtain ⟨rfl, rfl, rfl, hno⟩ : q = none ∧ cap = 0 ∧ xs = [] ∧ ∀ a, a < k → gb g a = 0 := by
       rcases hcase with h | ⟨b, rfl, _⟩
       · exact h
       · cases hc
     refine gS (gR ?_)
     refine gMv ?_
     refine GoH.callM _ rfl rfl rfl rfl rfl (fun _ _ => Tryd.call79 _ _) (fun w _ hS => cloneRow_c m.rows[k] w (hrow.ex0 hS.ext) (by omega)) ?_
     rintro v w1 w2 Y' hS he ho
     obtain ⟨q2, cap2, sp2, rfl, hq2, hcap2, hS'⟩ := gainO hS he ho
     obtain ⟨b2, rfl⟩ : ∃ b, q2 = some b := by
       cases q2 with
       | none => have := (hq2 rfl).1; omega
       | some b => exact ⟨b, rfl⟩
     refine ⟨_, hS', ?_⟩
     refine gAs ?_
     refine gE (GoH.exit rfl (gR ?_))
     refine GoH.v (Vop.bin rfl rfl rfl rfl (bAdd (by omega)) rfl) ?_
     refine gMv ?_
     refine gE ?_
     exact IH (k + 1, some b2, cap2, sp2, m.rows[k].xs) _ _ ⟨hlt, .inr ⟨b2, rfl, (joinV_first (by omega) hno hb1 hrd hrn hrv).symm, hcap2⟩⟩ (by dsimp only; omega) ⟨rfl, rfl, rfl, rfl, rfl, rfl, trivial⟩ (.cons_cons _ (.cons _ .slnil))
    ·
     obtain ⟨b, rfl, hxs, hcap⟩ : ∃ b, q = some b ∧ xs = joinTo n m.rel g k ∧ (xs.map U ++ sp).length = cap := by
       rcases hcase with ⟨rfl, _⟩ | h
       · cases hc
       · exact h
     have hxl : xs.length = n := by rw [hxs, joinV_len]
     refine gK (gS (gR ?_))
     refine gMv ?_
     refine gBl Tryd.underlying22 ?_
     refine gMv ?_
     refine gE (gB ?_)
     refine GoH.loop (σ := Nat) (fun j => [(1, .int .i64 g), (2, .func (.func 71) #[] #[]), (7, osv (some b) xs.length cap), (9, m.rows[k].v), (27, .slice m.ra m.rows.length m.rc), (28, .int .i64 m.rows.length), (29, .int .i64 k), (44, .int .i64 xs.length), (45, .int .i64 j)]) (fun j => [(some b, ob U 37 (flm (fun w x => x ||| m.rows[k].xs.getD w 0#64) xs j) sp)])
       (fun j => j ≤ xs.length) (fun j => xs.length - j) 0 (Nat.zero_le _) ⟨rfl, rfl, rfl, rfl, rfl, rfl, rfl, rfl, rfl, trivial⟩ (by rw [flm_zero]; exact List.Sublist.refl _) (fun j hj IH2 => ?_)
     refine gS (gR ?_)
     refine gBi bLt ?_
     refine gE (gS ?_)
     refine GoH.cond rfl (fun hc => ?_) (fun hc => ?_)
     ·
      have hjl : j < xs.length := by simpa using hc
      have hjr : j < m.rows[k].xs.length := by omega
      have hjf : j < (flm (fun w x => x ||| m.rows[k].xs.getD w 0#64) xs j).length := by rw [flm_length]; exact hjl
      refine gK (gS (gB (gS (gR ?_))))
      refine gMv ?_
      refine gAs ?_
      refine gE ?_
      refine GoH.draw 13 mixed rfl ?_
      iterate 5 refine rMv ?_
      refine RdGo.v (Vop.idxS rfl rfl rfl rfl rfl Tryd.underlying22 Tryd.sizeOf37 (j) ⟨rfl, hjl⟩) ?_
      refine RdGo.v (Vop.ldE U 0#64 rfl rfl rfl rfl Tryd.isAgg37 0 rfl hjf) ?_
      iterate 2 refine rMv ?_
      refine RdGo.v (Vop.idx rfl rfl rfl rfl rfl Tryd.underlying22 Tryd.sizeOf37 ⟨_, hrow.at_⟩ (by simp) (j) ⟨rfl, by simpa using hjr⟩) ?_
      refine RdGo.v (Vop.ld rfl rfl rfl rfl Tryd.isAgg37 (fun w _ hS => (SlU.ex0 hrow.at_ hS.ext).at (j) hjr)) ?_
      refine RdGo.callP rfl rfl rfl rfl rfl (fun _ _ => Tryd.call71 _ _) (fun w _ hS => join1_c _ _ w) ?_
      refine RdGo.v (Vop.idxS rfl rfl rfl rfl rfl Tryd.underlying22 Tryd.sizeOf37 (j) ⟨rfl, hjl⟩) ?_
      refine RdGo.nil ?_
      refine GoH.stE U _ rfl rfl rfl rfl Tryd.sizeOf37 rfl 0 rfl hjf ?_
      refine gE (gIb (gR ?_))
      refine GoH.v (Vop.bin rfl rfl rfl rfl (bAdd (by omega)) rfl) ?_
      refine gMv ?_
      refine gE ?_
      exact IH2 (j + 1) _ _ hjl (by omega) ⟨rfl, rfl, rfl, rfl, rfl, rfl, rfl, rfl, rfl, trivial⟩ (by rw [← flm_next hjl]; exact List.Sublist.refl _)
     ·
      have hge : ¬ j < xs.length := by simpa using hc
      obtain rfl : j = xs.length := by omega
      have hst : flm (fun w x => x ||| m.rows[k].xs.getD w 0#64) xs xs.length = joinTo n m.rel g (k + 1) := by rw [hxl, hxs]; exact joinV_step hb1 hrd
      refine GoH.exit rfl (gIb (gR ?_))
      refine GoH.v (Vop.bin rfl rfl rfl rfl (bAdd (by omega)) rfl) ?_
      refine gMv ?_
      refine gE ?_
      exact IH (k + 1, some b, cap, sp, flm (fun w x => x ||| m.rows[k].xs.getD w 0#64) xs xs.length) _ _ ⟨hlt, .inr ⟨b, rfl, hst, by rw [← hcap]; simp [flm_length]⟩⟩ (by dsimp only; omega) ⟨rfl, rfl, (by rw [flm_length]; rfl), rfl, rfl, rfl, trivial⟩ (List.Sublist.refl _)
  ·
   have hge : ¬ k < m.rows.length := by simpa using hc
   obtain rfl : k = m.rows.length := by omega
   obtain ⟨b, rfl, hxs, hcap⟩ : ∃ b, q = some b ∧ xs = joinTo n m.rel g m.rows.length ∧ (xs.map U ++ sp).length = cap := by
     rcases hcase with ⟨_, _, _, h⟩ | h
     · exact absurd h (gb_some hg.1 hg.2)
     · exact h
   obtain rfl : xs = joinL n m.rel g := by rw [hxs, joinL, hrl]
   refine GoH.exit rfl (gS (gR ?_))
   refine gMv ?_
   refine gAs ?_
   refine gE ?_
   refine GoH.ret Tryd.f69 Tryd.func69 rfl (fun w' hS => ?_)
   exact ⟨hS.ext, some b, cap, sp, rfl, (fun h => by cases h), hcap, fun b' hb => by cases hb; exact ⟨hS.fresh (j := 0) rfl, hS.get (j := 0) rfl⟩⟩
theorem groupM_c (m : MV) (n g : Nat) (w : World) (hm : m.At w) (hv : ValM m.n m.val m.rel) (hn : m.n = (n : Int)) (hg : 1 ≤ g ∧ g < 2 ^ m.rows.length) :
    Cn Tryd.prog 55 [m.v, .int .i64 g] w (fun v w' => Own w w' v (joinL n m.rel g)) := by
  refine Cn.of Tryd.func55 rfl rfl ?_
  refine gS (gR ?_)
  refine GoH.bx rfl rfl rfl rfl (fun b2 => ?_)
  refine gAs ?_
  refine gE (gS (gR ?_))
  refine GoH.v (Vop.ldB rfl rfl rfl rfl Tryd.isAgg25 0 rfl Tryd.sizeOf25 rfl) ?_
  refine gMv ?_
  refine GoH.callM _ rfl rfl rfl rfl rfl (fun _ _ => Tryd.call69 _ _) (fun w _ hS => gatherG_c m n g w (hm.ex0 hS.ext) hv hn hg) ?_
  rintro v w1 w2 Y' hS he ho
  obtain ⟨q, cap, sp, rfl, hq, hcap, hS'⟩ := gainO hS he ho
  refine ⟨_, hS', ?_⟩
  refine gAs ?_
  refine gE ?_
  refine GoH.ret Tryd.f55 Tryd.func55 rfl (fun w' hS => ?_)
  exact ⟨hS.ext, q, cap, sp, rfl, hq, hcap, fun b' hb => by subst hb; exact ⟨hS.fresh (j := 0) rfl, hS.get (j := 0) rfl⟩⟩
end Go.Proofs.YthojdcaojjmoaaaDoor
namespace Go.Proofs.YthojdcaojjmoaaaDoor
open Go.RowKit Go.Proofs.Wit
/-! the laws of chapter 15, 2 -/
theorem boxR_v {r : List W64} {s : W64} (hv : Val r) : boxR r s = boxU r s r.length := by rw [boxR, if_neg (by simp [check_zero.2 hv])]; rfl
theorem diaR_v {r : List W64} {s : W64} (hv : Val r) : diaR r s = diaU r s r.length := by rw [diaR, if_neg (by simp [check_zero.2 hv]), boxR_v hv]; exact dia_eq hv
theorem boxV_c (a : Option Addr) (ca : Nat) (r : List W64) (s : W64) (w : World) (ha : SlU w a r) (hv : Val r) : Cn Tryd.prog 52 [.slice a r.length ca, U s] w (fun v _ => v = U (boxU r s r.length)) := boxR_v (s := s) hv ▸ box_c a ca r s w ha (by have := hv.len; unfold maxLen; omega)
theorem diaV_c (a : Option Addr) (ca : Nat) (r : List W64) (s : W64) (w : World) (ha : SlU w a r) (hv : Val r) : Cn Tryd.prog 53 [.slice a r.length ca, U s] w (fun v _ => v = U (diaU r s r.length)) := diaR_v (s := s) hv ▸ diamond_c a ca r s w ha (by have := hv.len; unfold maxLen; omega)
end Go.Proofs.YthojdcaojjmoaaaDoor
