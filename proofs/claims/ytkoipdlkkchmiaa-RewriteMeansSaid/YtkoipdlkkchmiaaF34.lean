/- What calls of the program return, under the conditions that each theorem states. -/
import Derived.Test.YtkoipdlkkchmiaaF19
import Derived.Test.YtkoipdlkkchmiaaF14
import Derived.Test.YtkoipdlkkchmiaaF03
import Derived.Test.YtkoipdlkkchmiaaF33
import Derived.Test.YtkoipdlkkchmiaaF29
import Derived.Test.YtkoipdlkkchmiaaF26
import Derived.Test.YtkoipdlkkchmiaaF32
namespace Go.Proofs.Ytkoipdlkkchmiaa
open Go.RowKit Go.Proofs.Wit
/-! the reference's masks, and which formulas fit -/
theorem rfew_c (a : Option Addr) (ca : Nat) (f : List NV) (x : Int) (w : World) : Cn Try.prog 10 [.slice a f.length ca, .int .i64 x] w (fun v _ => v = .bool (decide ((f.length : Int) ≤ x))) := by
  refine Cn.of Try.func10 rfl rfl ?_
  refine gS (gR ?_)
  refine gAs ?_
  refine gE (gS (gR ?_))
  refine gMv ?_
  refine gBl Try.underlying22 ?_
  refine gMv ?_
  refine gBi bLe ?_
  refine gAs ?_
  refine gE ?_
  refine GoH.ret Try.f10 Try.func10 rfl (fun w' hS => ?_)
  exact ⟨hS.ext, rfl⟩
theorem shl_frO {op : Int} (h : 11 ≤ op ∧ op ≤ 17) : ∃ j : Nat, op - 11 + 1 = j ∧ j ≤ 7 ∧ frO op = ((1 * 2 ^ j : Nat) : Int) := by
  refine ⟨(op - 10).toNat, by omega, by omega, ?_⟩
  have : op = 11 ∨ op = 12 ∨ op = 13 ∨ op = 14 ∨ op = 15 ∨ op = 16 ∨ op = 17 := by omega
  rcases this with rfl | rfl | rfl | rfl | rfl | rfl | rfl <;> rfl
theorem rfrag_c (op : Int) (w : World) (ho : 1 ≤ op ∧ op ≤ 21) : Cn Try.prog 67 [.int .i64 op] w (fun v _ => v = .int .i64 (frO op)) := by
  refine Cn.of Try.func67 rfl rfl ?_
  refine gS (gR ?_)
  refine gAs ?_
  refine gE (gS (gS (gR ?_)))
  refine gMv ?_
  refine gBi bEq ?_
  refine gMv ?_
  refine GoH.cases (d := 5) rfl (fun hc => ?_) (fun hc => ?_)
  ·
   have h9 : op = 9 := by simpa using hc
   iterate 2 refine gNo ?_
   refine gPt ?_
   refine gE (GoH.condT rfl (gS (gR ?_)))
   refine gAs ?_
   refine gE ?_
   refine GoH.ret Try.f67 Try.func67 rfl (fun w' hS => ?_)
   exact ⟨hS.ext, by subst h9; rfl⟩
  ·
   have h9 : op ≠ 9 := by simpa using hc
   refine gMv ?_
   refine gBi bEq ?_
   refine gPf ?_
   refine gE ?_
   refine GoH.cond rfl (fun hc => ?_) (fun hc => ?_)
   ·
    have h10 : op = 10 := by simpa using hc
    refine gS (gR ?_)
    refine gAs ?_
    refine gE ?_
    refine GoH.ret Try.f67 Try.func67 rfl (fun w' hS => ?_)
    exact ⟨hS.ext, by subst h10; rfl⟩
   ·
    have h10 : op ≠ 10 := by simpa using hc
    refine gK (gS (gS (gR ?_)))
    refine gMv ?_
    refine gBi bGe ?_
    refine gMv ?_
    refine GoH.cases (d := 11) rfl (fun hc => ?_) (fun hc => ?_)
    ·
     have h11 : 11 ≤ op := by simpa using hc
     refine gMv ?_
     refine gBi bLe ?_
     refine gPt ?_
     refine gE ?_
     refine GoH.cond rfl (fun hc => ?_) (fun hc => ?_)
     ·
      have h17 : op ≤ 17 := by simpa using hc
      obtain ⟨j, hj, hj7, hfr⟩ := shl_frO ⟨h11, h17⟩
      refine gS (gR ?_)
      refine gMv ?_
      refine GoH.v (Vop.bin rfl rfl rfl rfl (bSub (by omega)) rfl) ?_
      refine GoH.v (Vop.bin rfl rfl rfl rfl (bAdd (by omega)) rfl) ?_
      refine GoH.v (Vop.bin rfl rfl rfl rfl (bShlN (x := 1) (j := j) hj (by have := Nat.pow_le_pow_right (n := 2) (by decide) hj7; omega) (by omega)) rfl) ?_
      refine gAs ?_
      refine gE ?_
      refine GoH.ret Try.f67 Try.func67 rfl (fun w' hS => ?_)
      exact ⟨hS.ext, by rw [hfr]; rfl⟩
     ·
      have h17 : ¬ op ≤ 17 := by simpa using hc
      refine gK (gS (gS (gR ?_)))
      refine gMv ?_
      refine gBi bGe ?_
      refine gE ?_
      refine GoH.cond rfl (fun hc => ?_) (fun hc => ?_)
      ·
       refine gS (gR ?_)
       refine gAs ?_
       refine gE ?_
       refine GoH.ret Try.f67 Try.func67 rfl (fun w' hS => ?_)
       refine ⟨hS.ext, ?_⟩
       have : op = 18 ∨ op = 19 ∨ op = 20 ∨ op = 21 := by omega
       rcases this with rfl | rfl | rfl | rfl <;> rfl
      ·
       have : ¬ 18 ≤ op := by simpa using hc
       refine gK (gS (gR ?_))
       refine gAs ?_
       refine gE ?_
       refine GoH.ret Try.f67 Try.func67 rfl (fun w' hS => ?_)
       exact absurd ho (by omega)
    ·
     have h11 : ¬ 11 ≤ op := by simpa using hc
     iterate 2 refine gNo ?_
     refine gPf ?_
     refine gE (GoH.condF rfl (gK (gS (gS (gR ?_)))))
     refine gMv ?_
     refine gBi bGe ?_
     refine gE ?_
     refine GoH.cond rfl (fun hc => ?_) (fun hc => ?_)
     ·
      have : 18 ≤ op := by simpa using hc
      refine gS (gR ?_)
      refine gAs ?_
      refine gE ?_
      refine GoH.ret Try.f67 Try.func67 rfl (fun w' hS => ?_)
      exact absurd this (by omega)
     ·
      refine gK (gS (gR ?_))
      refine gAs ?_
      refine gE ?_
      refine GoH.ret Try.f67 Try.func67 rfl (fun w' hS => ?_)
      refine ⟨hS.ext, ?_⟩
      have : op = 1 ∨ op = 2 ∨ op = 3 ∨ op = 4 ∨ op = 5 ∨ op = 6 ∨ op = 7 ∨ op = 8 := by omega
      rcases this with rfl | rfl | rfl | rfl | rfl | rfl | rfl | rfl <;> rfl
theorem compF_nodes (f : List NV) : NodesOk (compF f) := by
  by_cases h : chkF f = 0
  · exact (compF_ok h).nodes
  · rw [compF, if_pos h]; intro i hi; exact absurd hi (Nat.not_lt_zero _)
set_option maxRecDepth 4000 in
theorem rfrags_c (a : Option Addr) (ca : Nat) (f : List NV) (w : World) (ha : FA w a f) (hl : f.length ≤ maxLen) : Cn Try.prog 30 [.slice a f.length ca] w (fun v _ => v = .int .i64 (frgL (compF f))) := by
  have hcl := compF_le f
  have hno := (compF_nodes f).opm
  refine Cn.of Try.func30 rfl rfl ?_
  refine gS (gR ?_)
  refine gAs ?_
  refine gE (gS (gR ?_))
  refine gMv ?_
  refine GoH.callM _ rfl rfl rfl rfl rfl (fun _ _ => Try.call19 _ _) (fun w _ hS => rcompact_c a ca f w (ha.ex0 hS.ext) hl) ?_
  rintro v w1 w2 Y' hS he ho
  rw [subF_top] at ho
  obtain ⟨q, cap, sp, rfl, hq, hcap, hS'⟩ := gainN hS he ho
  refine ⟨_, hS', ?_⟩
  refine gAs ?_
  refine gE (gS (gR ?_))
  refine gAs ?_
  refine gE (gS (gS (gR ?_)))
  refine gAs ?_
  refine gE (gB ?_)
  refine GoH.loop (σ := Nat) (fun k => [(3, osv q (compF f).length cap), (4, .int .i64 (frgL ((compF f).take k))), (5, .int .i64 k)]) (fun _ => [(q, obN 49 (compF f) sp)]) (fun k => k ≤ (compF f).length) (fun k => (compF f).length - k) 0 (Nat.zero_le _) ⟨rfl, rfl, rfl, trivial⟩ (List.Sublist.refl _) (fun k hk IH => ?_)
  refine gS (gS (gR ?_))
  iterate 2 refine gMv ?_
  refine gBl Try.underlying22 ?_
  refine gBi bLt ?_
  refine gE ?_
  refine GoH.cond rfl (fun hc => ?_) (fun hc => ?_)
  ·
   have hm : k < (compF f).length := by simpa using hc
   obtain ⟨b, rfl⟩ : ∃ b, q = some b := by
     cases q with
     | none => have := (hq rfl).1; omega
     | some b => exact ⟨b, rfl⟩
   have h1 := frgL_lt ((compF f).take k)
   have h2 := frN_lt (compF f)[k]
   have h3 := frN_eq (compF f)[k]
   have h4 := hno _ (List.getElem_mem hm)
   have ht : frgL ((compF f).take (k + 1)) = frgL ((compF f).take k) ||| frN (compF f)[k] := by rw [List.take_succ_eq_append_getElem hm, frgL_snoc]
   refine gK (gS (gB (gR ?_)))
   iterate 3 refine gMv ?_
   refine GoH.v (Vop.idxS rfl rfl rfl rfl rfl Try.underlying22 Try.sizeOf49 (k) ⟨rfl, hm⟩) ?_
   refine GoH.v (Vop.fldA (a := some ⟨b, 0, none⟩) (o := (k) * 6) rfl rfl rfl rfl Try.underlying49 rfl Try.sizeOf3 ((k) * 6 + 0) rfl) ?_
   refine GoH.v (Vop.ld rfl rfl rfl rfl Try.isAgg3 (fun w _ hS => Sl.fld (enc := NV.cells) (sz := 6) (a := some ⟨b, 0, none⟩) (Sl.blk (hS.get (j := 0) rfl)) (fun _ => rfl) hm rfl)) ?_
   refine GoH.callP rfl rfl rfl rfl rfl (fun _ _ => Try.call67 _ _) (fun w _ hS => (by have := rfrag_c (compF f)[k].op w h4; rw [← h3] at this; exact this)) ?_
   refine GoH.v (Vop.bin rfl rfl rfl rfl (bOrI h1 h2 ht) rfl) ?_
   refine gAs ?_
   refine gE (gIb (gR ?_))
   refine gMv ?_
   refine GoH.v (Vop.bin rfl rfl rfl rfl (bAdd (by omega)) rfl) ?_
   refine gAs ?_
   refine gE ?_
   exact IH (k + 1) _ _ hm (by omega) ⟨rfl, rfl, rfl, trivial⟩ (List.Sublist.refl _)
  ·
   have hge : ¬ k < (compF f).length := by simpa using hc
   obtain rfl : k = (compF f).length := by omega
   rw [List.take_length]
   refine GoH.exit rfl (gS (gR ?_))
   refine gMv ?_
   refine gAs ?_
   refine gE ?_
   refine GoH.ret Try.f30 Try.func30 rfl (fun w' hS => ?_)
   exact ⟨hS.ext, rfl⟩
set_option maxRecDepth 4000 in
theorem rfacts05_c (a : Option Addr) (ca : Nat) (f : List NV) (w : World) (ha : FA w a f) (hl : f.length ≤ maxLen) : Cn Try.prog 66 [.slice a f.length ca] w (fun v _ => v = .int .i64 (orL ftN (compF f))) := by
  have hcl := compF_le f
  have hno := (compF_nodes f).fld
  refine Cn.of Try.func66 rfl rfl ?_
  refine gS (gR ?_)
  refine gAs ?_
  refine gE (gS (gR ?_))
  refine gMv ?_
  refine GoH.callM _ rfl rfl rfl rfl rfl (fun _ _ => Try.call19 _ _) (fun w _ hS => rcompact_c a ca f w (ha.ex0 hS.ext) hl) ?_
  rintro v w1 w2 Y' hS he ho
  rw [subF_top] at ho
  obtain ⟨q, cap, sp, rfl, hq, hcap, hS'⟩ := gainN hS he ho
  refine ⟨_, hS', ?_⟩
  refine gAs ?_
  refine gE (gS (gR ?_))
  refine gAs ?_
  refine gE (gS (gS (gR ?_)))
  refine gAs ?_
  refine gE (gB ?_)
  refine GoH.loop (σ := Nat) (fun k => [(3, osv q (compF f).length cap), (4, .int .i64 (orL ftN ((compF f).take k))), (5, .int .i64 k)]) (fun _ => [(q, obN 49 (compF f) sp)]) (fun k => k ≤ (compF f).length) (fun k => (compF f).length - k) 0 (Nat.zero_le _) ⟨rfl, rfl, rfl, trivial⟩ (List.Sublist.refl _) (fun k hk IH => ?_)
  refine gS (gS (gR ?_))
  iterate 2 refine gMv ?_
  refine gBl Try.underlying22 ?_
  refine gBi bLt ?_
  refine gE ?_
  refine GoH.cond rfl (fun hc => ?_) (fun hc => ?_)
  ·
   have hm : k < (compF f).length := by simpa using hc
   obtain ⟨b, rfl⟩ : ∃ b, q = some b := by
     cases q with
     | none => have := (hq rfl).1; omega
     | some b => exact ⟨b, rfl⟩
   have h1 : orL ftN ((compF f).take k) < 2 ^ 8 := orL_lt (fun n hn => ftN_lt (hno n (List.mem_of_mem_take hn)))
   have h2 := ftN_lt (hno _ (List.getElem_mem hm))
   have hf := (hno _ (List.getElem_mem hm)).fact
   have ht := orL_take (h := ftN) hm
   refine gK (gS (gB (gS (gR ?_))))
   iterate 2 refine gMv ?_
   refine GoH.v (Vop.idxS rfl rfl rfl rfl rfl Try.underlying22 Try.sizeOf49 (k) ⟨rfl, hm⟩) ?_
   refine GoH.v (Vop.fldA (a := some ⟨b, 0, none⟩) (o := (k) * 6) rfl rfl rfl rfl Try.underlying49 rfl Try.sizeOf3 ((k) * 6 + 0) rfl) ?_
   refine GoH.v (Vop.ld rfl rfl rfl rfl Try.isAgg3 (fun w _ hS => Sl.fld (enc := NV.cells) (sz := 6) (a := some ⟨b, 0, none⟩) (Sl.blk (hS.get (j := 0) rfl)) (fun _ => rfl) hm rfl)) ?_
   refine gBi bEq ?_
   refine gE ?_
   refine GoH.cond rfl (fun hc => ?_) (fun hc => ?_)
   ·
    have h3 : (compF f)[k].op = 3 := by simpa using hc
    have hft : ftN (compF f)[k] = 1 * 2 ^ (compF f)[k].i.toNat := by rw [ftN, if_pos h3, Nat.one_mul]
    have hi8 := hf h3
    rw [hft] at h2
    refine gR ?_
    iterate 3 refine gMv ?_
    refine GoH.v (Vop.idxS rfl rfl rfl rfl rfl Try.underlying22 Try.sizeOf49 (k) ⟨rfl, hm⟩) ?_
    refine GoH.v (Vop.fldA (a := some ⟨b, 0, none⟩) (o := (k) * 6) rfl rfl rfl rfl Try.underlying49 rfl Try.sizeOf3 ((k) * 6 + 1) rfl) ?_
    refine GoH.v (Vop.ld rfl rfl rfl rfl Try.isAgg3 (fun w _ hS => Sl.fld (enc := NV.cells) (sz := 6) (a := some ⟨b, 0, none⟩) (Sl.blk (hS.get (j := 0) rfl)) (fun _ => rfl) hm rfl)) ?_
    refine GoH.v (Vop.bin rfl rfl rfl rfl (bShlN (x := 1) (j := (compF f)[k].i.toNat) (by omega) (by omega) (by omega)) rfl) ?_
    refine GoH.v (Vop.bin rfl rfl rfl rfl (bOrI (c := orL ftN ((compF f).take (k + 1))) (by omega) (by omega) (by rw [ht, hft])) rfl) ?_
    refine gAs ?_
    refine gE (gIb (gR ?_))
    refine gMv ?_
    refine GoH.v (Vop.bin rfl rfl rfl rfl (bAdd (by omega)) rfl) ?_
    refine gAs ?_
    refine gE ?_
    exact IH (k + 1) _ _ hm (by omega) ⟨rfl, rfl, rfl, trivial⟩ (List.Sublist.refl _)
   ·
    have h3 : (compF f)[k].op ≠ 3 := by simpa using hc
    have ht2 : orL ftN ((compF f).take (k + 1)) = orL ftN ((compF f).take k) := by rw [ht, ftN, if_neg h3, Nat.or_zero]
    refine gK (gIb (gR ?_))
    refine gMv ?_
    refine GoH.v (Vop.bin rfl rfl rfl rfl (bAdd (by omega)) rfl) ?_
    refine gAs ?_
    refine gE ?_
    exact IH (k + 1) _ _ hm (by omega) ⟨rfl, (by rw [ht2]; rfl), rfl, trivial⟩ (List.Sublist.refl _)
  ·
   have hge : ¬ k < (compF f).length := by simpa using hc
   obtain rfl : k = (compF f).length := by omega
   rw [List.take_length]
   refine GoH.exit rfl (gS (gR ?_))
   refine gMv ?_
   refine gAs ?_
   refine gE ?_
   refine GoH.ret Try.f66 Try.func66 rfl (fun w' hS => ?_)
   exact ⟨hS.ext, rfl⟩
set_option maxRecDepth 4000 in
theorem ragents_c (a : Option Addr) (ca : Nat) (f : List NV) (w : World) (ha : FA w a f) (hl : f.length ≤ maxLen) : Cn Try.prog 65 [.slice a f.length ca] w (fun v _ => v = .int .i64 (orL agN (compF f))) := by
  have hcl := compF_le f
  have hno := (compF_nodes f).fld
  refine Cn.of Try.func65 rfl rfl ?_
  refine gS (gR ?_)
  refine gAs ?_
  refine gE (gS (gR ?_))
  refine gMv ?_
  refine GoH.callM _ rfl rfl rfl rfl rfl (fun _ _ => Try.call19 _ _) (fun w _ hS => rcompact_c a ca f w (ha.ex0 hS.ext) hl) ?_
  rintro v w1 w2 Y' hS he ho
  rw [subF_top] at ho
  obtain ⟨q, cap, sp, rfl, hq, hcap, hS'⟩ := gainN hS he ho
  refine ⟨_, hS', ?_⟩
  refine gAs ?_
  refine gE (gS (gR ?_))
  refine gAs ?_
  refine gE (gS (gS (gR ?_)))
  refine gAs ?_
  refine gE (gB ?_)
  refine GoH.loop (σ := Nat) (fun k => [(3, osv q (compF f).length cap), (4, .int .i64 (orL agN ((compF f).take k))), (5, .int .i64 k)]) (fun _ => [(q, obN 49 (compF f) sp)]) (fun k => k ≤ (compF f).length) (fun k => (compF f).length - k) 0 (Nat.zero_le _) ⟨rfl, rfl, rfl, trivial⟩ (List.Sublist.refl _) (fun k hk IH => ?_)
  refine gS (gS (gR ?_))
  iterate 2 refine gMv ?_
  refine gBl Try.underlying22 ?_
  refine gBi bLt ?_
  refine gE ?_
  refine GoH.cond rfl (fun hc => ?_) (fun hc => ?_)
  ·
   have hm : k < (compF f).length := by simpa using hc
   obtain ⟨b, rfl⟩ : ∃ b, q = some b := by
     cases q with
     | none => have := (hq rfl).1; omega
     | some b => exact ⟨b, rfl⟩
   have h1 : orL agN ((compF f).take k) < 2 ^ 4 := orL_lt (fun n hn => agN_lt (hno n (List.mem_of_mem_take hn)))
   have hg := g_lt (hno _ (List.getElem_mem hm))
   have hg0 : 0 ≤ (compF f)[k].g := by
     cases e : grO (compF f)[k].op with
     | false => have := (hno _ (List.getElem_mem hm)).g0 e; omega
     | true => have := (hno _ (List.getElem_mem hm)).gr e; omega
   have hgn : (((compF f)[k].g.toNat : Nat) : Int) = (compF f)[k].g := Int.toNat_of_nonneg hg0
   have hag := (hno _ (List.getElem_mem hm)).ag
   have ht := orL_take (h := agN) hm
   have hag2 : ∀ x : Nat, x < 2 ^ 4 → x ||| (compF f)[k].g.toNat < 2 ^ 4 := fun x hx => Nat.or_lt_two_pow hx hg
   refine gK (gS (gB (gS (gS (gR ?_)))))
   iterate 2 refine gMv ?_
   refine GoH.v (Vop.idxS rfl rfl rfl rfl rfl Try.underlying22 Try.sizeOf49 (k) ⟨rfl, hm⟩) ?_
   refine GoH.v (Vop.fldA (a := some ⟨b, 0, none⟩) (o := (k) * 6) rfl rfl rfl rfl Try.underlying49 rfl Try.sizeOf3 ((k) * 6 + 0) rfl) ?_
   refine GoH.v (Vop.ld rfl rfl rfl rfl Try.isAgg3 (fun w _ hS => Sl.fld (enc := NV.cells) (sz := 6) (a := some ⟨b, 0, none⟩) (Sl.blk (hS.get (j := 0) rfl)) (fun _ => rfl) hm rfl)) ?_
   refine GoH.callP rfl rfl rfl rfl rfl (fun _ _ => Try.call106 _ _) (fun w _ hS => (by exact agent_c (compF f)[k].op w)) ?_
   refine gE ?_
   refine GoH.cond rfl (fun hc => ?_) (fun hc => ?_)
   ·
    have h3 := hag hc
    have h2 : 2 ^ (compF f)[k].i.toNat < 2 ^ 4 := Nat.pow_lt_pow_right (by decide) (by omega)
    have hor : orL agN ((compF f).take k) ||| 1 * 2 ^ (compF f)[k].i.toNat < 2 ^ 4 := Nat.or_lt_two_pow h1 (by omega)
    refine gR ?_
    iterate 3 refine gMv ?_
    refine GoH.v (Vop.idxS rfl rfl rfl rfl rfl Try.underlying22 Try.sizeOf49 (k) ⟨rfl, hm⟩) ?_
    refine GoH.v (Vop.fldA (a := some ⟨b, 0, none⟩) (o := (k) * 6) rfl rfl rfl rfl Try.underlying49 rfl Try.sizeOf3 ((k) * 6 + 1) rfl) ?_
    refine GoH.v (Vop.ld rfl rfl rfl rfl Try.isAgg3 (fun w _ hS => Sl.fld (enc := NV.cells) (sz := 6) (a := some ⟨b, 0, none⟩) (Sl.blk (hS.get (j := 0) rfl)) (fun _ => rfl) hm rfl)) ?_
    refine GoH.v (Vop.bin rfl rfl rfl rfl (bShlN (x := 1) (j := (compF f)[k].i.toNat) (by omega) (by omega) (by omega)) rfl) ?_
    refine GoH.v (Vop.bin rfl rfl rfl rfl (bOrI (c := orL agN ((compF f).take k) ||| 1 * 2 ^ (compF f)[k].i.toNat) (by omega) (by omega) rfl) rfl) ?_
    refine gAs ?_
    refine gE (gR ?_)
    iterate 3 refine gMv ?_
    refine GoH.v (Vop.idxS rfl rfl rfl rfl rfl Try.underlying22 Try.sizeOf49 (k) ⟨rfl, hm⟩) ?_
    refine GoH.v (Vop.fldA (a := some ⟨b, 0, none⟩) (o := (k) * 6) rfl rfl rfl rfl Try.underlying49 rfl Try.sizeOf3 ((k) * 6 + 3) rfl) ?_
    refine GoH.v (Vop.ld rfl rfl rfl rfl Try.isAgg3 (fun w _ hS => Sl.fld (enc := NV.cells) (sz := 6) (a := some ⟨b, 0, none⟩) (Sl.blk (hS.get (j := 0) rfl)) (fun _ => rfl) hm rfl)) ?_
    refine GoH.v (Vop.bin rfl rfl rfl rfl (by have := bOrI (P := Try.prog) (t := 3) (a := orL agN ((compF f).take k) ||| 1 * 2 ^ (compF f)[k].i.toNat) (b := (compF f)[k].g.toNat) (c := orL agN ((compF f).take (k + 1))) (by omega) (by omega) (by rw [ht, agN, if_pos hc, Nat.one_mul, Nat.or_assoc]); rw [hgn] at this; exact this) rfl) ?_
    refine gAs ?_
    refine gE (gIb (gR ?_))
    refine gMv ?_
    refine GoH.v (Vop.bin rfl rfl rfl rfl (bAdd (by omega)) rfl) ?_
    refine gAs ?_
    refine gE ?_
    exact IH (k + 1) _ _ hm (by omega) ⟨rfl, rfl, rfl, trivial⟩ (List.Sublist.refl _)
   ·
    refine gK (gR ?_)
    iterate 3 refine gMv ?_
    refine GoH.v (Vop.idxS rfl rfl rfl rfl rfl Try.underlying22 Try.sizeOf49 (k) ⟨rfl, hm⟩) ?_
    refine GoH.v (Vop.fldA (a := some ⟨b, 0, none⟩) (o := (k) * 6) rfl rfl rfl rfl Try.underlying49 rfl Try.sizeOf3 ((k) * 6 + 3) rfl) ?_
    refine GoH.v (Vop.ld rfl rfl rfl rfl Try.isAgg3 (fun w _ hS => Sl.fld (enc := NV.cells) (sz := 6) (a := some ⟨b, 0, none⟩) (Sl.blk (hS.get (j := 0) rfl)) (fun _ => rfl) hm rfl)) ?_
    refine GoH.v (Vop.bin rfl rfl rfl rfl (by have := bOrI (P := Try.prog) (t := 3) (a := orL agN ((compF f).take k)) (b := (compF f)[k].g.toNat) (c := orL agN ((compF f).take (k + 1))) (by omega) (by omega) (by rw [ht, agN, if_neg (by rw [hc]; simp), Nat.zero_or]); rw [hgn] at this; exact this) rfl) ?_
    refine gAs ?_
    refine gE (gIb (gR ?_))
    refine gMv ?_
    refine GoH.v (Vop.bin rfl rfl rfl rfl (bAdd (by omega)) rfl) ?_
    refine gAs ?_
    refine gE ?_
    exact IH (k + 1) _ _ hm (by omega) ⟨rfl, rfl, rfl, trivial⟩ (List.Sublist.refl _)
  ·
   have hge : ¬ k < (compF f).length := by simpa using hc
   obtain rfl : k = (compF f).length := by omega
   rw [List.take_length]
   refine GoH.exit rfl (gS (gR ?_))
   refine gMv ?_
   refine gAs ?_
   refine gE ?_
   refine GoH.ret Try.f65 Try.func65 rfl (fun w' hS => ?_)
   exact ⟨hS.ext, rfl⟩
set_option maxRecDepth 4000 in
theorem rfitsF_c (a : Option Addr) (ca : Nat) (f : List NV) (A B : Nat) (w : World) (ha : FA w a f) (hl : f.length ≤ maxLen) : Cn Try.prog 29 [.slice a f.length ca, .int .i64 A, .int .i64 B] w (fun v _ => v = .bool (fitB f A B)) := by
  have hno := (compF_nodes f).fld
  have h1 : orL agN (compF f) < 2 ^ 4 := orL_lt (fun n hn => agN_lt (hno n hn))
  have h2 : orL ftN (compF f) < 2 ^ 8 := orL_lt (fun n hn => ftN_lt (hno n hn))
  refine Cn.of Try.func29 rfl rfl ?_
  refine gS (gR ?_)
  refine gAs ?_
  refine gE (gS (gS (gR ?_)))
  refine gMv ?_
  refine GoH.callP rfl rfl rfl rfl rfl (fun _ _ => Try.call17 _ _) (fun w _ hS => (by exact rchk_c a ca f w (ha.ex0 hS.ext) hl)) ?_
  refine gBi bNe ?_
  refine gE ?_
  refine GoH.cond rfl (fun hc => ?_) (fun hc => ?_)
  ·
   have h0 : chkF f ≠ 0 := by simpa using hc
   refine gS (gR ?_)
   refine gAs ?_
   refine gE ?_
   refine GoH.ret Try.f29 Try.func29 rfl (fun w' hS => ?_)
   exact ⟨hS.ext, by rw [fitB, show (chkF f == 0) = false by simpa using h0]; rfl⟩
  ·
   have h0 : chkF f = 0 := by simpa using hc
   refine gK (gS (gS (gR ?_)))
   refine gAs ?_
   refine gE (gB ?_)
   refine GoH.loop (σ := Nat) (fun k => [(0, .slice a f.length ca), (1, .int .i64 A), (2, .int .i64 B), (7, .int .i64 k)]) (fun _ => []) (fun k => k ≤ 4 ∧ ∀ i, i < k → gb (orL agN (compF f)) i = 1 → i < A) (fun k => 4 - k) 0 ⟨Nat.zero_le _, fun i hi => absurd hi (Nat.not_lt_zero _)⟩ ⟨rfl, rfl, rfl, rfl, trivial⟩ .slnil (fun k hI IH => ?_)
   obtain ⟨hk, hall⟩ := hI
   refine gS (gS (gR ?_))
   refine gMv ?_
   refine gBi bLt ?_
   refine gE ?_
   refine GoH.cond rfl (fun hc => ?_) (fun hc => ?_)
   ·
    have hm : k < 4 := by simp at hc; omega
    refine gK (gS (gB (gS (gR ?_))))
    refine gMv ?_
    refine GoH.callP rfl rfl rfl rfl rfl (fun _ _ => Try.call65 _ _) (fun w _ hS => (by exact ragents_c a ca f w (ha.ex0 hS.ext) hl)) ?_
    refine gMv ?_
    refine GoH.v (Vop.bin rfl rfl rfl rfl (bShrN (j := k) rfl (by omega) (by omega)) rfl) ?_
    refine GoH.v (Vop.bin rfl rfl rfl rfl bRem2N rfl) ?_
    refine gBi bEq ?_
    refine gMv ?_
    refine GoH.cases (d := 22) rfl (fun hc => ?_) (fun hc => ?_)
    ·
     have hb1 : gb (orL agN (compF f)) k = 1 := Int.ofNat_inj.1 (show ((gb (orL agN (compF f)) k : Nat) : Int) = ((1 : Nat) : Int) from beq_iff_eq.1 hc)
     iterate 2 refine gMv ?_
     refine gBi bGe ?_
     refine gPt ?_
     refine gE ?_
     refine GoH.cond rfl (fun hc => ?_) (fun hc => ?_)
     ·
      have hge : ¬ k < A := by simp at hc; omega
      refine gS (gR ?_)
      refine gAs ?_
      refine gE ?_
      refine GoH.ret Try.f29 Try.func29 rfl (fun w' hS => ?_)
      exact ⟨hS.ext, by rw [fitB, okM_false hm hb1 hge, Bool.false_and, Bool.and_false]; rfl⟩
     ·
      have hlt : k < A := by simp at hc; omega
      refine gK (gIb (gR ?_))
      refine gMv ?_
      refine GoH.v (Vop.bin rfl rfl rfl rfl (bAdd (by omega)) rfl) ?_
      refine gAs ?_
      refine gE ?_
      exact IH (k + 1) _ _ ⟨by omega, fun i hi hb => by rcases Nat.lt_succ_iff_lt_or_eq.1 hi with h | rfl; exact hall i h hb; exact hlt⟩ (by omega) ⟨rfl, rfl, rfl, rfl, trivial⟩ .slnil
    ·
     have hb0 : gb (orL agN (compF f)) k ≠ 1 := fun h => by
       have h3 : ((gb (orL agN (compF f)) k : Nat) : Int) ≠ 1 := beq_eq_false_iff_ne.1 hc
       omega
     iterate 3 refine gNo ?_
     refine gPf ?_
     refine gE (GoH.condF rfl (gK (gIb (gR ?_))))
     refine gMv ?_
     refine GoH.v (Vop.bin rfl rfl rfl rfl (bAdd (by omega)) rfl) ?_
     refine gAs ?_
     refine gE ?_
     exact IH (k + 1) _ _ ⟨by omega, fun i hi hb => by rcases Nat.lt_succ_iff_lt_or_eq.1 hi with h | rfl; exact hall i h hb; exact absurd hb hb0⟩ (by omega) ⟨rfl, rfl, rfl, rfl, trivial⟩ .slnil
   ·
    have hge : ¬ k < 4 := by simp at hc; omega
    obtain rfl : k = 4 := by omega
    have hA := okM_all hall
    refine GoH.exit rfl (gS (gS (gR ?_)))
    refine gAs ?_
    refine gE (gB ?_)
    refine GoH.loop (σ := Nat) (fun k => [(0, .slice a f.length ca), (1, .int .i64 A), (2, .int .i64 B), (8, .int .i64 k)]) (fun _ => []) (fun k => k ≤ 8 ∧ ∀ i, i < k → gb (orL ftN (compF f)) i = 1 → i < B) (fun k => 8 - k) 0 ⟨Nat.zero_le _, fun i hi => absurd hi (Nat.not_lt_zero _)⟩ ⟨rfl, rfl, rfl, rfl, trivial⟩ .slnil (fun k hI IH => ?_)
    obtain ⟨hk, hall⟩ := hI
    refine gS (gS (gR ?_))
    refine gMv ?_
    refine gBi bLt ?_
    refine gE ?_
    refine GoH.cond rfl (fun hc => ?_) (fun hc => ?_)
    ·
     have hm : k < 8 := by simp at hc; omega
     refine gK (gS (gB (gS (gR ?_))))
     refine gMv ?_
     refine GoH.callP rfl rfl rfl rfl rfl (fun _ _ => Try.call66 _ _) (fun w _ hS => (by exact rfacts05_c a ca f w (ha.ex0 hS.ext) hl)) ?_
     refine gMv ?_
     refine GoH.v (Vop.bin rfl rfl rfl rfl (bShrN (j := k) rfl (by omega) (by omega)) rfl) ?_
     refine GoH.v (Vop.bin rfl rfl rfl rfl bRem2N rfl) ?_
     refine gBi bEq ?_
     refine gMv ?_
     refine GoH.cases (d := 37) rfl (fun hc => ?_) (fun hc => ?_)
     ·
      have hb1 : gb (orL ftN (compF f)) k = 1 := Int.ofNat_inj.1 (show ((gb (orL ftN (compF f)) k : Nat) : Int) = ((1 : Nat) : Int) from beq_iff_eq.1 hc)
      iterate 2 refine gMv ?_
      refine gBi bGe ?_
      refine gPt ?_
      refine gE ?_
      refine GoH.cond rfl (fun hc => ?_) (fun hc => ?_)
      ·
       have hge : ¬ k < B := by simp at hc; omega
       refine gS (gR ?_)
       refine gAs ?_
       refine gE ?_
       refine GoH.ret Try.f29 Try.func29 rfl (fun w' hS => ?_)
       exact ⟨hS.ext, by rw [fitB, okM_false hm hb1 hge, Bool.and_false, Bool.and_false]; rfl⟩
      ·
       have hlt : k < B := by simp at hc; omega
       refine gK (gIb (gR ?_))
       refine gMv ?_
       refine GoH.v (Vop.bin rfl rfl rfl rfl (bAdd (by omega)) rfl) ?_
       refine gAs ?_
       refine gE ?_
       exact IH (k + 1) _ _ ⟨by omega, fun i hi hb => by rcases Nat.lt_succ_iff_lt_or_eq.1 hi with h | rfl; exact hall i h hb; exact hlt⟩ (by omega) ⟨rfl, rfl, rfl, rfl, trivial⟩ .slnil
     ·
      have hb0 : gb (orL ftN (compF f)) k ≠ 1 := fun h => by
        have h3 : ((gb (orL ftN (compF f)) k : Nat) : Int) ≠ 1 := beq_eq_false_iff_ne.1 hc
        omega
      iterate 3 refine gNo ?_
      refine gPf ?_
      refine gE (GoH.condF rfl (gK (gIb (gR ?_))))
      refine gMv ?_
      refine GoH.v (Vop.bin rfl rfl rfl rfl (bAdd (by omega)) rfl) ?_
      refine gAs ?_
      refine gE ?_
      exact IH (k + 1) _ _ ⟨by omega, fun i hi hb => by rcases Nat.lt_succ_iff_lt_or_eq.1 hi with h | rfl; exact hall i h hb; exact absurd hb hb0⟩ (by omega) ⟨rfl, rfl, rfl, rfl, trivial⟩ .slnil
    ·
     have hge : ¬ k < 8 := by simp at hc; omega
     obtain rfl : k = 8 := by omega
     refine GoH.exit rfl (gS (gR ?_))
     refine gAs ?_
     refine gE ?_
     refine GoH.ret Try.f29 Try.func29 rfl (fun w' hS => ?_)
     exact ⟨hS.ext, by rw [fitB, okM_all hall, hA, h0]; rfl⟩
end Go.Proofs.Ytkoipdlkkchmiaa
namespace Go.Proofs.Ytkoipdlkkchmiaa
open Go.RowKit Go.Proofs.Wit
/-! the law RewriteMeans -/
set_option maxRecDepth 8000 in
theorem means08_c (a : Option Addr) (ca : Nat) (f : List NV) (m : W4) (w : World) (ha : FA w a f) (hl : f.length ≤ maxLen) : Cn Try.prog 8 [.slice a f.length ca, .agg (w4c m)] w (fun v _ => v = .bool true) := by
  refine Cn.of Try.func8 rfl rfl ?_
  refine gS (gR ?_)
  refine GoH.bx rfl rfl rfl rfl (fun b3 => ?_)
  refine gAs ?_
  refine gE (gS (gS (gR ?_)))
  refine gMv ?_
  refine GoH.callP rfl rfl rfl rfl rfl (fun _ _ => Try.call10 _ _) (fun w _ hS => (by exact rfew_c a ca f 30 w)) ?_
  refine gUn uNot ?_
  refine gMv ?_
  refine GoH.cases (d := 22) rfl (fun hc => ?_) (fun hc => ?_)
  ·
   iterate 3 refine gNo ?_
   refine gPt ?_
   refine gMv ?_
   iterate 4 refine gNo ?_
   refine gPt ?_
   refine gE (GoH.condT rfl (gS (gR ?_)))
   refine GoH.callP rfl rfl rfl rfl rfl (fun _ _ => Try.call11 _ _) (fun w _ hS => (by exact awake08_c w)) ?_
   refine gAs ?_
   refine gE ?_
   refine GoH.ret Try.f8 Try.func8 rfl (fun w' hS => ?_)
   exact ⟨hS.ext, rfl⟩
  ·
   have hfl : f.length ≤ 30 := by simp at hc; omega
   refine gMv ?_
   refine GoH.callP rfl rfl rfl rfl rfl (fun _ _ => Try.call29 _ _) (fun w _ hS => (by exact rfitsF_c a ca f 2 8 w (ha.ex0 hS.ext) hl)) ?_
   refine gUn uNot ?_
   refine gPf ?_
   refine gMv ?_
   refine GoH.cases (d := 27) rfl (fun hc => ?_) (fun hc => ?_)
   ·
    iterate 4 refine gNo ?_
    refine gPt ?_
    refine gE (GoH.condT rfl (gS (gR ?_)))
    refine GoH.callP rfl rfl rfl rfl rfl (fun _ _ => Try.call11 _ _) (fun w _ hS => (by exact awake08_c w)) ?_
    refine gAs ?_
    refine gE ?_
    refine GoH.ret Try.f8 Try.func8 rfl (fun w' hS => ?_)
    exact ⟨hS.ext, rfl⟩
   ·
    have hfit : fitB f 2 8 = true := by simpa using hc
    have h0 : chkF f = 0 := (fitB_iff.1 hfit).1
    have hT := (chkF_zero.1 h0).top
    refine gMv ?_
    refine GoH.callP rfl rfl rfl rfl rfl (fun _ _ => Try.call30 _ _) (fun w _ hS => (by exact rfrags_c a ca f w (ha.ex0 hS.ext) hl)) ?_
    refine GoH.v (Vop.bin rfl rfl rfl rfl (bAndNotI (b := 15) (frgL_lt _) (by decide)) rfl) ?_
    refine gBi bNe ?_
    refine gPf ?_
    refine gE ?_
    refine GoH.cond rfl (fun hc => ?_) (fun hc => ?_)
    ·
     refine gS (gR ?_)
     refine GoH.callP rfl rfl rfl rfl rfl (fun _ _ => Try.call11 _ _) (fun w _ hS => (by exact awake08_c w)) ?_
     refine gAs ?_
     refine gE ?_
     refine GoH.ret Try.f8 Try.func8 rfl (fun w' hS => ?_)
     exact ⟨hS.ext, rfl⟩
    ·
     have hst : St13 (topT f) := by
       have h1 : andN (frgL (compF f)) 15 = 0 := by
         have : ((andN (frgL (compF f)) 15 : Nat) : Int) = 0 := by simpa using hc
         omega
       rw [compF_eq h0] at h1
       exact (frg_has hT frO_15).1 h1
     obtain ⟨want, hwant⟩ : ∃ z, z = truM m (topT f) := ⟨_, rfl⟩
     have hwlo : Lo want := by rw [hwant]; exact truM_lo m _
     refine gK (gS (gR ?_))
     refine GoH.v (Vop.ldB rfl rfl rfl rfl Try.isAgg43 0 rfl Try.sizeOf43 rfl) ?_
     refine gMv ?_
     refine GoH.callP rfl rfl rfl rfl rfl (fun _ _ => Try.call31 _ _) (fun w _ hS => (by exact truth_c m a ca f w (ha.ex0 hS.ext) hl h0 hst)) ?_
     refine gMv ?_
     iterate 2 refine gEx ?_
     iterate 2 refine gAs ?_
     refine gE (gS (gS (gR ?_)))
     refine gMv ?_
     refine gUn uNot ?_
     refine gE ?_
     refine GoH.cond rfl (fun hc => ?_) (fun hc => ?_)
     ·
      exact absurd hc (by decide)
     ·
      refine gK (gS (gR ?_))
      refine gMv ?_
      refine GoH.callM _ rfl rfl rfl rfl rfl (fun _ _ => Try.call32 _ _) (fun w _ hS => (by exact nnf_c a ca f w (ha.ex0 hS.ext) hl)) ?_
      rintro v w1 w2 Y' hS he ⟨sv, o1, e1, rfl, ho, hP1⟩
      obtain ⟨q1, cap1, sp1, rfl, hq1, hcap1, hS'⟩ := gainN hS he ho
      obtain ⟨h1o, h1⟩ := hP1.cases0 h0
      refine ⟨_, hS', ?_⟩
      refine gMv ?_
      iterate 2 refine gEx ?_
      iterate 2 refine gAs ?_
      refine gE (gS (gR ?_))
      refine gMv ?_
      refine GoH.callM _ rfl rfl rfl rfl rfl (fun _ _ => Try.call12 _ _) (fun w _ hS => (by exact simplify_c a ca f w (ha.ex0 hS.ext) hl)) ?_
      rintro v w1 w2 Y' hS he ⟨sv, o2, e2, rfl, ho, hP2⟩
      obtain ⟨q2, cap2, sp2, rfl, hq2, hcap2, hS'⟩ := gainN hS he ho
      obtain ⟨rfl, h2⟩ := hP2.sim0 h0
      refine ⟨_, hS', ?_⟩
      refine gMv ?_
      iterate 2 refine gEx ?_
      iterate 2 refine gAs ?_
      refine gE (gS (gR ?_))
      refine gMv ?_
      refine GoH.callM _ rfl rfl rfl rfl rfl (fun _ _ => Try.call33 _ _) (fun w _ hS => (by exact core_c a ca f w (ha.ex0 hS.ext) hl)) ?_
      rintro v w1 w2 Y' hS he ⟨sv, o3, e3, rfl, ho, hP3⟩
      obtain ⟨q3, cap3, sp3, rfl, hq3, hcap3, hS'⟩ := gainN hS he ho
      have h3 := hP3.cases0 corR_ok h0
      refine ⟨_, hS', ?_⟩
      refine gMv ?_
      iterate 2 refine gEx ?_
      iterate 2 refine gAs ?_
      refine gE (gS (gR ?_))
      refine gMv ?_
      refine GoH.callM _ rfl rfl rfl rfl rfl (fun _ _ => Try.call23 _ _) (fun w _ hS => (by exact negateF_c a ca f w (ha.ex0 hS.ext) hl)) ?_
      rintro v w1 w2 Y' hS he ⟨sv, o4, e4, rfl, ho, hP4⟩
      obtain ⟨q4, cap4, sp4, rfl, hq4, hcap4, hS'⟩ := gainN hS he ho
      obtain ⟨rfl, h4⟩ : e4 = 0 ∧ Cf o4 (negT (topT f)) := by
        rcases hP4 with h | ⟨_, h5, rfl⟩
        · exact absurd h0 h.1
        · have hne : o4 ≠ [] := by
            rw [h5]
            refine bT_ne.2 ?_
            have h6 := neg_len (t := topT f)
            have h7 := compF_len h0
            rw [compF_eq h0] at h7
            omega
          exact ⟨if_neg hne, h5, hne, negT_ok hT⟩
      refine ⟨_, hS', ?_⟩
      refine gMv ?_
      iterate 2 refine gEx ?_
      iterate 2 refine gAs ?_
      refine gE (gS (gS ?_))
      refine GoH.regionK (α := Unit) [] (fun _ => [(3, .pointer (some ⟨b3, 0, none⟩)), (5, B want), (7, osv q1 o1.length cap1), (8, .int .i64 e1), (9, osv q2 o2.length cap2), (11, osv q3 o3.length cap3), (12, .int .i64 e3), (13, osv q4 o4.length cap4), (83, .bool false)]) (fun _ => [(q4, obN 49 o4 sp4), (q3, obN 49 o3 sp3), (q2, obN 49 o2 sp2), (q1, obN 49 o1 sp1), (some b3, .cells (w4c m) 43 (0, 0))]) (fun _ => ?_) (fun K => ?_)
      · -- what comes behind the region
       refine gE (GoH.condF rfl (gK (gS (gS (gR ?_)))))
       iterate 4 refine gMv ?_
       refine GoH.bsN (c := [_, _, _, _]) rfl rfl rfl rfl Try.underlying29 Try.sizeOf22 Try.zeroValue22 rfl rfl (fun b88 => ?_)
       refine gBl Try.underlying29 ?_
       refine gMv ?_
       refine gE (gB ?_)
       obtain ⟨gs, hgs⟩ : ∃ gs : List FV, gs = [⟨q1.map (fun b => ⟨b, 0, none⟩), cap1, o1⟩, ⟨q2.map (fun b => ⟨b, 0, none⟩), cap2, o2⟩, ⟨q3.map (fun b => ⟨b, 0, none⟩), cap3, o3⟩, ⟨q4.map (fun b => ⟨b, 0, none⟩), cap4, o4⟩] := ⟨_, rfl⟩
       have hgl : gs.length = 4 := by rw [hgs]; rfl
       have hin : ∀ k, k < 4 → (gs.getD k FV.z).In 49 [(q4, obN 49 o4 sp4), (q3, obN 49 o3 sp3), (q2, obN 49 o2 sp2), (q1, obN 49 o1 sp1), (some b3, .cells (w4c m) 43 (0, 0))] := fun k hk => by
         rw [hgs]
         have : k = 0 ∨ k = 1 ∨ k = 2 ∨ k = 3 := by omega
         rcases this with rfl | rfl | rfl | rfl
         · exact ⟨q1, sp1, .tail _ (.tail _ (.tail _ (.head _))), rfl, hq1, hcap1⟩
         · exact ⟨q2, sp2, .tail _ (.tail _ (.head _)), rfl, hq2, hcap2⟩
         · exact ⟨q3, sp3, .tail _ (.head _), rfl, hq3, hcap3⟩
         · exact ⟨q4, sp4, .head _, rfl, hq4, hcap4⟩
       have hall : ∀ k, k < 4 → (k = 0 ∧ e1 = 8) ∨ (k = 2 ∧ e3 = 8) ∨ ∃ u, Cf (gs.getD k FV.z).f u ∧ St13 u ∧ truM m u = if k = 3 then nt want else want := fun k hk => by
         rw [hgs, hwant]
         have : k = 0 ∨ k = 1 ∨ k = 2 ∨ k = 3 := by omega
         rcases this with rfl | rfl | rfl | rfl
         · rcases h1 with h | h
           · exact .inl ⟨rfl, h.1⟩
           · exact .inr (.inr ⟨_, h.2, (st_nn _ hst).1, (tru_nn m _ hT).1⟩)
         · exact .inr (.inr ⟨_, h2, st_up simT_ok sim_st _ hT hst, tru_up simT_ok (sim_means m) _ hT hst⟩)
         · rcases h3 with h | h
           · exact .inr (.inl ⟨rfl, h.1⟩)
           · exact .inr (.inr ⟨_, h.2.2, st_up corR_ok cor_st _ hT hst, tru_up corR_ok (cor_means m) _ hT hst⟩)
         · exact .inr (.inr ⟨_, h4, st_neg hst, tru_neg m⟩)
       have hbl : ∀ b : Nat, (some b, ob FV.v 22 gs []) = (some b, ob FV.v 22 [⟨q1.map (fun b => ⟨b, 0, none⟩), cap1, o1⟩, ⟨q2.map (fun b => ⟨b, 0, none⟩), cap2, o2⟩, ⟨q3.map (fun b => ⟨b, 0, none⟩), cap3, o3⟩, ⟨q4.map (fun b => ⟨b, 0, none⟩), cap4, o4⟩] []) := fun b => by rw [hgs]
       refine GoH.loop (σ := Nat) (fun k => [(3, .pointer (some ⟨b3, 0, none⟩)), (5, B want), (8, .int .i64 e1), (12, .int .i64 e3), (88, .slice (some ⟨b88, 0, none⟩) gs.length 4), (89, .int .i64 4), (90, .int .i64 k)]) (fun _ => (some b88, ob FV.v 22 gs []) :: [(q4, obN 49 o4 sp4), (q3, obN 49 o3 sp3), (q2, obN 49 o2 sp2), (q1, obN 49 o1 sp1), (some b3, .cells (w4c m) 43 (0, 0))]) (fun k => k ≤ 4) (fun k => 4 - k) 0 (Nat.zero_le _) ⟨rfl, rfl, rfl, rfl, by rw [hgl]; rfl, rfl, rfl, trivial⟩ (by rw [hbl]; exact List.Sublist.refl _) (fun k hk IH => ?_)
       refine gS (gR ?_)
       refine gBi bLt ?_
       refine gE (gS ?_)
       refine GoH.cond rfl (fun hc => ?_) (fun hc => ?_)
       ·
        have hk4 : k < 4 := by simp at hc; omega
        have hk5 : k < gs.length := by omega
        have hA := hall k hk4
        have hI := hin k hk4
        obtain ⟨x, hx⟩ : ∃ x, x = gs.getD k FV.z := ⟨_, rfl⟩
        rw [← hx] at hA hI
        refine gK (gS (gB (gS (gR ?_))))
        refine gMv ?_
        refine GoH.v (Vop.idxS rfl rfl rfl rfl rfl Try.underlying29 Try.sizeOf22 (k) ⟨rfl, hk5⟩) ?_
        skip
        refine GoH.v (Vop.ldE FV.v FV.z rfl rfl rfl rfl Try.isAgg22 0 rfl hk5) ?_
        rw [← hx]
        iterate 2 refine gAs ?_
        refine gE (gS (gS (gR ?_)))
        refine gMv ?_
        refine gBi bEq ?_
        refine gMv ?_
        refine GoH.cases (d := 97) rfl (fun hc => ?_) (fun hc => ?_)
        ·
         have hk0 : k = 0 := by simp at hc; omega
         refine gMv ?_
         refine gBi bEq ?_
         refine gPt ?_
         refine gMv ?_
         refine GoH.cases (d := 101) rfl (fun hc => ?_) (fun hc => ?_)
         ·
          have he1 : e1 = 8 := by simpa using hc
          iterate 6 refine gNo ?_
          refine gPt ?_
          refine gE (GoH.condT rfl (GoH.exit rfl (gR ?_)))
          refine GoH.v (Vop.bin rfl rfl rfl rfl (bAdd (by omega)) rfl) ?_
          refine gMv ?_
          refine gE ?_
          exact IH (k + 1) _ _ (by omega) (by omega) ⟨rfl, rfl, rfl, rfl, rfl, rfl, rfl, trivial⟩ (List.Sublist.refl _)
         ·
          have he1 : ¬ e1 = 8 := by simpa using hc
          refine gMv ?_
          refine GoH.v (Vop.bin rfl rfl rfl rfl (bEqV (v := false) (by simp; omega)) rfl) ?_
          obtain ⟨u, hu, hus, hut⟩ : ∃ u, Cf x.f u ∧ St13 u ∧ truM m u = if k = 3 then nt want else want := by
            rcases hA with h | h | h
            · exact absurd h (by omega)
            · exact absurd h (by omega)
            · exact h
          have hxm : x.f.length ≤ maxLen := by have := hu.le; unfold maxLen; omega
          have hut2 : truM m (topT x.f) = if k = 3 then nt want else want := by rw [hu.top]; exact hut
          refine gMv ?_
          iterate 2 refine gNo ?_
          iterate 2 refine gPf ?_
          refine gE (GoH.condF rfl (gK (gS (gS (gR ?_)))))
          refine gMv ?_
          refine GoH.callP rfl rfl rfl rfl rfl (fun _ _ => Try.call17 _ _) (fun w _ hS => (by
          have := rchk_c x.a x.c x.f w ((hI.mono (List.subset_cons_self _ _)).at hS) hxm
          rw [hu.chk] at this; exact this)) ?_
          refine GoH.v (Vop.bin rfl rfl rfl rfl (bNeV (v := false) rfl) rfl) ?_
          refine gE (GoH.condF rfl (gK (gS (gR ?_))))
          refine GoH.v (Vop.ldB rfl rfl rfl rfl Try.isAgg43 5 rfl Try.sizeOf43 rfl) ?_
          refine gMv ?_
          refine GoH.callP rfl rfl rfl rfl rfl (fun _ _ => Try.call31 _ _) (fun w _ hS => (by exact truth_c m x.a x.c x.f w ((hI.mono (List.subset_cons_self _ _)).at hS) hxm hu.chk (by rw [hu.top]; exact hus))) ?_
          refine gMv ?_
          iterate 2 refine gEx ?_
          iterate 2 refine gAs ?_
          refine gE (gS (gR ?_))
          refine gMv ?_
          refine gUn uNot ?_
          refine gMv ?_
          refine GoH.cases (d := 120) rfl (fun hc => ?_) (fun hc => ?_)
          ·
           exact absurd hc (by decide)
          ·
           refine gMv ?_
           refine gBi bLt ?_
           refine gMv ?_
           refine GoH.cases (d := 123) rfl (fun hc => ?_) (fun hc => ?_)
           ·
            have hk3 : ¬ k = 3 := by simp at hc; omega
            iterate 2 refine gMv ?_
            refine GoH.v (Vop.bin rfl rfl rfl rfl (by rw [hut2, if_neg hk3]; exact bNeB8V (v := false) (by simp)) rfl) ?_
            refine gPt ?_
            refine gPf ?_
            iterate 2 refine gMv ?_
            refine GoH.v (Vop.bin rfl rfl rfl rfl (bEqV (v := false) (by simp; omega)) rfl) ?_
            refine gMv ?_
            iterate 4 refine gNo ?_
            iterate 2 refine gPf ?_
            refine gE (GoH.condF rfl (gK (gIb (gR ?_))))
            refine GoH.v (Vop.bin rfl rfl rfl rfl (bAdd (by omega)) rfl) ?_
            refine gMv ?_
            refine gE ?_
            exact IH (k + 1) _ _ (by omega) (by omega) ⟨rfl, rfl, rfl, rfl, rfl, rfl, rfl, trivial⟩ (List.Sublist.refl _)
           ·
            have hk3 : k = 3 := by simp at hc; omega
            iterate 3 refine gNo ?_
            iterate 2 refine gPf ?_
            iterate 2 refine gMv ?_
            refine GoH.v (Vop.bin rfl rfl rfl rfl (bEqV (v := true) (by simp; omega)) rfl) ?_
            iterate 3 refine gMv ?_
            refine GoH.v (Vop.bin rfl rfl rfl rfl (bAndNotB (x := 15#8) (y := want)) rfl) ?_
            refine GoH.v (Vop.bin rfl rfl rfl rfl (by rw [hut2, if_pos hk3]; exact bNeB8V (v := false) (by simp [nt])) rfl) ?_
            refine gPt ?_
            refine gPf ?_
            refine gE (GoH.condF rfl (gK (gIb (gR ?_))))
            refine GoH.v (Vop.bin rfl rfl rfl rfl (bAdd (by omega)) rfl) ?_
            refine gMv ?_
            refine gE ?_
            exact IH (k + 1) _ _ (by omega) (by omega) ⟨rfl, rfl, rfl, rfl, rfl, rfl, rfl, trivial⟩ (List.Sublist.refl _)
        ·
         have hk0 : ¬ k = 0 := by simp at hc; omega
         iterate 2 refine gNo ?_
         refine gPf ?_
         iterate 2 refine gMv ?_
         refine gBi bEq ?_
         refine gMv ?_
         refine GoH.cases (d := 104) rfl (fun hc => ?_) (fun hc => ?_)
         ·
          have hk2 : k = 2 := by simp at hc; omega
          refine gMv ?_
          refine gBi bEq ?_
          refine gPt ?_
          refine gPf ?_
          refine gE ?_
          refine GoH.cond rfl (fun hc => ?_) (fun hc => ?_)
          ·
           have he3 : e3 = 8 := by simpa using hc
           refine GoH.exit rfl (gR ?_)
           refine GoH.v (Vop.bin rfl rfl rfl rfl (bAdd (by omega)) rfl) ?_
           refine gMv ?_
           refine gE ?_
           exact IH (k + 1) _ _ (by omega) (by omega) ⟨rfl, rfl, rfl, rfl, rfl, rfl, rfl, trivial⟩ (List.Sublist.refl _)
          ·
           have he3 : ¬ e3 = 8 := by simpa using hc
           obtain ⟨u, hu, hus, hut⟩ : ∃ u, Cf x.f u ∧ St13 u ∧ truM m u = if k = 3 then nt want else want := by
             rcases hA with h | h | h
             · exact absurd h (by omega)
             · exact absurd h (by omega)
             · exact h
           have hxm : x.f.length ≤ maxLen := by have := hu.le; unfold maxLen; omega
           have hut2 : truM m (topT x.f) = if k = 3 then nt want else want := by rw [hu.top]; exact hut
           refine gK (gS (gS (gR ?_)))
           refine gMv ?_
           refine GoH.callP rfl rfl rfl rfl rfl (fun _ _ => Try.call17 _ _) (fun w _ hS => (by
           have := rchk_c x.a x.c x.f w ((hI.mono (List.subset_cons_self _ _)).at hS) hxm
           rw [hu.chk] at this; exact this)) ?_
           refine GoH.v (Vop.bin rfl rfl rfl rfl (bNeV (v := false) rfl) rfl) ?_
           refine gE (GoH.condF rfl (gK (gS (gR ?_))))
           refine GoH.v (Vop.ldB rfl rfl rfl rfl Try.isAgg43 5 rfl Try.sizeOf43 rfl) ?_
           refine gMv ?_
           refine GoH.callP rfl rfl rfl rfl rfl (fun _ _ => Try.call31 _ _) (fun w _ hS => (by exact truth_c m x.a x.c x.f w ((hI.mono (List.subset_cons_self _ _)).at hS) hxm hu.chk (by rw [hu.top]; exact hus))) ?_
           refine gMv ?_
           iterate 2 refine gEx ?_
           iterate 2 refine gAs ?_
           refine gE (gS (gR ?_))
           refine gMv ?_
           refine gUn uNot ?_
           refine gMv ?_
           refine GoH.cases (d := 120) rfl (fun hc => ?_) (fun hc => ?_)
           ·
            exact absurd hc (by decide)
           ·
            refine gMv ?_
            refine gBi bLt ?_
            refine gMv ?_
            refine GoH.cases (d := 123) rfl (fun hc => ?_) (fun hc => ?_)
            ·
             have hk3 : ¬ k = 3 := by simp at hc; omega
             iterate 2 refine gMv ?_
             refine GoH.v (Vop.bin rfl rfl rfl rfl (by rw [hut2, if_neg hk3]; exact bNeB8V (v := false) (by simp)) rfl) ?_
             refine gPt ?_
             refine gPf ?_
             iterate 2 refine gMv ?_
             refine GoH.v (Vop.bin rfl rfl rfl rfl (bEqV (v := false) (by simp; omega)) rfl) ?_
             refine gMv ?_
             iterate 4 refine gNo ?_
             iterate 2 refine gPf ?_
             refine gE (GoH.condF rfl (gK (gIb (gR ?_))))
             refine GoH.v (Vop.bin rfl rfl rfl rfl (bAdd (by omega)) rfl) ?_
             refine gMv ?_
             refine gE ?_
             exact IH (k + 1) _ _ (by omega) (by omega) ⟨rfl, rfl, rfl, rfl, rfl, rfl, rfl, trivial⟩ (List.Sublist.refl _)
            ·
             have hk3 : k = 3 := by simp at hc; omega
             iterate 3 refine gNo ?_
             iterate 2 refine gPf ?_
             iterate 2 refine gMv ?_
             refine GoH.v (Vop.bin rfl rfl rfl rfl (bEqV (v := true) (by simp; omega)) rfl) ?_
             iterate 3 refine gMv ?_
             refine GoH.v (Vop.bin rfl rfl rfl rfl (bAndNotB (x := 15#8) (y := want)) rfl) ?_
             refine GoH.v (Vop.bin rfl rfl rfl rfl (by rw [hut2, if_pos hk3]; exact bNeB8V (v := false) (by simp [nt])) rfl) ?_
             refine gPt ?_
             refine gPf ?_
             refine gE (GoH.condF rfl (gK (gIb (gR ?_))))
             refine GoH.v (Vop.bin rfl rfl rfl rfl (bAdd (by omega)) rfl) ?_
             refine gMv ?_
             refine gE ?_
             exact IH (k + 1) _ _ (by omega) (by omega) ⟨rfl, rfl, rfl, rfl, rfl, rfl, rfl, trivial⟩ (List.Sublist.refl _)
         ·
          have hk2 : ¬ k = 2 := by simp at hc; omega
          obtain ⟨u, hu, hus, hut⟩ : ∃ u, Cf x.f u ∧ St13 u ∧ truM m u = if k = 3 then nt want else want := by
            rcases hA with h | h | h
            · exact absurd h (by omega)
            · exact absurd h (by omega)
            · exact h
          have hxm : x.f.length ≤ maxLen := by have := hu.le; unfold maxLen; omega
          have hut2 : truM m (topT x.f) = if k = 3 then nt want else want := by rw [hu.top]; exact hut
          iterate 2 refine gNo ?_
          iterate 2 refine gPf ?_
          refine gE (GoH.condF rfl (gK (gS (gS (gR ?_)))))
          refine gMv ?_
          refine GoH.callP rfl rfl rfl rfl rfl (fun _ _ => Try.call17 _ _) (fun w _ hS => (by
          have := rchk_c x.a x.c x.f w ((hI.mono (List.subset_cons_self _ _)).at hS) hxm
          rw [hu.chk] at this; exact this)) ?_
          refine GoH.v (Vop.bin rfl rfl rfl rfl (bNeV (v := false) rfl) rfl) ?_
          refine gE (GoH.condF rfl (gK (gS (gR ?_))))
          refine GoH.v (Vop.ldB rfl rfl rfl rfl Try.isAgg43 5 rfl Try.sizeOf43 rfl) ?_
          refine gMv ?_
          refine GoH.callP rfl rfl rfl rfl rfl (fun _ _ => Try.call31 _ _) (fun w _ hS => (by exact truth_c m x.a x.c x.f w ((hI.mono (List.subset_cons_self _ _)).at hS) hxm hu.chk (by rw [hu.top]; exact hus))) ?_
          refine gMv ?_
          iterate 2 refine gEx ?_
          iterate 2 refine gAs ?_
          refine gE (gS (gR ?_))
          refine gMv ?_
          refine gUn uNot ?_
          refine gMv ?_
          refine GoH.cases (d := 120) rfl (fun hc => ?_) (fun hc => ?_)
          ·
           exact absurd hc (by decide)
          ·
           refine gMv ?_
           refine gBi bLt ?_
           refine gMv ?_
           refine GoH.cases (d := 123) rfl (fun hc => ?_) (fun hc => ?_)
           ·
            have hk3 : ¬ k = 3 := by simp at hc; omega
            iterate 2 refine gMv ?_
            refine GoH.v (Vop.bin rfl rfl rfl rfl (by rw [hut2, if_neg hk3]; exact bNeB8V (v := false) (by simp)) rfl) ?_
            refine gPt ?_
            refine gPf ?_
            iterate 2 refine gMv ?_
            refine GoH.v (Vop.bin rfl rfl rfl rfl (bEqV (v := false) (by simp; omega)) rfl) ?_
            refine gMv ?_
            iterate 4 refine gNo ?_
            iterate 2 refine gPf ?_
            refine gE (GoH.condF rfl (gK (gIb (gR ?_))))
            refine GoH.v (Vop.bin rfl rfl rfl rfl (bAdd (by omega)) rfl) ?_
            refine gMv ?_
            refine gE ?_
            exact IH (k + 1) _ _ (by omega) (by omega) ⟨rfl, rfl, rfl, rfl, rfl, rfl, rfl, trivial⟩ (List.Sublist.refl _)
           ·
            have hk3 : k = 3 := by simp at hc; omega
            iterate 3 refine gNo ?_
            iterate 2 refine gPf ?_
            iterate 2 refine gMv ?_
            refine GoH.v (Vop.bin rfl rfl rfl rfl (bEqV (v := true) (by simp; omega)) rfl) ?_
            iterate 3 refine gMv ?_
            refine GoH.v (Vop.bin rfl rfl rfl rfl (bAndNotB (x := 15#8) (y := want)) rfl) ?_
            refine GoH.v (Vop.bin rfl rfl rfl rfl (by rw [hut2, if_pos hk3]; exact bNeB8V (v := false) (by simp [nt])) rfl) ?_
            refine gPt ?_
            refine gPf ?_
            refine gE (GoH.condF rfl (gK (gIb (gR ?_))))
            refine GoH.v (Vop.bin rfl rfl rfl rfl (bAdd (by omega)) rfl) ?_
            refine gMv ?_
            refine gE ?_
            exact IH (k + 1) _ _ (by omega) (by omega) ⟨rfl, rfl, rfl, rfl, rfl, rfl, rfl, trivial⟩ (List.Sublist.refl _)
       ·
        refine GoH.exit rfl (gS (gR ?_))
        refine GoH.callP rfl rfl rfl rfl rfl (fun _ _ => Try.call11 _ _) (fun w _ hS => (by exact awake08_c w)) ?_
        refine gAs ?_
        refine gE ?_
        refine GoH.ret Try.f8 Try.func8 rfl (fun w' hS => ?_)
        exact ⟨hS.ext, rfl⟩
      · -- the region
       refine gR ?_
       refine gMv ?_
       refine GoH.v (Vop.bin rfl rfl rfl rfl (bNeV (v := false) rfl) rfl) ?_
       iterate 2 refine gMv ?_
       refine GoH.v (Vop.bin rfl rfl rfl rfl (bNeV (v := false) rfl) rfl) ?_
       refine gPf ?_
       iterate 2 refine gMv ?_
       refine gBi bNe ?_
       refine gMv ?_
       refine GoH.cases (d := 71) rfl (fun hc => ?_) (fun hc => ?_)
       ·
        have h3e : e3 = 8 := by
          rcases h3 with h | h
          · exact h.1
          · rw [h.1] at hc; exact absurd hc (by decide)
        refine gMv ?_
        refine GoH.v (Vop.bin rfl rfl rfl rfl (bNeV (v := false) (by rw [h3e]; rfl)) rfl) ?_
        refine gPt ?_
        refine gPf ?_
        iterate 2 refine gMv ?_
        refine gBi bNe ?_
        refine gMv ?_
        refine GoH.cases (d := 79) rfl (fun hc => ?_) (fun hc => ?_)
        ·
         have h1e : e1 = 8 := by
           rcases h1 with h | h
           · exact h.1
           · rw [h.1] at hc; exact absurd hc (by decide)
         refine gMv ?_
         refine GoH.v (Vop.bin rfl rfl rfl rfl (bNeV (v := false) (by rw [h1e]; rfl)) rfl) ?_
         refine gPt ?_
         refine gPf ?_
         exact K () _ _ (by repeat (first | exact SubF.nil | refine SubF.cons (by first | rfl | (rw [hwant]; rfl)) ?_)) (fun _ _ hS => hS)
        ·
         iterate 2 refine gNo ?_
         iterate 2 refine gPf ?_
         exact K () _ _ (by repeat (first | exact SubF.nil | refine SubF.cons (by first | rfl | (rw [hwant]; rfl)) ?_)) (fun _ _ hS => hS)
       ·
        iterate 2 refine gNo ?_
        iterate 2 refine gPf ?_
        iterate 2 refine gMv ?_
        refine gBi bNe ?_
        refine gMv ?_
        refine GoH.cases (d := 79) rfl (fun hc => ?_) (fun hc => ?_)
        ·
         have h1e : e1 = 8 := by
           rcases h1 with h | h
           · exact h.1
           · rw [h.1] at hc; exact absurd hc (by decide)
         refine gMv ?_
         refine GoH.v (Vop.bin rfl rfl rfl rfl (bNeV (v := false) (by rw [h1e]; rfl)) rfl) ?_
         refine gPt ?_
         refine gPf ?_
         exact K () _ _ (by repeat (first | exact SubF.nil | refine SubF.cons (by first | rfl | (rw [hwant]; rfl)) ?_)) (fun _ _ hS => hS)
        ·
         iterate 2 refine gNo ?_
         iterate 2 refine gPf ?_
         exact K () _ _ (by repeat (first | exact SubF.nil | refine SubF.cons (by first | rfl | (rw [hwant]; rfl)) ?_)) (fun _ _ hS => hS)
end Go.Proofs.Ytkoipdlkkchmiaa
