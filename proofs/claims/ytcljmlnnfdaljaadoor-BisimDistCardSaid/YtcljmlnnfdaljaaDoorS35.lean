/- Contracts of functions of the program: what each call returns and that nothing else of memory is turned, under the conditions that each theorem states. -/
import Derived.Test.YtcljmlnnfdaljaaDoorS33
import Derived.Test.YtcljmlnnfdaljaaDoorS34
namespace Go.Proofs.YtcljmlnnfdaljaaDoor
open Go.RowKit Go.Proofs.Wit
/-! the reference's masks, and which formulas fit -/
theorem rfew_c (a : Option Addr) (ca : Nat) (f : List NV) (x : Int) (w : World) : Cn Tryd.prog 9 [.slice a f.length ca, .int .i64 x] w (fun v _ => v = .bool (decide ((f.length : Int) ≤ x))) := by
  refine Cn.of Tryd.func9 rfl rfl ?_
  refine GoH.seq ?_
  refine GoH.region ?_
  refine GoH.v (Vop.asg rfl rfl rfl rfl) ?_
  refine GoH.regionEnd ?_
  refine GoH.seq ?_
  refine GoH.region ?_
  refine GoH.v (Vop.mv rfl rfl rfl rfl) ?_
  refine GoH.v (Vop.blt rfl rfl rfl (blt_len_slice Tryd.underlying26) rfl) ?_
  refine GoH.v (Vop.mv rfl rfl rfl rfl) ?_
  refine GoH.v (Vop.bin rfl rfl rfl rfl bLe rfl) ?_
  refine GoH.v (Vop.asg rfl rfl rfl rfl) ?_
  refine GoH.regionEnd ?_
  refine GoH.ret Tryd.f9 Tryd.func9 rfl (fun w' hS => ?_)
  exact ⟨hS.ext, rfl⟩
theorem shl_frO {op : Int} (h : 11 ≤ op ∧ op ≤ 17) : ∃ j : Nat, op - 11 + 1 = j ∧ j ≤ 7 ∧ frO op = ((1 * 2 ^ j : Nat) : Int) := by
  refine ⟨(op - 10).toNat, by omega, by omega, ?_⟩
  have : op = 11 ∨ op = 12 ∨ op = 13 ∨ op = 14 ∨ op = 15 ∨ op = 16 ∨ op = 17 := by omega
  rcases this with rfl | rfl | rfl | rfl | rfl | rfl | rfl <;> rfl
theorem rfrag_c (op : Int) (w : World) (ho : 1 ≤ op ∧ op ≤ 21) : Cn Tryd.prog 28 [.int .i64 op] w (fun v _ => v = .int .i64 (frO op)) := by
  refine Cn.of Tryd.func28 rfl rfl ?_
  refine GoH.seq ?_
  refine GoH.region ?_
  refine GoH.v (Vop.asg rfl rfl rfl rfl) ?_
  refine GoH.regionEnd ?_
  refine GoH.seq ?_
  refine GoH.seq ?_
  refine GoH.region ?_
  refine GoH.v (Vop.mv rfl rfl rfl rfl) ?_
  refine GoH.v (Vop.bin rfl rfl rfl rfl bEq rfl) ?_
  refine GoH.v (Vop.mv rfl rfl rfl rfl) ?_
  -- guard on slot 5 (ref.go:189)
  refine GoH.cases (d := 5) rfl (fun hc => ?_) (fun hc => ?_)
  · -- yes
    have h9 : op = 9 := by simpa using hc
    refine GoH.no rfl rfl rfl rfl ?_
    refine GoH.no rfl rfl rfl rfl ?_
    refine GoH.v (Vop.pickT rfl rfl rfl rfl rfl) ?_
    refine GoH.regionEnd ?_
    refine GoH.condT rfl ?_
    refine GoH.seq ?_
    refine GoH.region ?_
    refine GoH.v (Vop.asg rfl rfl rfl rfl) ?_
    refine GoH.regionEnd ?_
    refine GoH.ret Tryd.f28 Tryd.func28 rfl (fun w' hS => ?_)
    exact ⟨hS.ext, by subst h9; rfl⟩
  · -- no
    have h9 : op ≠ 9 := by simpa using hc
    refine GoH.v (Vop.mv rfl rfl rfl rfl) ?_
    refine GoH.v (Vop.bin rfl rfl rfl rfl bEq rfl) ?_
    refine GoH.v (Vop.pickF rfl rfl rfl rfl rfl) ?_
    refine GoH.regionEnd ?_
    refine GoH.cond rfl (fun hc => ?_) (fun hc => ?_)
    · -- yes
      have h10 : op = 10 := by simpa using hc
      refine GoH.seq ?_
      refine GoH.region ?_
      refine GoH.v (Vop.asg rfl rfl rfl rfl) ?_
      refine GoH.regionEnd ?_
      refine GoH.ret Tryd.f28 Tryd.func28 rfl (fun w' hS => ?_)
      exact ⟨hS.ext, by subst h10; rfl⟩
    · -- no
      have h10 : op ≠ 10 := by simpa using hc
      refine GoH.skip ?_
      refine GoH.seq ?_
      refine GoH.seq ?_
      refine GoH.region ?_
      refine GoH.v (Vop.mv rfl rfl rfl rfl) ?_
      refine GoH.v (Vop.bin rfl rfl rfl rfl bGe rfl) ?_
      refine GoH.v (Vop.mv rfl rfl rfl rfl) ?_
      -- guard on slot 11 (ref.go:192)
      refine GoH.cases (d := 11) rfl (fun hc => ?_) (fun hc => ?_)
      · -- yes
        have h11 : 11 ≤ op := by simpa using hc
        refine GoH.v (Vop.mv rfl rfl rfl rfl) ?_
        refine GoH.v (Vop.bin rfl rfl rfl rfl bLe rfl) ?_
        refine GoH.v (Vop.pickT rfl rfl rfl rfl rfl) ?_
        refine GoH.regionEnd ?_
        refine GoH.cond rfl (fun hc => ?_) (fun hc => ?_)
        · -- yes
          have h17 : op ≤ 17 := by simpa using hc
          obtain ⟨j, hj, hj7, hfr⟩ := shl_frO ⟨h11, h17⟩
          refine GoH.seq ?_
          refine GoH.region ?_
          refine GoH.v (Vop.mv rfl rfl rfl rfl) ?_
          refine GoH.v (Vop.bin rfl rfl rfl rfl (bSub (by omega)) rfl) ?_
          refine GoH.v (Vop.bin rfl rfl rfl rfl (bAdd (by omega)) rfl) ?_
          refine GoH.v (Vop.bin rfl rfl rfl rfl (bShlN (x := 1) (j := j) hj (by have := Nat.pow_le_pow_right (n := 2) (by decide) hj7; omega) (by omega)) rfl) ?_
          refine GoH.v (Vop.asg rfl rfl rfl rfl) ?_
          refine GoH.regionEnd ?_
          refine GoH.ret Tryd.f28 Tryd.func28 rfl (fun w' hS => ?_)
          exact ⟨hS.ext, by rw [hfr]; rfl⟩
        · -- no
          have h17 : ¬ op ≤ 17 := by simpa using hc
          refine GoH.skip ?_
          refine GoH.seq ?_
          refine GoH.seq ?_
          refine GoH.region ?_
          refine GoH.v (Vop.mv rfl rfl rfl rfl) ?_
          refine GoH.v (Vop.bin rfl rfl rfl rfl bGe rfl) ?_
          refine GoH.regionEnd ?_
          refine GoH.cond rfl (fun hc => ?_) (fun hc => ?_)
          · -- yes
            refine GoH.seq ?_
            refine GoH.region ?_
            refine GoH.v (Vop.asg rfl rfl rfl rfl) ?_
            refine GoH.regionEnd ?_
            refine GoH.ret Tryd.f28 Tryd.func28 rfl (fun w' hS => ?_)
            refine ⟨hS.ext, ?_⟩
            have : op = 18 ∨ op = 19 ∨ op = 20 ∨ op = 21 := by omega
            rcases this with rfl | rfl | rfl | rfl <;> rfl
          · -- no
            have : ¬ 18 ≤ op := by simpa using hc
            refine GoH.skip ?_
            refine GoH.seq ?_
            refine GoH.region ?_
            refine GoH.v (Vop.asg rfl rfl rfl rfl) ?_
            refine GoH.regionEnd ?_
            refine GoH.ret Tryd.f28 Tryd.func28 rfl (fun w' hS => ?_)
            exact absurd ho (by omega)
      · -- no
        have h11 : ¬ 11 ≤ op := by simpa using hc
        refine GoH.no rfl rfl rfl rfl ?_
        refine GoH.no rfl rfl rfl rfl ?_
        refine GoH.v (Vop.pickF rfl rfl rfl rfl rfl) ?_
        refine GoH.regionEnd ?_
        refine GoH.condF rfl ?_
        refine GoH.skip ?_
        refine GoH.seq ?_
        refine GoH.seq ?_
        refine GoH.region ?_
        refine GoH.v (Vop.mv rfl rfl rfl rfl) ?_
        refine GoH.v (Vop.bin rfl rfl rfl rfl bGe rfl) ?_
        refine GoH.regionEnd ?_
        refine GoH.cond rfl (fun hc => ?_) (fun hc => ?_)
        · -- yes
          have : 18 ≤ op := by simpa using hc
          refine GoH.seq ?_
          refine GoH.region ?_
          refine GoH.v (Vop.asg rfl rfl rfl rfl) ?_
          refine GoH.regionEnd ?_
          refine GoH.ret Tryd.f28 Tryd.func28 rfl (fun w' hS => ?_)
          exact absurd this (by omega)
        · -- no
          refine GoH.skip ?_
          refine GoH.seq ?_
          refine GoH.region ?_
          refine GoH.v (Vop.asg rfl rfl rfl rfl) ?_
          refine GoH.regionEnd ?_
          refine GoH.ret Tryd.f28 Tryd.func28 rfl (fun w' hS => ?_)
          refine ⟨hS.ext, ?_⟩
          have : op = 1 ∨ op = 2 ∨ op = 3 ∨ op = 4 ∨ op = 5 ∨ op = 6 ∨ op = 7 ∨ op = 8 := by omega
          rcases this with rfl | rfl | rfl | rfl | rfl | rfl | rfl | rfl <;> rfl
theorem compF_nodes (f : List NV) : NodesOk (compF f) := by
  by_cases h : chkF f = 0
  · exact (compF_ok h).nodes
  · rw [compF, if_pos h]; intro i hi; exact absurd hi (Nat.not_lt_zero _)
set_option maxRecDepth 4000 in
theorem rfrags_c (a : Option Addr) (ca : Nat) (f : List NV) (w : World) (ha : FA w a f) (hl : f.length ≤ maxLen) : Cn Tryd.prog 11 [.slice a f.length ca] w (fun v _ => v = .int .i64 (frgL (compF f))) := by
  have hcl := compF_le f
  have hno := (compF_nodes f).opm
  refine Cn.of Tryd.func11 rfl rfl ?_
  refine GoH.seq ?_
  refine GoH.region ?_
  refine GoH.v (Vop.asg rfl rfl rfl rfl) ?_
  refine GoH.regionEnd ?_
  refine GoH.seq ?_
  refine GoH.region ?_
  refine GoH.v (Vop.mv rfl rfl rfl rfl) ?_
  refine GoH.callM _ rfl rfl rfl rfl rfl (fun _ _ => Tryd.call17 _ _) (fun w _ hS => rcompact_c a ca f w (ha.ex0 hS.ext) hl) ?_
  rintro v w1 w2 Y' hS he ho
  rw [subF_top] at ho
  obtain ⟨q, cap, sp, rfl, hq, hcap, hS'⟩ := gainN hS he ho
  refine ⟨_, hS', ?_⟩
  -- heap: q
  refine GoH.v (Vop.asg rfl rfl rfl rfl) ?_
  refine GoH.regionEnd ?_
  refine GoH.seq ?_
  refine GoH.region ?_
  refine GoH.v (Vop.asg rfl rfl rfl rfl) ?_
  refine GoH.regionEnd ?_
  refine GoH.seq ?_
  refine GoH.seq ?_
  refine GoH.region ?_
  refine GoH.v (Vop.asg rfl rfl rfl rfl) ?_
  refine GoH.regionEnd ?_
  refine GoH.block ?_
  refine GoH.loop (σ := Nat) (fun k => [(3, osv q (compF f).length cap), (4, .int .i64 (frgL ((compF f).take k))), (5, .int .i64 k)]) (fun _ => [(q, obN 43 (compF f) sp)]) (fun k => k ≤ (compF f).length) (fun k => (compF f).length - k) 0 (Nat.zero_le _) ⟨rfl, rfl, rfl, trivial⟩ (List.Sublist.refl _) (fun k hk IH => ?_)
  -- heap: q
  refine GoH.seq ?_
  refine GoH.seq ?_
  refine GoH.region ?_
  refine GoH.v (Vop.mv rfl rfl rfl rfl) ?_
  refine GoH.v (Vop.mv rfl rfl rfl rfl) ?_
  refine GoH.v (Vop.blt rfl rfl rfl (blt_len_slice Tryd.underlying26) rfl) ?_
  refine GoH.v (Vop.bin rfl rfl rfl rfl bLt rfl) ?_
  refine GoH.regionEnd ?_
  refine GoH.cond rfl (fun hc => ?_) (fun hc => ?_)
  · -- yes
    have hm : k < (compF f).length := by simpa using hc
    obtain ⟨b, rfl⟩ : ∃ b, q = some b := by
      cases q with
      | none => have := (hq rfl).1; omega
      | some b => exact ⟨b, rfl⟩
    have h1 := frgL_lt ((compF f).take k)
    have h2 := frN_lt (compF f)[k]
    have h3 := frN_eq (compF f)[k]
    have h4 := hno _ (List.getElem_mem hm)
    have ht : frgL ((compF f).take (k + 1)) = frgL ((compF f).take k) ||| frN (compF f)[k] := by rw [List.take_succ_eq_append_getElem hm, frgL_snoc]
    refine GoH.skip ?_
    refine GoH.seq ?_
    refine GoH.block ?_
    refine GoH.region ?_
    refine GoH.v (Vop.mv rfl rfl rfl rfl) ?_
    refine GoH.v (Vop.mv rfl rfl rfl rfl) ?_
    refine GoH.v (Vop.mv rfl rfl rfl rfl) ?_
    refine GoH.v (Vop.idxS rfl rfl rfl rfl rfl Tryd.underlying26 Tryd.sizeOf43 (k) ⟨rfl, hm⟩) ?_
    refine GoH.v (Vop.fldA (a := some ⟨b, 0, none⟩) (o := (k) * 6) rfl rfl rfl rfl Tryd.underlying43 rfl Tryd.sizeOf3 ((k) * 6 + 0) rfl) ?_
    refine GoH.v (Vop.ld rfl rfl rfl rfl Tryd.isAgg3 (fun w _ hS => Sl.fld (enc := NV.cells) (sz := 6) (a := some ⟨b, 0, none⟩) (Sl.blk (hS.get (j := 0) rfl)) (fun _ => rfl) hm rfl)) ?_
    refine GoH.callP rfl rfl rfl rfl rfl (fun _ _ => Tryd.call28 _ _) (fun w _ hS => (by have := rfrag_c (compF f)[k].op w h4; rw [← h3] at this; exact this)) ?_
    refine GoH.v (Vop.bin rfl rfl rfl rfl (bOrI h1 h2 ht) rfl) ?_
    refine GoH.v (Vop.asg rfl rfl rfl rfl) ?_
    refine GoH.regionEnd ?_
    refine GoH.inBlock ?_
    refine GoH.region ?_
    refine GoH.v (Vop.mv rfl rfl rfl rfl) ?_
    refine GoH.v (Vop.bin rfl rfl rfl rfl (bAdd (by omega)) rfl) ?_
    refine GoH.v (Vop.asg rfl rfl rfl rfl) ?_
    refine GoH.regionEnd ?_
    exact IH (k + 1) _ _ hm (by omega) ⟨rfl, rfl, rfl, trivial⟩ (List.Sublist.refl _)
  · -- no
    have hge : ¬ k < (compF f).length := by simpa using hc
    obtain rfl : k = (compF f).length := by omega
    rw [List.take_length]
    refine GoH.exit rfl ?_
    refine GoH.seq ?_
    refine GoH.region ?_
    refine GoH.v (Vop.mv rfl rfl rfl rfl) ?_
    refine GoH.v (Vop.asg rfl rfl rfl rfl) ?_
    refine GoH.regionEnd ?_
    refine GoH.ret Tryd.f11 Tryd.func11 rfl (fun w' hS => ?_)
    exact ⟨hS.ext, rfl⟩
set_option maxRecDepth 4000 in
theorem rfacts05_c (a : Option Addr) (ca : Nat) (f : List NV) (w : World) (ha : FA w a f) (hl : f.length ≤ maxLen) : Cn Tryd.prog 27 [.slice a f.length ca] w (fun v _ => v = .int .i64 (orL ftN (compF f))) := by
  have hcl := compF_le f
  have hno := (compF_nodes f).fld
  refine Cn.of Tryd.func27 rfl rfl ?_
  refine GoH.seq ?_
  refine GoH.region ?_
  refine GoH.v (Vop.asg rfl rfl rfl rfl) ?_
  refine GoH.regionEnd ?_
  refine GoH.seq ?_
  refine GoH.region ?_
  refine GoH.v (Vop.mv rfl rfl rfl rfl) ?_
  refine GoH.callM _ rfl rfl rfl rfl rfl (fun _ _ => Tryd.call17 _ _) (fun w _ hS => rcompact_c a ca f w (ha.ex0 hS.ext) hl) ?_
  rintro v w1 w2 Y' hS he ho
  rw [subF_top] at ho
  obtain ⟨q, cap, sp, rfl, hq, hcap, hS'⟩ := gainN hS he ho
  refine ⟨_, hS', ?_⟩
  -- heap: q
  refine GoH.v (Vop.asg rfl rfl rfl rfl) ?_
  refine GoH.regionEnd ?_
  refine GoH.seq ?_
  refine GoH.region ?_
  refine GoH.v (Vop.asg rfl rfl rfl rfl) ?_
  refine GoH.regionEnd ?_
  refine GoH.seq ?_
  refine GoH.seq ?_
  refine GoH.region ?_
  refine GoH.v (Vop.asg rfl rfl rfl rfl) ?_
  refine GoH.regionEnd ?_
  refine GoH.block ?_
  refine GoH.loop (σ := Nat) (fun k => [(3, osv q (compF f).length cap), (4, .int .i64 (orL ftN ((compF f).take k))), (5, .int .i64 k)]) (fun _ => [(q, obN 43 (compF f) sp)]) (fun k => k ≤ (compF f).length) (fun k => (compF f).length - k) 0 (Nat.zero_le _) ⟨rfl, rfl, rfl, trivial⟩ (List.Sublist.refl _) (fun k hk IH => ?_)
  -- heap: q
  refine GoH.seq ?_
  refine GoH.seq ?_
  refine GoH.region ?_
  refine GoH.v (Vop.mv rfl rfl rfl rfl) ?_
  refine GoH.v (Vop.mv rfl rfl rfl rfl) ?_
  refine GoH.v (Vop.blt rfl rfl rfl (blt_len_slice Tryd.underlying26) rfl) ?_
  refine GoH.v (Vop.bin rfl rfl rfl rfl bLt rfl) ?_
  refine GoH.regionEnd ?_
  refine GoH.cond rfl (fun hc => ?_) (fun hc => ?_)
  · -- yes
    have hm : k < (compF f).length := by simpa using hc
    obtain ⟨b, rfl⟩ : ∃ b, q = some b := by
      cases q with
      | none => have := (hq rfl).1; omega
      | some b => exact ⟨b, rfl⟩
    have h1 : orL ftN ((compF f).take k) < 2 ^ 8 := orL_lt (fun n hn => ftN_lt (hno n (List.mem_of_mem_take hn)))
    have h2 := ftN_lt (hno _ (List.getElem_mem hm))
    have hf := (hno _ (List.getElem_mem hm)).fact
    have ht := orL_take (h := ftN) hm
    refine GoH.skip ?_
    refine GoH.seq ?_
    refine GoH.block ?_
    refine GoH.seq ?_
    refine GoH.region ?_
    refine GoH.v (Vop.mv rfl rfl rfl rfl) ?_
    refine GoH.v (Vop.mv rfl rfl rfl rfl) ?_
    refine GoH.v (Vop.idxS rfl rfl rfl rfl rfl Tryd.underlying26 Tryd.sizeOf43 (k) ⟨rfl, hm⟩) ?_
    refine GoH.v (Vop.fldA (a := some ⟨b, 0, none⟩) (o := (k) * 6) rfl rfl rfl rfl Tryd.underlying43 rfl Tryd.sizeOf3 ((k) * 6 + 0) rfl) ?_
    refine GoH.v (Vop.ld rfl rfl rfl rfl Tryd.isAgg3 (fun w _ hS => Sl.fld (enc := NV.cells) (sz := 6) (a := some ⟨b, 0, none⟩) (Sl.blk (hS.get (j := 0) rfl)) (fun _ => rfl) hm rfl)) ?_
    refine GoH.v (Vop.bin rfl rfl rfl rfl bEq rfl) ?_
    refine GoH.regionEnd ?_
    refine GoH.cond rfl (fun hc => ?_) (fun hc => ?_)
    · -- yes
      have h3 : (compF f)[k].op = 3 := by simpa using hc
      have hft : ftN (compF f)[k] = 1 * 2 ^ (compF f)[k].i.toNat := by rw [ftN, if_pos h3, Nat.one_mul]
      have hi8 := hf h3
      rw [hft] at h2
      refine GoH.region ?_
      refine GoH.v (Vop.mv rfl rfl rfl rfl) ?_
      refine GoH.v (Vop.mv rfl rfl rfl rfl) ?_
      refine GoH.v (Vop.mv rfl rfl rfl rfl) ?_
      refine GoH.v (Vop.idxS rfl rfl rfl rfl rfl Tryd.underlying26 Tryd.sizeOf43 (k) ⟨rfl, hm⟩) ?_
      refine GoH.v (Vop.fldA (a := some ⟨b, 0, none⟩) (o := (k) * 6) rfl rfl rfl rfl Tryd.underlying43 rfl Tryd.sizeOf3 ((k) * 6 + 1) rfl) ?_
      refine GoH.v (Vop.ld rfl rfl rfl rfl Tryd.isAgg3 (fun w _ hS => Sl.fld (enc := NV.cells) (sz := 6) (a := some ⟨b, 0, none⟩) (Sl.blk (hS.get (j := 0) rfl)) (fun _ => rfl) hm rfl)) ?_
      refine GoH.v (Vop.bin rfl rfl rfl rfl (bShlN (x := 1) (j := (compF f)[k].i.toNat) (by omega) (by omega) (by omega)) rfl) ?_
      refine GoH.v (Vop.bin rfl rfl rfl rfl (bOrI (c := orL ftN ((compF f).take (k + 1))) (by omega) (by omega) (by rw [ht, hft])) rfl) ?_
      refine GoH.v (Vop.asg rfl rfl rfl rfl) ?_
      refine GoH.regionEnd ?_
      refine GoH.inBlock ?_
      refine GoH.region ?_
      refine GoH.v (Vop.mv rfl rfl rfl rfl) ?_
      refine GoH.v (Vop.bin rfl rfl rfl rfl (bAdd (by omega)) rfl) ?_
      refine GoH.v (Vop.asg rfl rfl rfl rfl) ?_
      refine GoH.regionEnd ?_
      exact IH (k + 1) _ _ hm (by omega) ⟨rfl, rfl, rfl, trivial⟩ (List.Sublist.refl _)
    · -- no
      have h3 : (compF f)[k].op ≠ 3 := by simpa using hc
      have ht2 : orL ftN ((compF f).take (k + 1)) = orL ftN ((compF f).take k) := by rw [ht, ftN, if_neg h3, Nat.or_zero]
      refine GoH.skip ?_
      refine GoH.inBlock ?_
      refine GoH.region ?_
      refine GoH.v (Vop.mv rfl rfl rfl rfl) ?_
      refine GoH.v (Vop.bin rfl rfl rfl rfl (bAdd (by omega)) rfl) ?_
      refine GoH.v (Vop.asg rfl rfl rfl rfl) ?_
      refine GoH.regionEnd ?_
      exact IH (k + 1) _ _ hm (by omega) ⟨rfl, (by rw [ht2]; rfl), rfl, trivial⟩ (List.Sublist.refl _)
  · -- no
    have hge : ¬ k < (compF f).length := by simpa using hc
    obtain rfl : k = (compF f).length := by omega
    rw [List.take_length]
    refine GoH.exit rfl ?_
    refine GoH.seq ?_
    refine GoH.region ?_
    refine GoH.v (Vop.mv rfl rfl rfl rfl) ?_
    refine GoH.v (Vop.asg rfl rfl rfl rfl) ?_
    refine GoH.regionEnd ?_
    refine GoH.ret Tryd.f27 Tryd.func27 rfl (fun w' hS => ?_)
    exact ⟨hS.ext, rfl⟩
set_option maxRecDepth 4000 in
theorem ragents_c (a : Option Addr) (ca : Nat) (f : List NV) (w : World) (ha : FA w a f) (hl : f.length ≤ maxLen) : Cn Tryd.prog 26 [.slice a f.length ca] w (fun v _ => v = .int .i64 (orL agN (compF f))) := by
  have hcl := compF_le f
  have hno := (compF_nodes f).fld
  refine Cn.of Tryd.func26 rfl rfl ?_
  refine GoH.seq ?_
  refine GoH.region ?_
  refine GoH.v (Vop.asg rfl rfl rfl rfl) ?_
  refine GoH.regionEnd ?_
  refine GoH.seq ?_
  refine GoH.region ?_
  refine GoH.v (Vop.mv rfl rfl rfl rfl) ?_
  refine GoH.callM _ rfl rfl rfl rfl rfl (fun _ _ => Tryd.call17 _ _) (fun w _ hS => rcompact_c a ca f w (ha.ex0 hS.ext) hl) ?_
  rintro v w1 w2 Y' hS he ho
  rw [subF_top] at ho
  obtain ⟨q, cap, sp, rfl, hq, hcap, hS'⟩ := gainN hS he ho
  refine ⟨_, hS', ?_⟩
  -- heap: q
  refine GoH.v (Vop.asg rfl rfl rfl rfl) ?_
  refine GoH.regionEnd ?_
  refine GoH.seq ?_
  refine GoH.region ?_
  refine GoH.v (Vop.asg rfl rfl rfl rfl) ?_
  refine GoH.regionEnd ?_
  refine GoH.seq ?_
  refine GoH.seq ?_
  refine GoH.region ?_
  refine GoH.v (Vop.asg rfl rfl rfl rfl) ?_
  refine GoH.regionEnd ?_
  refine GoH.block ?_
  refine GoH.loop (σ := Nat) (fun k => [(3, osv q (compF f).length cap), (4, .int .i64 (orL agN ((compF f).take k))), (5, .int .i64 k)]) (fun _ => [(q, obN 43 (compF f) sp)]) (fun k => k ≤ (compF f).length) (fun k => (compF f).length - k) 0 (Nat.zero_le _) ⟨rfl, rfl, rfl, trivial⟩ (List.Sublist.refl _) (fun k hk IH => ?_)
  -- heap: q
  refine GoH.seq ?_
  refine GoH.seq ?_
  refine GoH.region ?_
  refine GoH.v (Vop.mv rfl rfl rfl rfl) ?_
  refine GoH.v (Vop.mv rfl rfl rfl rfl) ?_
  refine GoH.v (Vop.blt rfl rfl rfl (blt_len_slice Tryd.underlying26) rfl) ?_
  refine GoH.v (Vop.bin rfl rfl rfl rfl bLt rfl) ?_
  refine GoH.regionEnd ?_
  refine GoH.cond rfl (fun hc => ?_) (fun hc => ?_)
  · -- yes
    have hm : k < (compF f).length := by simpa using hc
    obtain ⟨b, rfl⟩ : ∃ b, q = some b := by
      cases q with
      | none => have := (hq rfl).1; omega
      | some b => exact ⟨b, rfl⟩
    have h1 : orL agN ((compF f).take k) < 2 ^ 4 := orL_lt (fun n hn => agN_lt (hno n (List.mem_of_mem_take hn)))
    have hg := g_lt (hno _ (List.getElem_mem hm))
    have hg0 : 0 ≤ (compF f)[k].g := by
      cases e : grO (compF f)[k].op with
      | false => have := (hno _ (List.getElem_mem hm)).g0 e; omega
      | true => have := (hno _ (List.getElem_mem hm)).gr e; omega
    have hgn : (((compF f)[k].g.toNat : Nat) : Int) = (compF f)[k].g := Int.toNat_of_nonneg hg0
    have hag := (hno _ (List.getElem_mem hm)).ag
    have ht := orL_take (h := agN) hm
    have hag2 : ∀ x : Nat, x < 2 ^ 4 → x ||| (compF f)[k].g.toNat < 2 ^ 4 := fun x hx => Nat.or_lt_two_pow hx hg
    refine GoH.skip ?_
    refine GoH.seq ?_
    refine GoH.block ?_
    refine GoH.seq ?_
    refine GoH.seq ?_
    refine GoH.region ?_
    refine GoH.v (Vop.mv rfl rfl rfl rfl) ?_
    refine GoH.v (Vop.mv rfl rfl rfl rfl) ?_
    refine GoH.v (Vop.idxS rfl rfl rfl rfl rfl Tryd.underlying26 Tryd.sizeOf43 (k) ⟨rfl, hm⟩) ?_
    refine GoH.v (Vop.fldA (a := some ⟨b, 0, none⟩) (o := (k) * 6) rfl rfl rfl rfl Tryd.underlying43 rfl Tryd.sizeOf3 ((k) * 6 + 0) rfl) ?_
    refine GoH.v (Vop.ld rfl rfl rfl rfl Tryd.isAgg3 (fun w _ hS => Sl.fld (enc := NV.cells) (sz := 6) (a := some ⟨b, 0, none⟩) (Sl.blk (hS.get (j := 0) rfl)) (fun _ => rfl) hm rfl)) ?_
    refine GoH.callP rfl rfl rfl rfl rfl (fun _ _ => Tryd.call53 _ _) (fun w _ hS => (by exact agent_c (compF f)[k].op w)) ?_
    refine GoH.regionEnd ?_
    refine GoH.cond rfl (fun hc => ?_) (fun hc => ?_)
    · -- yes
      have h3 := hag hc
      have h2 : 2 ^ (compF f)[k].i.toNat < 2 ^ 4 := Nat.pow_lt_pow_right (by decide) (by omega)
      have hor : orL agN ((compF f).take k) ||| 1 * 2 ^ (compF f)[k].i.toNat < 2 ^ 4 := Nat.or_lt_two_pow h1 (by omega)
      refine GoH.region ?_
      refine GoH.v (Vop.mv rfl rfl rfl rfl) ?_
      refine GoH.v (Vop.mv rfl rfl rfl rfl) ?_
      refine GoH.v (Vop.mv rfl rfl rfl rfl) ?_
      refine GoH.v (Vop.idxS rfl rfl rfl rfl rfl Tryd.underlying26 Tryd.sizeOf43 (k) ⟨rfl, hm⟩) ?_
      refine GoH.v (Vop.fldA (a := some ⟨b, 0, none⟩) (o := (k) * 6) rfl rfl rfl rfl Tryd.underlying43 rfl Tryd.sizeOf3 ((k) * 6 + 1) rfl) ?_
      refine GoH.v (Vop.ld rfl rfl rfl rfl Tryd.isAgg3 (fun w _ hS => Sl.fld (enc := NV.cells) (sz := 6) (a := some ⟨b, 0, none⟩) (Sl.blk (hS.get (j := 0) rfl)) (fun _ => rfl) hm rfl)) ?_
      refine GoH.v (Vop.bin rfl rfl rfl rfl (bShlN (x := 1) (j := (compF f)[k].i.toNat) (by omega) (by omega) (by omega)) rfl) ?_
      refine GoH.v (Vop.bin rfl rfl rfl rfl (bOrI (c := orL agN ((compF f).take k) ||| 1 * 2 ^ (compF f)[k].i.toNat) (by omega) (by omega) rfl) rfl) ?_
      refine GoH.v (Vop.asg rfl rfl rfl rfl) ?_
      refine GoH.regionEnd ?_
      refine GoH.region ?_
      refine GoH.v (Vop.mv rfl rfl rfl rfl) ?_
      refine GoH.v (Vop.mv rfl rfl rfl rfl) ?_
      refine GoH.v (Vop.mv rfl rfl rfl rfl) ?_
      refine GoH.v (Vop.idxS rfl rfl rfl rfl rfl Tryd.underlying26 Tryd.sizeOf43 (k) ⟨rfl, hm⟩) ?_
      refine GoH.v (Vop.fldA (a := some ⟨b, 0, none⟩) (o := (k) * 6) rfl rfl rfl rfl Tryd.underlying43 rfl Tryd.sizeOf3 ((k) * 6 + 3) rfl) ?_
      refine GoH.v (Vop.ld rfl rfl rfl rfl Tryd.isAgg3 (fun w _ hS => Sl.fld (enc := NV.cells) (sz := 6) (a := some ⟨b, 0, none⟩) (Sl.blk (hS.get (j := 0) rfl)) (fun _ => rfl) hm rfl)) ?_
      refine GoH.v (Vop.bin rfl rfl rfl rfl (by have := bOrI (P := Tryd.prog) (t := 3) (a := orL agN ((compF f).take k) ||| 1 * 2 ^ (compF f)[k].i.toNat) (b := (compF f)[k].g.toNat) (c := orL agN ((compF f).take (k + 1))) (by omega) (by omega) (by rw [ht, agN, if_pos hc, Nat.one_mul, Nat.or_assoc]); rw [hgn] at this; exact this) rfl) ?_
      refine GoH.v (Vop.asg rfl rfl rfl rfl) ?_
      refine GoH.regionEnd ?_
      refine GoH.inBlock ?_
      refine GoH.region ?_
      refine GoH.v (Vop.mv rfl rfl rfl rfl) ?_
      refine GoH.v (Vop.bin rfl rfl rfl rfl (bAdd (by omega)) rfl) ?_
      refine GoH.v (Vop.asg rfl rfl rfl rfl) ?_
      refine GoH.regionEnd ?_
      exact IH (k + 1) _ _ hm (by omega) ⟨rfl, rfl, rfl, trivial⟩ (List.Sublist.refl _)
    · -- no
      refine GoH.skip ?_
      refine GoH.region ?_
      refine GoH.v (Vop.mv rfl rfl rfl rfl) ?_
      refine GoH.v (Vop.mv rfl rfl rfl rfl) ?_
      refine GoH.v (Vop.mv rfl rfl rfl rfl) ?_
      refine GoH.v (Vop.idxS rfl rfl rfl rfl rfl Tryd.underlying26 Tryd.sizeOf43 (k) ⟨rfl, hm⟩) ?_
      refine GoH.v (Vop.fldA (a := some ⟨b, 0, none⟩) (o := (k) * 6) rfl rfl rfl rfl Tryd.underlying43 rfl Tryd.sizeOf3 ((k) * 6 + 3) rfl) ?_
      refine GoH.v (Vop.ld rfl rfl rfl rfl Tryd.isAgg3 (fun w _ hS => Sl.fld (enc := NV.cells) (sz := 6) (a := some ⟨b, 0, none⟩) (Sl.blk (hS.get (j := 0) rfl)) (fun _ => rfl) hm rfl)) ?_
      refine GoH.v (Vop.bin rfl rfl rfl rfl (by have := bOrI (P := Tryd.prog) (t := 3) (a := orL agN ((compF f).take k)) (b := (compF f)[k].g.toNat) (c := orL agN ((compF f).take (k + 1))) (by omega) (by omega) (by rw [ht, agN, if_neg (by rw [hc]; simp), Nat.zero_or]); rw [hgn] at this; exact this) rfl) ?_
      refine GoH.v (Vop.asg rfl rfl rfl rfl) ?_
      refine GoH.regionEnd ?_
      refine GoH.inBlock ?_
      refine GoH.region ?_
      refine GoH.v (Vop.mv rfl rfl rfl rfl) ?_
      refine GoH.v (Vop.bin rfl rfl rfl rfl (bAdd (by omega)) rfl) ?_
      refine GoH.v (Vop.asg rfl rfl rfl rfl) ?_
      refine GoH.regionEnd ?_
      exact IH (k + 1) _ _ hm (by omega) ⟨rfl, rfl, rfl, trivial⟩ (List.Sublist.refl _)
  · -- no
    have hge : ¬ k < (compF f).length := by simpa using hc
    obtain rfl : k = (compF f).length := by omega
    rw [List.take_length]
    refine GoH.exit rfl ?_
    refine GoH.seq ?_
    refine GoH.region ?_
    refine GoH.v (Vop.mv rfl rfl rfl rfl) ?_
    refine GoH.v (Vop.asg rfl rfl rfl rfl) ?_
    refine GoH.regionEnd ?_
    refine GoH.ret Tryd.f26 Tryd.func26 rfl (fun w' hS => ?_)
    exact ⟨hS.ext, rfl⟩
set_option maxRecDepth 4000 in
theorem rfitsF_c (a : Option Addr) (ca : Nat) (f : List NV) (A B : Nat) (w : World) (ha : FA w a f) (hl : f.length ≤ maxLen) : Cn Tryd.prog 10 [.slice a f.length ca, .int .i64 A, .int .i64 B] w (fun v _ => v = .bool (fitB f A B)) := by
  have hno := (compF_nodes f).fld
  have h1 : orL agN (compF f) < 2 ^ 4 := orL_lt (fun n hn => agN_lt (hno n hn))
  have h2 : orL ftN (compF f) < 2 ^ 8 := orL_lt (fun n hn => ftN_lt (hno n hn))
  refine Cn.of Tryd.func10 rfl rfl ?_
  refine GoH.seq ?_
  refine GoH.region ?_
  refine GoH.v (Vop.asg rfl rfl rfl rfl) ?_
  refine GoH.regionEnd ?_
  refine GoH.seq ?_
  refine GoH.seq ?_
  refine GoH.region ?_
  refine GoH.v (Vop.mv rfl rfl rfl rfl) ?_
  refine GoH.callP rfl rfl rfl rfl rfl (fun _ _ => Tryd.call24 _ _) (fun w _ hS => (by exact rchk_c a ca f w (ha.ex0 hS.ext) hl)) ?_
  refine GoH.v (Vop.bin rfl rfl rfl rfl bNe rfl) ?_
  refine GoH.regionEnd ?_
  refine GoH.cond rfl (fun hc => ?_) (fun hc => ?_)
  · -- yes
    have h0 : chkF f ≠ 0 := by simpa using hc
    refine GoH.seq ?_
    refine GoH.region ?_
    refine GoH.v (Vop.asg rfl rfl rfl rfl) ?_
    refine GoH.regionEnd ?_
    refine GoH.ret Tryd.f10 Tryd.func10 rfl (fun w' hS => ?_)
    exact ⟨hS.ext, by rw [fitB, show (chkF f == 0) = false by simpa using h0]; rfl⟩
  · -- no
    have h0 : chkF f = 0 := by simpa using hc
    refine GoH.skip ?_
    refine GoH.seq ?_
    refine GoH.seq ?_
    refine GoH.region ?_
    refine GoH.v (Vop.asg rfl rfl rfl rfl) ?_
    refine GoH.regionEnd ?_
    refine GoH.block ?_
    refine GoH.loop (σ := Nat) (fun k => [(0, .slice a f.length ca), (1, .int .i64 A), (2, .int .i64 B), (7, .int .i64 k)]) (fun _ => []) (fun k => k ≤ 4 ∧ ∀ i, i < k → gb (orL agN (compF f)) i = 1 → i < A) (fun k => 4 - k) 0 ⟨Nat.zero_le _, fun i hi => absurd hi (Nat.not_lt_zero _)⟩ ⟨rfl, rfl, rfl, rfl, trivial⟩ .slnil (fun k hI IH => ?_)
    obtain ⟨hk, hall⟩ := hI
    refine GoH.seq ?_
    refine GoH.seq ?_
    refine GoH.region ?_
    refine GoH.v (Vop.mv rfl rfl rfl rfl) ?_
    refine GoH.v (Vop.bin rfl rfl rfl rfl bLt rfl) ?_
    refine GoH.regionEnd ?_
    refine GoH.cond rfl (fun hc => ?_) (fun hc => ?_)
    · -- yes
      have hm : k < 4 := by simp at hc; omega
      refine GoH.skip ?_
      refine GoH.seq ?_
      refine GoH.block ?_
      refine GoH.seq ?_
      refine GoH.region ?_
      refine GoH.v (Vop.mv rfl rfl rfl rfl) ?_
      refine GoH.callP rfl rfl rfl rfl rfl (fun _ _ => Tryd.call26 _ _) (fun w _ hS => (by exact ragents_c a ca f w (ha.ex0 hS.ext) hl)) ?_
      refine GoH.v (Vop.mv rfl rfl rfl rfl) ?_
      refine GoH.v (Vop.bin rfl rfl rfl rfl (bShrN (j := k) rfl (by omega) (by omega)) rfl) ?_
      refine GoH.v (Vop.bin rfl rfl rfl rfl bRem2N rfl) ?_
      refine GoH.v (Vop.bin rfl rfl rfl rfl bEq rfl) ?_
      refine GoH.v (Vop.mv rfl rfl rfl rfl) ?_
      -- guard on slot 22 (ref.go:242)
      refine GoH.cases (d := 22) rfl (fun hc => ?_) (fun hc => ?_)
      · -- yes
        have hb1 : gb (orL agN (compF f)) k = 1 := Int.ofNat_inj.1 (show ((gb (orL agN (compF f)) k : Nat) : Int) = ((1 : Nat) : Int) from beq_iff_eq.1 hc)
        refine GoH.v (Vop.mv rfl rfl rfl rfl) ?_
        refine GoH.v (Vop.mv rfl rfl rfl rfl) ?_
        refine GoH.v (Vop.bin rfl rfl rfl rfl bGe rfl) ?_
        refine GoH.v (Vop.pickT rfl rfl rfl rfl rfl) ?_
        refine GoH.regionEnd ?_
        refine GoH.cond rfl (fun hc => ?_) (fun hc => ?_)
        · -- yes
          have hge : ¬ k < A := by simp at hc; omega
          refine GoH.seq ?_
          refine GoH.region ?_
          refine GoH.v (Vop.asg rfl rfl rfl rfl) ?_
          refine GoH.regionEnd ?_
          refine GoH.ret Tryd.f10 Tryd.func10 rfl (fun w' hS => ?_)
          exact ⟨hS.ext, by rw [fitB, okM_false hm hb1 hge, Bool.false_and, Bool.and_false]; rfl⟩
        · -- no
          have hlt : k < A := by simp at hc; omega
          refine GoH.skip ?_
          refine GoH.inBlock ?_
          refine GoH.region ?_
          refine GoH.v (Vop.mv rfl rfl rfl rfl) ?_
          refine GoH.v (Vop.bin rfl rfl rfl rfl (bAdd (by omega)) rfl) ?_
          refine GoH.v (Vop.asg rfl rfl rfl rfl) ?_
          refine GoH.regionEnd ?_
          exact IH (k + 1) _ _ ⟨by omega, fun i hi hb => by rcases Nat.lt_succ_iff_lt_or_eq.1 hi with h | rfl; exact hall i h hb; exact hlt⟩ (by omega) ⟨rfl, rfl, rfl, rfl, trivial⟩ .slnil
      · -- no
        have hb0 : gb (orL agN (compF f)) k ≠ 1 := fun h => by
          have h3 : ((gb (orL agN (compF f)) k : Nat) : Int) ≠ 1 := beq_eq_false_iff_ne.1 hc
          omega
        refine GoH.no rfl rfl rfl rfl ?_
        refine GoH.no rfl rfl rfl rfl ?_
        refine GoH.no rfl rfl rfl rfl ?_
        refine GoH.v (Vop.pickF rfl rfl rfl rfl rfl) ?_
        refine GoH.regionEnd ?_
        refine GoH.condF rfl ?_
        refine GoH.skip ?_
        refine GoH.inBlock ?_
        refine GoH.region ?_
        refine GoH.v (Vop.mv rfl rfl rfl rfl) ?_
        refine GoH.v (Vop.bin rfl rfl rfl rfl (bAdd (by omega)) rfl) ?_
        refine GoH.v (Vop.asg rfl rfl rfl rfl) ?_
        refine GoH.regionEnd ?_
        exact IH (k + 1) _ _ ⟨by omega, fun i hi hb => by rcases Nat.lt_succ_iff_lt_or_eq.1 hi with h | rfl; exact hall i h hb; exact absurd hb hb0⟩ (by omega) ⟨rfl, rfl, rfl, rfl, trivial⟩ .slnil
    · -- no
      have hge : ¬ k < 4 := by simp at hc; omega
      obtain rfl : k = 4 := by omega
      have hA := okM_all hall
      refine GoH.exit rfl ?_
      refine GoH.seq ?_
      refine GoH.seq ?_
      refine GoH.region ?_
      refine GoH.v (Vop.asg rfl rfl rfl rfl) ?_
      refine GoH.regionEnd ?_
      refine GoH.block ?_
      refine GoH.loop (σ := Nat) (fun k => [(0, .slice a f.length ca), (1, .int .i64 A), (2, .int .i64 B), (8, .int .i64 k)]) (fun _ => []) (fun k => k ≤ 8 ∧ ∀ i, i < k → gb (orL ftN (compF f)) i = 1 → i < B) (fun k => 8 - k) 0 ⟨Nat.zero_le _, fun i hi => absurd hi (Nat.not_lt_zero _)⟩ ⟨rfl, rfl, rfl, rfl, trivial⟩ .slnil (fun k hI IH => ?_)
      obtain ⟨hk, hall⟩ := hI
      refine GoH.seq ?_
      refine GoH.seq ?_
      refine GoH.region ?_
      refine GoH.v (Vop.mv rfl rfl rfl rfl) ?_
      refine GoH.v (Vop.bin rfl rfl rfl rfl bLt rfl) ?_
      refine GoH.regionEnd ?_
      refine GoH.cond rfl (fun hc => ?_) (fun hc => ?_)
      · -- yes
        have hm : k < 8 := by simp at hc; omega
        refine GoH.skip ?_
        refine GoH.seq ?_
        refine GoH.block ?_
        refine GoH.seq ?_
        refine GoH.region ?_
        refine GoH.v (Vop.mv rfl rfl rfl rfl) ?_
        refine GoH.callP rfl rfl rfl rfl rfl (fun _ _ => Tryd.call27 _ _) (fun w _ hS => (by exact rfacts05_c a ca f w (ha.ex0 hS.ext) hl)) ?_
        refine GoH.v (Vop.mv rfl rfl rfl rfl) ?_
        refine GoH.v (Vop.bin rfl rfl rfl rfl (bShrN (j := k) rfl (by omega) (by omega)) rfl) ?_
        refine GoH.v (Vop.bin rfl rfl rfl rfl bRem2N rfl) ?_
        refine GoH.v (Vop.bin rfl rfl rfl rfl bEq rfl) ?_
        refine GoH.v (Vop.mv rfl rfl rfl rfl) ?_
        -- guard on slot 37 (ref.go:247)
        refine GoH.cases (d := 37) rfl (fun hc => ?_) (fun hc => ?_)
        · -- yes
          have hb1 : gb (orL ftN (compF f)) k = 1 := Int.ofNat_inj.1 (show ((gb (orL ftN (compF f)) k : Nat) : Int) = ((1 : Nat) : Int) from beq_iff_eq.1 hc)
          refine GoH.v (Vop.mv rfl rfl rfl rfl) ?_
          refine GoH.v (Vop.mv rfl rfl rfl rfl) ?_
          refine GoH.v (Vop.bin rfl rfl rfl rfl bGe rfl) ?_
          refine GoH.v (Vop.pickT rfl rfl rfl rfl rfl) ?_
          refine GoH.regionEnd ?_
          refine GoH.cond rfl (fun hc => ?_) (fun hc => ?_)
          · -- yes
            have hge : ¬ k < B := by simp at hc; omega
            refine GoH.seq ?_
            refine GoH.region ?_
            refine GoH.v (Vop.asg rfl rfl rfl rfl) ?_
            refine GoH.regionEnd ?_
            refine GoH.ret Tryd.f10 Tryd.func10 rfl (fun w' hS => ?_)
            exact ⟨hS.ext, by rw [fitB, okM_false hm hb1 hge, Bool.and_false, Bool.and_false]; rfl⟩
          · -- no
            have hlt : k < B := by simp at hc; omega
            refine GoH.skip ?_
            refine GoH.inBlock ?_
            refine GoH.region ?_
            refine GoH.v (Vop.mv rfl rfl rfl rfl) ?_
            refine GoH.v (Vop.bin rfl rfl rfl rfl (bAdd (by omega)) rfl) ?_
            refine GoH.v (Vop.asg rfl rfl rfl rfl) ?_
            refine GoH.regionEnd ?_
            exact IH (k + 1) _ _ ⟨by omega, fun i hi hb => by rcases Nat.lt_succ_iff_lt_or_eq.1 hi with h | rfl; exact hall i h hb; exact hlt⟩ (by omega) ⟨rfl, rfl, rfl, rfl, trivial⟩ .slnil
        · -- no
          have hb0 : gb (orL ftN (compF f)) k ≠ 1 := fun h => by
            have h3 : ((gb (orL ftN (compF f)) k : Nat) : Int) ≠ 1 := beq_eq_false_iff_ne.1 hc
            omega
          refine GoH.no rfl rfl rfl rfl ?_
          refine GoH.no rfl rfl rfl rfl ?_
          refine GoH.no rfl rfl rfl rfl ?_
          refine GoH.v (Vop.pickF rfl rfl rfl rfl rfl) ?_
          refine GoH.regionEnd ?_
          refine GoH.condF rfl ?_
          refine GoH.skip ?_
          refine GoH.inBlock ?_
          refine GoH.region ?_
          refine GoH.v (Vop.mv rfl rfl rfl rfl) ?_
          refine GoH.v (Vop.bin rfl rfl rfl rfl (bAdd (by omega)) rfl) ?_
          refine GoH.v (Vop.asg rfl rfl rfl rfl) ?_
          refine GoH.regionEnd ?_
          exact IH (k + 1) _ _ ⟨by omega, fun i hi hb => by rcases Nat.lt_succ_iff_lt_or_eq.1 hi with h | rfl; exact hall i h hb; exact absurd hb hb0⟩ (by omega) ⟨rfl, rfl, rfl, rfl, trivial⟩ .slnil
      · -- no
        have hge : ¬ k < 8 := by simp at hc; omega
        obtain rfl : k = 8 := by omega
        refine GoH.exit rfl ?_
        refine GoH.seq ?_
        refine GoH.region ?_
        refine GoH.v (Vop.asg rfl rfl rfl rfl) ?_
        refine GoH.regionEnd ?_
        refine GoH.ret Tryd.f10 Tryd.func10 rfl (fun w' hS => ?_)
        exact ⟨hS.ext, by rw [fitB, okM_all hall, hA, h0]; rfl⟩
end Go.Proofs.YtcljmlnnfdaljaaDoor
