/- Contracts of functions of the program: what each call returns and that nothing else of memory is turned, under the conditions that each theorem states. -/
import Derived.Test.YtcljmlnnfdaljaaDoorS22
import Derived.Test.YtcljmlnnfdaljaaDoorS23
namespace Go.Proofs.YtcljmlnnfdaljaaDoor
open Go.RowKit Go.Proofs.Wit
/-! the examples of the chapter on bisimulations -/
abbrev mvE (b17 b16 b15 : Nat) (rel : List W64) : MV := ⟨3, some ⟨b17, 0, none⟩, 1, [⟨some ⟨b16, 0, none⟩, 3, rel⟩], some ⟨b15, 0, none⟩, 1, exV⟩
theorem le_mx {n : Nat} (h : n ≤ 1000) : n ≤ maxLen := by unfold maxLen; omega
theorem mvE_in {H : Hl} {b17 b16 b15 : Nat} {rel : List W64} (hr : rel.length = 3) (h17 : (some b17, ob Row.v 22 [⟨some ⟨b16, 0, none⟩, 3, rel⟩] []) ∈ H) (h16 : (some b16, ob U 33 rel []) ∈ H) (h15 : (some b15, ob U 33 exV []) ∈ H) : (mvE b17 b16 b15 rel).In H :=
  ⟨.inr ⟨b17, _, [], rfl, h17⟩, fun r h => by
    obtain rfl := List.mem_singleton.1 h
    exact ⟨.inr ⟨b16, _, [], rfl, h16⟩, le_mx (by rw [hr]; decide), Nat.le_of_eq hr⟩, .inr ⟨b15, _, [], rfl, h15⟩, le_mx (Nat.le_of_ble_eq_true rfl), le_mx (Nat.le_of_ble_eq_true rfl), Nat.le_refl _, Nat.le_refl _⟩
theorem equalT_c (a : Option Addr) (ca : Nat) (xs : List Int) (b : Option Addr) (cb : Nat) (ys : List Int) (w : World) (ha : SlI w a xs) (hb : SlI w b ys) (h : xs = ys) (hl : ys.length ≤ maxLen) :
    Cn Tryd.prog 31 [.slice a xs.length ca, .slice b ys.length cb] w (fun v _ => v = .bool true) :=
  (equalI_c a ca xs b cb ys w ha hb (h ▸ hl)).mono (fun v w' _ e => by rw [e, h, beq_self_eq_true])
set_option maxRecDepth 4000 in
theorem awake19_c (w : World) (hT : Tab w) : Cn Tryd.prog 12 [] w (fun v _ => v = .bool true) := by
  refine Cn.of Tryd.func12 rfl rfl ?_
  refine GoH.seq ?_
  refine GoH.region ?_
  refine GoH.v (Vop.asg rfl rfl rfl rfl) ?_
  refine GoH.regionEnd ?_
  refine GoH.seq ?_
  refine GoH.region ?_
  refine GoH.bsN (c := [_]) rfl rfl rfl rfl Tryd.underlying22 Tryd.sizeOf33 Tryd.zeroValue33 rfl rfl (fun b15 => ?_)
  refine GoH.bsN (c := [_, _, _]) rfl rfl rfl rfl Tryd.underlying22 Tryd.sizeOf33 Tryd.zeroValue33 rfl rfl (fun b16 => ?_)
  refine GoH.bsN (c := [_]) rfl rfl rfl rfl Tryd.underlying23 Tryd.sizeOf22 Tryd.zeroValue22 rfl rfl (fun b17 => ?_)
  refine GoH.v (Vop.bld rfl rfl rfl rfl (bld (c := [_, _, _]) Tryd.underlying25 (Szs.cons Tryd.sizeOf3 (Szs.cons Tryd.sizeOf22 (Szs.cons Tryd.sizeOf23 Szs.nil))) Tryd.zeroValue25 rfl)) ?_
  refine GoH.alc rfl rfl rfl (fun _ => Tryd.zeroValue25 _) (fun b1 => ?_)
  refine GoH.stB rfl rfl rfl rfl Tryd.sizeOf25 0 rfl rfl rfl rfl ?_
  refine GoH.regionEnd ?_
  refine GoH.seq ?_
  refine GoH.region ?_
  refine GoH.bsN (c := [_]) rfl rfl rfl rfl Tryd.underlying22 Tryd.sizeOf33 Tryd.zeroValue33 rfl rfl (fun b19 => ?_)
  refine GoH.bsN (c := [_, _, _]) rfl rfl rfl rfl Tryd.underlying22 Tryd.sizeOf33 Tryd.zeroValue33 rfl rfl (fun b20 => ?_)
  refine GoH.bsN (c := [_]) rfl rfl rfl rfl Tryd.underlying23 Tryd.sizeOf22 Tryd.zeroValue22 rfl rfl (fun b21 => ?_)
  refine GoH.v (Vop.bld rfl rfl rfl rfl (bld (c := [_, _, _]) Tryd.underlying25 (Szs.cons Tryd.sizeOf3 (Szs.cons Tryd.sizeOf22 (Szs.cons Tryd.sizeOf23 Szs.nil))) Tryd.zeroValue25 rfl)) ?_
  refine GoH.alc rfl rfl rfl (fun _ => Tryd.zeroValue25 _) (fun b2 => ?_)
  refine GoH.stB rfl rfl rfl rfl Tryd.sizeOf25 0 rfl rfl rfl rfl ?_
  refine GoH.regionEnd ?_
  refine GoH.seq ?_
  refine GoH.region ?_
  refine GoH.v (Vop.ldB rfl rfl rfl rfl Tryd.isAgg25 4 rfl Tryd.sizeOf25 rfl) ?_
  refine GoH.callM _ rfl rfl rfl rfl rfl (fun _ _ => Tryd.call15 _ _) (fun w _ hS => (by exact roundsX_c (mvE b17 b16 b15 [2#64, 4#64, 4#64]) 0 w (hT.ex hS.ext) (MV.In.at (mvE_in rfl (List.mem_of_getElem? (i := 5) rfl) (List.mem_of_getElem? (i := 6) rfl) (List.mem_of_getElem? (i := 7) rfl)) hS))) ?_
  rintro v w1 w2 Y' hS he ⟨sv, rfl, ho⟩
  obtain ⟨q3, cap3, sp3, rfl, hq3, hcap3, hS'⟩ := gainS hS he ho
  have e0 := ex_r0.1
  have e1 := ex_r0.2
  have hS2 := hS'.pickT (pre := [_, _, _, _, _, _, _, _, _]) (pre' := [_, _, _, (some b21, ob Row.v 22 [⟨some ⟨b20, 0, none⟩, 3, [1#64, 1#64, 4#64]⟩] []), (some b20, ob U 33 [1#64, 1#64, 4#64] []), (some b19, ob U 33 exV []), (some b17, ob Row.v 22 [⟨some ⟨b16, 0, none⟩, 3, [2#64, 4#64, 4#64]⟩] []), (some b16, ob U 33 [2#64, 4#64, 4#64] []), (some b15, ob U 33 exV [])]) (HR := []) [1, 5, 0, 2, 3, 4, 6, 7, 8] (by decide) rfl
  obtain ⟨H, hH⟩ : ∃ H : Hl, [(some b21, ob Row.v 22 [⟨some ⟨b20, 0, none⟩, 3, [1#64, 1#64, 4#64]⟩] []), (some b20, ob U 33 [1#64, 1#64, 4#64] []), (some b19, ob U 33 exV []), (some b17, ob Row.v 22 [⟨some ⟨b16, 0, none⟩, 3, [2#64, 4#64, 4#64]⟩] []), (some b16, ob U 33 [2#64, 4#64, 4#64] []), (some b15, ob U 33 exV [])] = H := ⟨_, rfl⟩
  have hM : (mvE b17 b16 b15 [2#64, 4#64, 4#64]).In H := mvE_in rfl (hH ▸ List.mem_of_getElem? (i := 3) rfl) (hH ▸ List.mem_of_getElem? (i := 4) rfl) (hH ▸ List.mem_of_getElem? (i := 5) rfl)
  have hN : (mvE b21 b20 b19 [1#64, 1#64, 4#64]).In H := mvE_in rfl (hH ▸ List.mem_of_getElem? (i := 0) rfl) (hH ▸ List.mem_of_getElem? (i := 1) rfl) (hH ▸ List.mem_of_getElem? (i := 2) rfl)
  have hS3 := hS2.subH (show ([(some b2, .cells (mvE b21 b20 b19 [1#64, 1#64, 4#64]).v.cells 25 (0, 0)), (some b1, .cells (mvE b17 b16 b15 [2#64, 4#64, 4#64]).v.cells 25 (0, 0)), (q3, ob I64 3 (rnds 3 exV exM 0) sp3)] ++ H).Sublist _ from by rw [← hH]; exact List.Sublist.refl _)
  refine ⟨_, hS3, ?_⟩
  clear hS2 hS' hS3
  -- heap: b2 b1 q3
  refine GoH.v (Vop.mv rfl rfl rfl rfl) ?_
  refine GoH.v (Vop.ext rfl rfl rfl rfl rfl) ?_
  refine GoH.v (Vop.ext rfl rfl rfl rfl rfl) ?_
  refine GoH.v (Vop.asg rfl rfl rfl rfl) ?_
  refine GoH.v (Vop.asg rfl rfl rfl rfl) ?_
  refine GoH.regionEnd ?_
  refine GoH.seq ?_
  refine GoH.region ?_
  refine GoH.v (Vop.ldB rfl rfl rfl rfl Tryd.isAgg25 1 rfl Tryd.sizeOf25 rfl) ?_
  refine GoH.callM _ rfl rfl rfl rfl rfl (fun _ _ => Tryd.call15 _ _) (fun w _ hS => (by exact roundsX_c (mvE b17 b16 b15 [2#64, 4#64, 4#64]) 1 w (hT.ex hS.ext) ((hM.mono (fun x hx => by simp [hx])).at hS))) ?_
  rintro v w1 w2 Y' hS he ⟨sv, rfl, ho⟩
  obtain ⟨q5, cap5, sp5, rfl, hq5, hcap5, hS'⟩ := gainS hS he ho
  have e2 := ex_r1.1
  have e3 := ex_r1.2
  refine ⟨_, hS', ?_⟩
  -- heap: q5 b2 b1 q3
  refine GoH.v (Vop.mv rfl rfl rfl rfl) ?_
  refine GoH.v (Vop.ext rfl rfl rfl rfl rfl) ?_
  refine GoH.v (Vop.ext rfl rfl rfl rfl rfl) ?_
  refine GoH.v (Vop.asg rfl rfl rfl rfl) ?_
  refine GoH.v (Vop.asg rfl rfl rfl rfl) ?_
  refine GoH.regionEnd ?_
  refine GoH.seq ?_
  refine GoH.region ?_
  refine GoH.v (Vop.ldB rfl rfl rfl rfl Tryd.isAgg25 2 rfl Tryd.sizeOf25 rfl) ?_
  refine GoH.callP rfl rfl rfl rfl rfl (fun _ _ => Tryd.call29 _ _) (fun w _ hS => (by exact depth_c (mvE b17 b16 b15 [2#64, 4#64, 4#64]) w (hT.ex hS.ext) ((hM.mono (fun x hx => by simp [hx])).at hS))) ?_
  refine GoH.v (Vop.mv rfl rfl rfl rfl) ?_
  refine GoH.v (Vop.ext rfl rfl rfl rfl rfl) ?_
  refine GoH.v (Vop.ext rfl rfl rfl rfl rfl) ?_
  refine GoH.v (Vop.asg rfl rfl rfl rfl) ?_
  refine GoH.v (Vop.asg rfl rfl rfl rfl) ?_
  refine GoH.regionEnd ?_
  refine GoH.seq ?_
  refine GoH.region ?_
  refine GoH.v (Vop.ldB rfl rfl rfl rfl Tryd.isAgg25 1 rfl Tryd.sizeOf25 rfl) ?_
  refine GoH.callM _ rfl rfl rfl rfl rfl (fun _ _ => Tryd.call14 _ _) (fun w _ hS => (by exact coarsest_c (mvE b21 b20 b19 [1#64, 1#64, 4#64]) w (hT.ex hS.ext) ((hN.mono (fun x hx => by simp [hx])).at hS))) ?_
  rintro v w1 w2 Y' hS he ⟨sv, rfl, ho⟩
  obtain ⟨q9, cap9, sp9, rfl, hq9, hcap9, hS'⟩ := gainS hS he ho
  refine ⟨_, hS', ?_⟩
  -- heap: q9 q5 b2 b1 q3
  refine GoH.v (Vop.mv rfl rfl rfl rfl) ?_
  refine GoH.v (Vop.ext rfl rfl rfl rfl rfl) ?_
  refine GoH.v (Vop.ext rfl rfl rfl rfl rfl) ?_
  refine GoH.v (Vop.asg rfl rfl rfl rfl) ?_
  refine GoH.v (Vop.asg rfl rfl rfl rfl) ?_
  refine GoH.regionEnd ?_
  refine GoH.seq ?_
  refine GoH.region ?_
  refine GoH.v (Vop.ldB rfl rfl rfl rfl Tryd.isAgg25 2 rfl Tryd.sizeOf25 rfl) ?_
  refine GoH.callP rfl rfl rfl rfl rfl (fun _ _ => Tryd.call29 _ _) (fun w _ hS => (by exact depth_c (mvE b21 b20 b19 [1#64, 1#64, 4#64]) w (hT.ex hS.ext) ((hN.mono (fun x hx => by simp [hx])).at hS))) ?_
  refine GoH.v (Vop.mv rfl rfl rfl rfl) ?_
  refine GoH.v (Vop.ext rfl rfl rfl rfl rfl) ?_
  refine GoH.v (Vop.ext rfl rfl rfl rfl rfl) ?_
  refine GoH.v (Vop.asg rfl rfl rfl rfl) ?_
  refine GoH.v (Vop.asg rfl rfl rfl rfl) ?_
  refine GoH.regionEnd ?_
  refine GoH.seq ?_
  refine GoH.region ?_
  refine GoH.v (Vop.ldB rfl rfl rfl rfl Tryd.isAgg25 2 rfl Tryd.sizeOf25 rfl) ?_
  refine GoH.v (Vop.ldB rfl rfl rfl rfl Tryd.isAgg25 2 rfl Tryd.sizeOf25 rfl) ?_
  refine GoH.callM _ rfl rfl rfl rfl rfl (fun _ _ => Tryd.call30 _ _) (fun w _ hS => (by exact bisimilar_c (mvE b21 b20 b19 [1#64, 1#64, 4#64]) (mvE b21 b20 b19 [1#64, 1#64, 4#64]) 0 1 w (hT.ex hS.ext) ((hN.mono (fun x hx => by simp [hx])).at hS) ((hN.mono (fun x hx => by simp [hx])).at hS))) ?_
  rintro v w1 w2 Y' hS he ⟨y, rfl, hy⟩
  obtain rfl := ex_y hy
  refine ⟨_, hS.later he, ?_⟩
  refine GoH.v (Vop.mv rfl rfl rfl rfl) ?_
  refine GoH.v (Vop.ext rfl rfl rfl rfl rfl) ?_
  refine GoH.v (Vop.ext rfl rfl rfl rfl rfl) ?_
  refine GoH.v (Vop.asg rfl rfl rfl rfl) ?_
  refine GoH.v (Vop.asg rfl rfl rfl rfl) ?_
  refine GoH.regionEnd ?_
  refine GoH.seq ?_
  refine GoH.region ?_
  refine GoH.v (Vop.mv rfl rfl rfl rfl) ?_
  refine GoH.v (Vop.bin rfl rfl rfl rfl (bEqV (v := true) (by exact beq_iff_eq.2 ex_r0.2)) rfl) ?_
  refine GoH.v (Vop.mv rfl rfl rfl rfl) ?_
  refine GoH.v (Vop.mv rfl rfl rfl rfl) ?_
  refine GoH.v (Vop.bin rfl rfl rfl rfl (bEqV (v := true) (by exact beq_iff_eq.2 ex_r1.2)) rfl) ?_
  refine GoH.v (Vop.pickT rfl rfl rfl rfl rfl) ?_
  refine GoH.v (Vop.mv rfl rfl rfl rfl) ?_
  refine GoH.v (Vop.mv rfl rfl rfl rfl) ?_
  refine GoH.v (Vop.bin rfl rfl rfl rfl (bEqV (v := true) (by exact beq_iff_eq.2 ex_chkM)) rfl) ?_
  refine GoH.v (Vop.pickT rfl rfl rfl rfl rfl) ?_
  refine GoH.v (Vop.mv rfl rfl rfl rfl) ?_
  refine GoH.v (Vop.mv rfl rfl rfl rfl) ?_
  refine GoH.v (Vop.bin rfl rfl rfl rfl (bEqV (v := true) (by exact beq_iff_eq.2 ex_chkN)) rfl) ?_
  refine GoH.v (Vop.pickT rfl rfl rfl rfl rfl) ?_
  refine GoH.v (Vop.mv rfl rfl rfl rfl) ?_
  refine GoH.v (Vop.mv rfl rfl rfl rfl) ?_
  refine GoH.v (Vop.bin rfl rfl rfl rfl (bEqV (v := true) (by exact beq_iff_eq.2 ex_chkN)) rfl) ?_
  refine GoH.v (Vop.pickT rfl rfl rfl rfl rfl) ?_
  refine GoH.v (Vop.mv rfl rfl rfl rfl) ?_
  refine GoH.v (Vop.mv rfl rfl rfl rfl) ?_
  refine GoH.v (Vop.bin rfl rfl rfl rfl (bEqV (v := true) (by exact beq_iff_eq.2 ex_e)) rfl) ?_
  refine GoH.v (Vop.pickT rfl rfl rfl rfl rfl) ?_
  refine GoH.v (Vop.mv rfl rfl rfl rfl) ?_
  refine GoH.v (Vop.mv rfl rfl rfl rfl) ?_
  refine GoH.bsN (c := [_, _, _]) rfl rfl rfl rfl Tryd.underlying36 Tryd.sizeOf3 Tryd.zeroValue3 rfl rfl (fun b78 => ?_)
  refine GoH.callP rfl rfl rfl rfl rfl (fun _ _ => Tryd.call31 _ _) (fun w _ hS => (by exact equalT_c (q3.map (fun b => ⟨b, 0, none⟩)) cap3 (rnds 3 exV exM 0) (some ⟨b78, 0, none⟩) 3 [0, 0, 2] w (sliAt hS 5 rfl (fun e => (hq3 e).1)) (Sl.blk (hS.get (j := 0) rfl)) ex_r0.1 (le_mx (Nat.le_of_ble_eq_true rfl)))) ?_
  refine GoH.v (Vop.pickT rfl rfl rfl rfl rfl) ?_
  refine GoH.v (Vop.mv rfl rfl rfl rfl) ?_
  refine GoH.v (Vop.mv rfl rfl rfl rfl) ?_
  refine GoH.bsN (c := [_, _, _]) rfl rfl rfl rfl Tryd.underlying36 Tryd.sizeOf3 Tryd.zeroValue3 rfl rfl (fun b83 => ?_)
  refine GoH.callP rfl rfl rfl rfl rfl (fun _ _ => Tryd.call31 _ _) (fun w _ hS => (by exact equalT_c (q5.map (fun b => ⟨b, 0, none⟩)) cap5 (rnds 3 exV exM 1) (some ⟨b83, 0, none⟩) 3 [0, 1, 2] w (sliAt hS 3 rfl (fun e => (hq5 e).1)) (Sl.blk (hS.get (j := 0) rfl)) ex_r1.1 (le_mx (Nat.le_of_ble_eq_true rfl)))) ?_
  refine GoH.v (Vop.pickT rfl rfl rfl rfl rfl) ?_
  refine GoH.v (Vop.mv rfl rfl rfl rfl) ?_
  refine GoH.v (Vop.mv rfl rfl rfl rfl) ?_
  refine GoH.v (Vop.bin rfl rfl rfl rfl (bEqV (v := true) (by exact beq_iff_eq.2 ex_d)) rfl) ?_
  refine GoH.v (Vop.pickT rfl rfl rfl rfl rfl) ?_
  refine GoH.v (Vop.mv rfl rfl rfl rfl) ?_
  refine GoH.v (Vop.mv rfl rfl rfl rfl) ?_
  refine GoH.bsN (c := [_, _, _]) rfl rfl rfl rfl Tryd.underlying36 Tryd.sizeOf3 Tryd.zeroValue3 rfl rfl (fun b92 => ?_)
  refine GoH.callP rfl rfl rfl rfl rfl (fun _ _ => Tryd.call31 _ _) (fun w _ hS => (by exact equalT_c (q9.map (fun b => ⟨b, 0, none⟩)) cap9 (crs 3 exV exN) (some ⟨b92, 0, none⟩) 3 [0, 0, 2] w (sliAt hS 3 rfl (fun e => (hq9 e).1)) (Sl.blk (hS.get (j := 0) rfl)) ex_c (le_mx (Nat.le_of_ble_eq_true rfl)))) ?_
  refine GoH.v (Vop.pickT rfl rfl rfl rfl rfl) ?_
  refine GoH.v (Vop.mv rfl rfl rfl rfl) ?_
  refine GoH.v (Vop.mv rfl rfl rfl rfl) ?_
  refine GoH.v (Vop.bin rfl rfl rfl rfl (bEqV (v := true) (by exact beq_iff_eq.2 ex_k)) rfl) ?_
  refine GoH.v (Vop.pickT rfl rfl rfl rfl rfl) ?_
  refine GoH.v (Vop.mv rfl rfl rfl rfl) ?_
  refine GoH.v (Vop.mv rfl rfl rfl rfl) ?_
  refine GoH.v (Vop.pickT rfl rfl rfl rfl rfl) ?_
  refine GoH.v (Vop.mv rfl rfl rfl rfl) ?_
  -- guard on slot 102 (law.go:26)
  refine GoH.cases (d := 102) rfl (fun hc => ?_) (fun hc => ?_)
  · -- yes
    refine GoH.v (Vop.ldB rfl rfl rfl rfl Tryd.isAgg25 5 rfl Tryd.sizeOf25 rfl) ?_
    refine GoH.v (Vop.ldB rfl rfl rfl rfl Tryd.isAgg25 5 rfl Tryd.sizeOf25 rfl) ?_
    refine GoH.bsN (c := [_, _, _]) rfl rfl rfl rfl Tryd.underlying22 Tryd.sizeOf33 Tryd.zeroValue33 rfl rfl (fun b105 => ?_)
    refine GoH.callP rfl rfl rfl rfl rfl (fun _ _ => Tryd.call32 _ _) (fun w _ hS => (by exact bcheck_c (mvE b21 b20 b19 [1#64, 1#64, 4#64]) (mvE b21 b20 b19 [1#64, 1#64, 4#64]) (some ⟨b105, 0, none⟩) 3 [3#64, 3#64, 4#64] w (hT.ex hS.ext) ((hN.mono (fun x hx => by simp [hx])).at hS) ((hN.mono (fun x hx => by simp [hx])).at hS) (Sl.blk (hS.get (j := 0) rfl)) (le_mx (Nat.le_of_ble_eq_true rfl)))) ?_
    refine GoH.v (Vop.bin rfl rfl rfl rfl (bEqV (v := true) (by exact beq_iff_eq.2 ex_n)) rfl) ?_
    refine GoH.v (Vop.pickT rfl rfl rfl rfl rfl) ?_
    refine GoH.v (Vop.mv rfl rfl rfl rfl) ?_
    refine GoH.v (Vop.ldB rfl rfl rfl rfl Tryd.isAgg25 7 rfl Tryd.sizeOf25 rfl) ?_
    refine GoH.v (Vop.ldB rfl rfl rfl rfl Tryd.isAgg25 7 rfl Tryd.sizeOf25 rfl) ?_
    refine GoH.bsN (c := [_, _, _]) rfl rfl rfl rfl Tryd.underlying22 Tryd.sizeOf33 Tryd.zeroValue33 rfl rfl (fun b112 => ?_)
    refine GoH.callP rfl rfl rfl rfl rfl (fun _ _ => Tryd.call32 _ _) (fun w _ hS => (by exact bcheck_c (mvE b17 b16 b15 [2#64, 4#64, 4#64]) (mvE b17 b16 b15 [2#64, 4#64, 4#64]) (some ⟨b112, 0, none⟩) 3 [3#64, 3#64, 4#64] w (hT.ex hS.ext) ((hM.mono (fun x hx => by simp [hx])).at hS) ((hM.mono (fun x hx => by simp [hx])).at hS) (Sl.blk (hS.get (j := 0) rfl)) (le_mx (Nat.le_of_ble_eq_true rfl)))) ?_
    refine GoH.v (Vop.bin rfl rfl rfl rfl (bEqV (v := true) (by exact beq_iff_eq.2 ex_m)) rfl) ?_
    refine GoH.v (Vop.pickT rfl rfl rfl rfl rfl) ?_
    refine GoH.v (Vop.asg rfl rfl rfl rfl) ?_
    refine GoH.regionEnd ?_
    refine GoH.ret Tryd.f12 Tryd.func12 rfl (fun w' hS => ?_)
    exact ⟨hS.ext, rfl⟩
  · -- no
    cases hc
end Go.Proofs.YtcljmlnnfdaljaaDoor
