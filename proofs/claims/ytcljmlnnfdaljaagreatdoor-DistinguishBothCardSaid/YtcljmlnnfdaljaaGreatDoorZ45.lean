/- What calls of the program return, under the conditions that each theorem states. -/
import Derived.Test.YtcljmlnnfdaljaaGreatDoorZ43
import Derived.Test.YtcljmlnnfdaljaaGreatDoorZ44
import Derived.Test.YtcljmlnnfdaljaaGreatDoorZ04
namespace Go.Proofs.YtcljmlnnfdaljaaGreatDoor
open Go.RowKit Go.Proofs.Wit
/-! the law DistinguishBoth -/
theorem dp_in {m : MV} {n : Nat} {v x : Nat} (hn : m.n = (n : Int)) (hv : ValM m.n m.val m.rel) (hvn : v < n) (hxn : x < n) : dpD m (v : Int) (x : Int) = optR (dst n m.val m.rel v x) := by
  have hck : chkD m [(v : Int), (x : Int)] = 0 := chkD_zero.2 ⟨hv, fun y hy => by
    simp only [List.mem_cons, List.not_mem_nil, or_false] at hy
    rcases hy with rfl | rfl <;> omega⟩
  rw [dpD_val hck, hn]; rfl
theorem both1_c (m : MV) (n b v x : Nat) (w : World) (hT : Tab w) (hm : m.At w) (hb : w.heap[b]? = some (.cells m.v.cells 25 (0, 0))) (hn : m.n = (n : Int)) (hv : ValM m.n m.val m.rel) (hvn : v < n) (hxn : x < n) :
    Cn Tryz.prog 20 [.int .i64 v, .int .i64 x, .pointer (some ⟨b, 0, none⟩)] w (fun u _ => u = .int .i64 (deepN n m.val m.rel v x : Nat)) := by
  have hn64 := hv.n64
  have hdp := dp_in hn hv hvn hxn
  have HB : ∀ {w' : World} {j : Nat} {v : Value}, Ex [] w w' → m.v.cells[j]? = some v → w'.cell? ⟨b, j, none⟩ = some v := fun e h => Ex.cell e hb h
  refine Cn.of Tryz.func20 rfl rfl ?_
  refine gS (gR ?_)
  refine gAs ?_
  refine gE (gS (gR ?_))
  refine GoH.v (Vop.ldN (cs := m.cs.toList) rfl rfl rfl rfl Tryz.isAgg25 Tryz.sizeOf25 (fun w _ hS => Ex.cells hS.ext hb (hS.ext.keep hb))) ?_
  iterate 2 refine gMv ?_
  refine GoH.callP rfl rfl rfl rfl rfl (fun _ _ => Tryz.call10 _ _) (fun w _ hS => (by have := dDepth_c m v x w (hT.ex hS.ext) (hm.ex0 hS.ext); rw [hdp] at this; exact this)) ?_
  refine gMv ?_
  iterate 2 refine gEx ?_
  iterate 2 refine gAs ?_
  refine gE (gS (gS (gR ?_)))
  refine gMv ?_
  refine gBi bEq ?_
  refine gE ?_
  refine GoH.cond rfl (fun hc => ?_) (fun hc => ?_)
  ·
   have hd : dst n m.val m.rel v x = none := by
     cases h : dst n m.val m.rel v x with
     | none => rfl
     | some i => rw [h] at hc; exact absurd hc (by simp [optR])
   refine gS (gR ?_)
   refine gFp Tryz.underlying25 Tryz.sizeOf3 0 ?_
   refine GoH.v (Vop.ld rfl rfl rfl rfl Tryz.isAgg3 (fun w _ hS => (HB (j := 0) (v := .int .i64 m.n) hS.ext rfl))) ?_
   refine GoH.v (Vop.bin rfl rfl rfl rfl (bAddE (c := ((n + 1 : Nat) : Int)) (by omega) (by omega)) rfl) ?_
   refine gAs ?_
   refine gE ?_
   refine GoH.ret Tryz.f20 Tryz.func20 rfl (fun w' hS => ?_)
   exact ⟨hS.ext, by rw [deepN, hd]; rfl⟩
  ·
   obtain ⟨i, hd⟩ : ∃ i, dst n m.val m.rel v x = some i := by
     cases h : dst n m.val m.rel v x with
     | none => rw [h] at hc; exact absurd hc (by simp [optR])
     | some i => exact ⟨i, rfl⟩
   rw [hd]
   refine gK (gS (gS (gR ?_)))
   refine gMv ?_
   refine GoH.v (Vop.bin rfl rfl rfl rfl (bNeV (v := false) rfl) rfl) ?_
   refine gE (GoH.condF rfl (gK (gS (gR ?_))))
   refine gMv ?_
   refine gAs ?_
   refine gE ?_
   refine GoH.ret Tryz.f20 Tryz.func20 rfl (fun w' hS => ?_)
   exact ⟨hS.ext, by rw [deepN, hd]; rfl⟩
set_option maxRecDepth 8000 in
theorem both_c (m : MV) (y0 y1 y2 : Int) (w : World) (hT : Tab w) (hm : m.At w) : Cn Tryz.prog 7 [m.v, .agg (i3 y0 y1 y2)] w (fun u _ => u = .bool true) := by
  refine Cn.of Tryz.func7 rfl rfl ?_
  refine gS (gR ?_)
  refine GoH.bx rfl rfl rfl rfl (fun b2 => ?_)
  refine GoH.bx rfl rfl rfl rfl (fun b3 => ?_)
  refine gAs ?_
  refine gE (gS (gS (gR ?_)))
  refine GoH.v (Vop.ldB rfl rfl rfl rfl Tryz.isAgg25 1 rfl Tryz.sizeOf25 rfl) ?_
  refine GoH.callM _ rfl rfl rfl rfl rfl (fun _ _ => Tryz.call8 _ _) (fun w _ hS => few2_c m 10 w (hm.ex0 hS.ext)) ?_
  rintro u w1 w2 Y' hS he ⟨f1, rfl, _⟩
  refine ⟨_, hS.later he, ?_⟩
  refine gUn uNot ?_
  refine gMv ?_
  refine GoH.cases (d := 14) rfl (fun hc => ?_) (fun hc => ?_)
  ·
   iterate 3 refine gNo ?_
   refine gPt ?_
   refine gE (GoH.condT rfl (gS (gR ?_)))
   refine GoH.callP rfl rfl rfl rfl rfl (fun _ _ => Tryz.call9 _ _) (fun w _ hS => awake21_c w (hT.ex hS.ext)) ?_
   refine gAs ?_
   refine gE ?_
   refine GoH.ret Tryz.f7 Tryz.func7 rfl (fun w' hS => ?_)
   exact ⟨hS.ext, rfl⟩
  ·
   refine GoH.v (Vop.ldB rfl rfl rfl rfl Tryz.isAgg25 1 rfl Tryz.sizeOf25 rfl) ?_
   refine GoH.callP rfl rfl rfl rfl rfl (fun _ _ => Tryz.call18 _ _) (fun w _ hS => (by exact rmCheck_c m w (hm.ex0 hS.ext))) ?_
   refine gBi bNe ?_
   refine gPf ?_
   refine gE ?_
   refine GoH.cond rfl (fun hc => ?_) (fun hc => ?_)
   ·
    refine gS (gR ?_)
    refine GoH.callP rfl rfl rfl rfl rfl (fun _ _ => Tryz.call9 _ _) (fun w _ hS => awake21_c w (hT.ex hS.ext)) ?_
    refine gAs ?_
    refine gE ?_
    refine GoH.ret Tryz.f7 Tryz.func7 rfl (fun w' hS => ?_)
    exact ⟨hS.ext, rfl⟩
   ·
    have h1 : checkM m.n m.val m.rel = 0 := by simpa using hc
    have hv := checkM_zero.1 h1
    have hn1 := hv.n1
    have hn64 := hv.n64
    obtain ⟨n, hn⟩ : ∃ n : Nat, m.n = (n : Int) := ⟨m.n.toNat, by omega⟩
    refine gK (gS (gS (gR ?_)))
    refine GoH.v (Vop.ldB rfl rfl rfl rfl Tryz.isAgg43 0 rfl Tryz.sizeOf43 rfl) ?_
    refine gMv ?_
    refine gE (gB ?_)
    refine GoH.loop (σ := Nat) (fun k => [(2, .pointer (some ⟨b2, 0, none⟩)), (3, .pointer (some ⟨b3, 0, none⟩)), (20, .agg (i3 y0 y1 y2)), (21, .int .i64 k)]) (fun _ => [(some b3, .cells (i3 y0 y1 y2) 43 (0, 0)), (some b2, .cells m.v.cells 25 (0, 0))]) (fun k => k ≤ 3 ∧ ∀ i, i < k → 0 ≤ [y0, y1, y2].getD i 0 ∧ [y0, y1, y2].getD i 0 < m.n) (fun k => 3 - k) 0 ⟨Nat.zero_le _, fun _ h => absurd h (Nat.not_lt_zero _)⟩ ⟨rfl, rfl, rfl, rfl, trivial⟩ (List.Sublist.refl _) (fun k hI IH => ?_)
    obtain ⟨hk, hall⟩ := hI
    refine gS (gR ?_)
    refine gBi bLt ?_
    refine gE (gS ?_)
    refine GoH.cond rfl (fun hc => ?_) (fun hc => ?_)
    ·
     have hlt : k < 3 := by simp at hc; omega
     refine gK (gS (gB (gS (gR ?_))))
     refine GoH.v (Vop.ixA rfl rfl rfl rfl rfl Tryz.underlying43 Tryz.sizeOf3 Tryz.isAgg3 k ⟨rfl, hlt⟩ (i3_get hlt)) ?_
     refine gAs ?_
     refine gE (gS (gR ?_))
     refine gMv ?_
     refine gBi bLt ?_
     refine gMv ?_
     refine GoH.cases (d := 26) rfl (fun hc => ?_) (fun hc => ?_)
     ·
      iterate 4 refine gNo ?_
      refine gPt ?_
      refine gE (GoH.condT rfl (gS (gR ?_)))
      refine GoH.callP rfl rfl rfl rfl rfl (fun _ _ => Tryz.call9 _ _) (fun w _ hS => awake21_c w (hT.ex hS.ext)) ?_
      refine gAs ?_
      refine gE ?_
      refine GoH.ret Tryz.f7 Tryz.func7 rfl (fun w' hS => ?_)
      exact ⟨hS.ext, rfl⟩
     ·
      have h0 : 0 ≤ [y0, y1, y2].getD k 0 := by simpa using hc
      refine gMv ?_
      refine gFp Tryz.underlying25 Tryz.sizeOf3 0 ?_
      refine GoH.v (Vop.ldo (v := .int .i64 m.n) rfl rfl rfl rfl Tryz.isAgg3 1 rfl rfl) ?_
      refine gBi bGe ?_
      refine gPf ?_
      refine gE ?_
      refine GoH.cond rfl (fun hc => ?_) (fun hc => ?_)
      ·
       refine gS (gR ?_)
       refine GoH.callP rfl rfl rfl rfl rfl (fun _ _ => Tryz.call9 _ _) (fun w _ hS => awake21_c w (hT.ex hS.ext)) ?_
       refine gAs ?_
       refine gE ?_
       refine GoH.ret Tryz.f7 Tryz.func7 rfl (fun w' hS => ?_)
       exact ⟨hS.ext, rfl⟩
      ·
       have h2 : [y0, y1, y2].getD k 0 < m.n := by simpa using hc
       refine gK (gIb (gR ?_))
       refine GoH.v (Vop.bin rfl rfl rfl rfl (bAdd (by omega)) rfl) ?_
       refine gMv ?_
       refine gE ?_
       exact IH (k + 1) _ _ ⟨hlt, fun i hi => by rcases Nat.lt_succ_iff_lt_or_eq.1 hi with h | rfl; exact hall i h; exact ⟨h0, h2⟩⟩ (by omega) ⟨rfl, rfl, rfl, rfl, trivial⟩ (List.Sublist.refl _)
    ·
     have hge : ¬ k < 3 := by simp at hc; omega
     obtain rfl : k = 3 := by omega
     have ha := hall 0 (by omega)
     have hb := hall 1 (by omega)
     have hc3 := hall 2 (by omega)
     simp only [List.getD_cons_zero, List.getD_cons_succ] at ha hb hc3
     obtain ⟨a, rfl⟩ : ∃ n : Nat, y0 = (n : Int) := ⟨y0.toNat, by omega⟩
     obtain ⟨b, rfl⟩ : ∃ n : Nat, y1 = (n : Int) := ⟨y1.toNat, by omega⟩
     obtain ⟨c, rfl⟩ : ∃ n : Nat, y2 = (n : Int) := ⟨y2.toNat, by omega⟩
     have hN1 : 1 ≤ n := by omega
     have hN64 : n ≤ 64 := by omega
     have ha' : a < n := by omega
     have hb' : b < n := by omega
     have hc' : c < n := by omega
     have htri := deep_tri (val := m.val) (rel := m.rel) hN1 hN64 (a := a) (b := b) (c := c)
     have hsym := deep_symm (val := m.val) (rel := m.rel) hN1 hN64 (v := b) (x := a)
     have hself := deep_self (val := m.val) (rel := m.rel) hN1 hN64 (v := a)
     refine GoH.exit rfl (gS (gR ?_))
     refine GoH.v (Vop.mkFunc rfl rfl rfl rfl rfl) ?_
     refine gAs ?_
     refine gE (gS ?_)
     refine GoH.draw 21 mixed rfl ?_
     refine rMv ?_
     refine RdGo.v (Vop.idxA rfl rfl rfl rfl rfl Tryz.underlying43 Tryz.sizeOf3 0 rfl (by decide)) ?_
     refine rLo Tryz.isAgg3 0 ?_
     refine RdGo.v (Vop.idxA rfl rfl rfl rfl rfl Tryz.underlying43 Tryz.sizeOf3 1 rfl (by decide)) ?_
     refine rLo Tryz.isAgg3 0 ?_
     refine RdGo.callCP (fs := []) rfl rfl rfl rfl rfl (fun _ _ => Tryz.call20 _ _) (fun w _ hS => by exact both1_c m n b2 a b w (hT.ex hS.ext) (hm.ex0 hS.ext) (hS.get (j := 1) rfl) hn hv ha' hb') ?_
     refine rMv ?_
     refine RdGo.v (Vop.idxA rfl rfl rfl rfl rfl Tryz.underlying43 Tryz.sizeOf3 1 rfl (by decide)) ?_
     refine rLo Tryz.isAgg3 0 ?_
     refine RdGo.v (Vop.idxA rfl rfl rfl rfl rfl Tryz.underlying43 Tryz.sizeOf3 2 rfl (by decide)) ?_
     refine rLo Tryz.isAgg3 0 ?_
     refine RdGo.callCP (fs := []) rfl rfl rfl rfl rfl (fun _ _ => Tryz.call20 _ _) (fun w _ hS => by exact both1_c m n b2 b c w (hT.ex hS.ext) (hm.ex0 hS.ext) (hS.get (j := 1) rfl) hn hv hb' hc') ?_
     refine rMv ?_
     refine RdGo.v (Vop.idxA rfl rfl rfl rfl rfl Tryz.underlying43 Tryz.sizeOf3 0 rfl (by decide)) ?_
     refine rLo Tryz.isAgg3 0 ?_
     refine RdGo.v (Vop.idxA rfl rfl rfl rfl rfl Tryz.underlying43 Tryz.sizeOf3 2 rfl (by decide)) ?_
     refine rLo Tryz.isAgg3 0 ?_
     refine RdGo.callCP (fs := []) rfl rfl rfl rfl rfl (fun _ _ => Tryz.call20 _ _) (fun w _ hS => by exact both1_c m n b2 a c w (hT.ex hS.ext) (hm.ex0 hS.ext) (hS.get (j := 1) rfl) hn hv ha' hc') ?_
     iterate 3 refine rAs ?_
     refine RdGo.nil ?_
     refine gE (gS ?_)
     refine GoH.draw 39 mixed rfl ?_
     refine rMv ?_
     refine RdGo.v (Vop.bin rfl rfl rfl rfl (bGeV (v := true) (decide_eq_true (by omega))) rfl) ?_
     iterate 2 refine rMv ?_
     refine RdGo.v (Vop.bin rfl rfl rfl rfl (bGeV (v := true) (decide_eq_true (by omega))) rfl) ?_
     refine rPt ?_
     iterate 4 refine rMv ?_
     refine RdGo.v (Vop.blt rfl rfl rfl (blt_min (c := ((min (deepN n m.val m.rel a b) (deepN n m.val m.rel b c) : Nat) : Int)) (by omega)) rfl) ?_
     refine RdGo.v (Vop.bin rfl rfl rfl rfl (bGeV (v := true) (decide_eq_true (by omega))) rfl) ?_
     refine rPt ?_
     iterate 3 refine rMv ?_
     refine RdGo.v (Vop.idxA rfl rfl rfl rfl rfl Tryz.underlying43 Tryz.sizeOf3 1 rfl (by decide)) ?_
     refine rLo Tryz.isAgg3 0 ?_
     refine RdGo.v (Vop.idxA rfl rfl rfl rfl rfl Tryz.underlying43 Tryz.sizeOf3 0 rfl (by decide)) ?_
     refine rLo Tryz.isAgg3 0 ?_
     refine RdGo.callCP (fs := []) rfl rfl rfl rfl rfl (fun _ _ => Tryz.call20 _ _) (fun w _ hS => by exact both1_c m n b2 b a w (hT.ex hS.ext) (hm.ex0 hS.ext) (hS.get (j := 1) rfl) hn hv hb' ha') ?_
     refine RdGo.v (Vop.bin rfl rfl rfl rfl (bEqV (v := true) (by rw [hsym]; simp)) rfl) ?_
     refine rPt ?_
     iterate 2 refine rMv ?_
     refine RdGo.v (Vop.idxA rfl rfl rfl rfl rfl Tryz.underlying43 Tryz.sizeOf3 0 rfl (by decide)) ?_
     refine rLo Tryz.isAgg3 0 ?_
     refine RdGo.v (Vop.idxA rfl rfl rfl rfl rfl Tryz.underlying43 Tryz.sizeOf3 0 rfl (by decide)) ?_
     refine rLo Tryz.isAgg3 0 ?_
     refine RdGo.callCP (fs := []) rfl rfl rfl rfl rfl (fun _ _ => Tryz.call20 _ _) (fun w _ hS => by exact both1_c m n b2 a a w (hT.ex hS.ext) (hm.ex0 hS.ext) (hS.get (j := 1) rfl) hn hv ha' ha') ?_
     refine rFp Tryz.underlying25 Tryz.sizeOf3 0 ?_
     refine RdGo.v (Vop.ldo (v := .int .i64 m.n) rfl rfl rfl rfl Tryz.isAgg3 1 rfl rfl) ?_
     refine RdGo.v (Vop.bin rfl rfl rfl rfl (bAddE (c := ((n + 1 : Nat) : Int)) (by omega) (by omega)) rfl) ?_
     refine RdGo.v (Vop.bin rfl rfl rfl rfl (bEqV (v := true) (by rw [hself]; simp)) rfl) ?_
     refine rPt ?_
     refine rMv ?_
     refine RdGo.callP rfl rfl rfl rfl rfl (fun _ _ => Tryz.call9 _ _) (fun w _ hS => awake21_c w (hT.ex hS.ext)) ?_
     refine rPt ?_
     refine rAs ?_
     refine RdGo.nil ?_
     refine gE ?_
     refine GoH.ret Tryz.f7 Tryz.func7 rfl (fun w' hS => ?_)
     exact ⟨hS.ext, rfl⟩
end Go.Proofs.YtcljmlnnfdaljaaGreatDoor
