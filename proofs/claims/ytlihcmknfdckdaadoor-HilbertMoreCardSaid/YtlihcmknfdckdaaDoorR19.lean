/- What calls of the program return, under the conditions that each theorem states. -/
import Derived.Test.YtlihcmknfdckdaaDoorR05
import Derived.Test.YtlihcmknfdckdaaDoorR04
namespace Go.Proofs.YtlihcmknfdckdaaDoor
open Go.RowKit Go.Proofs.Wit
/-! the reference's check of a formula -/
theorem usesX_c (op : Int) (w : World) : Cn Tryd.prog 92 [.int .i64 op] w (fun v _ => v = .bool (usX op)) := by
  refine Cn.of Tryd.func92 rfl rfl ?_
  refine gS (gR ?_); refine gAs ?_; refine gE (gS (gR ?_)); refine gMv ?_; refine gBi bGe ?_; refine gMv ?_
  refine GoH.cases (d := 5) rfl (fun hc => ?_) (fun hc => ?_)
  ·
   have h1 : 4 ≤ op := by simpa using hc
   refine gMv ?_; refine gBi bLe ?_; refine gPt ?_; refine gAs ?_; refine gE ?_
   refine GoH.ret Tryd.f92 Tryd.func92 rfl (fun w' hS => ?_)
   exact ⟨hS.ext, by rw [usX, decide_eq_true h1, Bool.true_and]; rfl⟩
  ·
   have h1 : ¬ 4 ≤ op := by simpa using hc
   iterate 2 refine gNo ?_
   refine gPf ?_; refine gAs ?_; refine gE ?_
   refine GoH.ret Tryd.f92 Tryd.func92 rfl (fun w' hS => ?_)
   exact ⟨hS.ext, by rw [usX, decide_eq_false h1, Bool.false_and]; rfl⟩
theorem group_c (op : Int) (w : World) : Cn Tryd.prog 97 [.int .i64 op] w (fun v _ => v = .bool (grO op)) := by
  refine Cn.of Tryd.func97 rfl rfl ?_
  refine gS (gR ?_); refine gAs ?_; refine gE (gS (gR ?_)); refine gMv ?_; refine gBi bGe ?_; refine gMv ?_
  refine GoH.cases (d := 5) rfl (fun hc => ?_) (fun hc => ?_)
  ·
   have h1 : 11 ≤ op := by simpa using hc
   refine gMv ?_; refine gBi bLe ?_; refine gPt ?_; refine gAs ?_; refine gE ?_
   refine GoH.ret Tryd.f97 Tryd.func97 rfl (fun w' hS => ?_)
   exact ⟨hS.ext, by rw [grO, decide_eq_true h1, Bool.true_and]; rfl⟩
  ·
   have h1 : ¬ 11 ≤ op := by simpa using hc
   iterate 2 refine gNo ?_
   refine gPf ?_; refine gAs ?_; refine gE ?_
   refine GoH.ret Tryd.f97 Tryd.func97 rfl (fun w' hS => ?_)
   exact ⟨hS.ext, by rw [grO, decide_eq_false h1, Bool.false_and]; rfl⟩
theorem agent_c (op : Int) (w : World) : Cn Tryd.prog 90 [.int .i64 op] w (fun v _ => v = .bool (agO op)) := by
  refine Cn.of Tryd.func90 rfl rfl ?_
  refine gS (gR ?_); refine gAs ?_; refine gE (gS (gR ?_)); refine gMv ?_; refine gBi bEq ?_; refine gMv ?_
  refine GoH.cases (d := 5) rfl (fun hc => ?_) (fun hc => ?_)
  ·
   have h9 : op = 9 := by simpa using hc
   iterate 2 refine gNo ?_
   refine gPt ?_; refine gMv ?_
   iterate 2 refine gNo ?_
   refine gPt ?_; refine gMv ?_
   iterate 2 refine gNo ?_
   refine gPt ?_; refine gAs ?_; refine gE ?_
   refine GoH.ret Tryd.f90 Tryd.func90 rfl (fun w' hS => ?_)
   exact ⟨hS.ext, by subst h9; rfl⟩
  ·
   have h9 : op ≠ 9 := by simpa using hc
   refine gMv ?_; refine gBi bEq ?_; refine gPf ?_; refine gMv ?_
   refine GoH.cases (d := 9) rfl (fun hc => ?_) (fun hc => ?_)
   ·
    have h10 : op = 10 := by simpa using hc
    iterate 2 refine gNo ?_
    refine gPt ?_; refine gMv ?_
    iterate 2 refine gNo ?_
    refine gPt ?_; refine gAs ?_; refine gE ?_
    refine GoH.ret Tryd.f90 Tryd.func90 rfl (fun w' hS => ?_)
    exact ⟨hS.ext, by subst h10; rfl⟩
   ·
    have h10 : op ≠ 10 := by simpa using hc
    refine gMv ?_; refine gBi bEq ?_; refine gPf ?_; refine gMv ?_
    refine GoH.cases (d := 13) rfl (fun hc => ?_) (fun hc => ?_)
    ·
     have h14 : op = 14 := by simpa using hc
     iterate 2 refine gNo ?_
     refine gPt ?_; refine gAs ?_; refine gE ?_
     refine GoH.ret Tryd.f90 Tryd.func90 rfl (fun w' hS => ?_)
     exact ⟨hS.ext, by subst h14; rfl⟩
    ·
     have h14 : op ≠ 14 := by simpa using hc
     refine gMv ?_; refine gBi bEq ?_; refine gPf ?_; refine gAs ?_; refine gE ?_
     refine GoH.ret Tryd.f90 Tryd.func90 rfl (fun w' hS => ?_)
     exact ⟨hS.ext, by simp [agO, h9, h10, h14, retV]⟩
theorem usesY_c (op : Int) (w : World) : Cn Tryd.prog 93 [.int .i64 op] w (fun v _ => v = .bool (usY op)) := by
  refine Cn.of Tryd.func93 rfl rfl ?_
  refine gS (gR ?_); refine gAs ?_; refine gE (gS (gR ?_)); refine gMv ?_; refine gBi bGe ?_; refine gMv ?_
  refine GoH.cases (d := 5) rfl (fun hc => ?_) (fun hc => ?_)
  ·
   have h5 : 5 ≤ op := by simpa using hc
   refine gMv ?_; refine gBi bLe ?_; refine gPt ?_; refine gMv ?_
   refine GoH.cases (d := 9) rfl (fun hc => ?_) (fun hc => ?_)
   ·
    have h8 : op ≤ 8 := by simpa using hc
    iterate 2 refine gNo ?_
    refine gPt ?_; refine gMv ?_
    iterate 2 refine gNo ?_
    refine gPt ?_; refine gMv ?_
    iterate 2 refine gNo ?_
    refine gPt ?_; refine gMv ?_
    iterate 2 refine gNo ?_
    refine gPt ?_; refine gMv ?_
    iterate 2 refine gNo ?_
    refine gPt ?_; refine gAs ?_; refine gE ?_
    refine GoH.ret Tryd.f93 Tryd.func93 rfl (fun w' hS => ?_)
    exact ⟨hS.ext, by simp [usY, h5, h8, retV]⟩
   ·
    have h8 : ¬ op ≤ 8 := by simpa using hc
    have hlo : (decide (5 ≤ op) && decide (op ≤ 8)) = false := by rw [decide_eq_false h8, Bool.and_false]
    refine gMv ?_; refine gBi bEq ?_; refine gPf ?_; refine gMv ?_
    refine GoH.cases (d := 13) rfl (fun hc => ?_) (fun hc => ?_)
    ·
     have h13 : op = 13 := by simpa using hc
     iterate 2 refine gNo ?_
     refine gPt ?_; refine gMv ?_
     iterate 2 refine gNo ?_
     refine gPt ?_; refine gMv ?_
     iterate 2 refine gNo ?_
     refine gPt ?_; refine gMv ?_
     iterate 2 refine gNo ?_
     refine gPt ?_; refine gAs ?_; refine gE ?_
     refine GoH.ret Tryd.f93 Tryd.func93 rfl (fun w' hS => ?_)
     exact ⟨hS.ext, by subst h13; rfl⟩
    ·
     have h13 : op ≠ 13 := by simpa using hc
     refine gMv ?_; refine gBi bEq ?_; refine gPf ?_; refine gMv ?_
     refine GoH.cases (d := 17) rfl (fun hc => ?_) (fun hc => ?_)
     ·
      have h14 : op = 14 := by simpa using hc
      iterate 2 refine gNo ?_
      refine gPt ?_; refine gMv ?_
      iterate 2 refine gNo ?_
      refine gPt ?_; refine gMv ?_
      iterate 2 refine gNo ?_
      refine gPt ?_; refine gAs ?_; refine gE ?_
      refine GoH.ret Tryd.f93 Tryd.func93 rfl (fun w' hS => ?_)
      exact ⟨hS.ext, by subst h14; rfl⟩
     ·
      have h14 : op ≠ 14 := by simpa using hc
      refine gMv ?_; refine gBi bEq ?_; refine gPf ?_; refine gMv ?_
      refine GoH.cases (d := 21) rfl (fun hc => ?_) (fun hc => ?_)
      ·
       have h16 : op = 16 := by simpa using hc
       iterate 2 refine gNo ?_
       refine gPt ?_; refine gMv ?_
       iterate 2 refine gNo ?_
       refine gPt ?_; refine gAs ?_; refine gE ?_
       refine GoH.ret Tryd.f93 Tryd.func93 rfl (fun w' hS => ?_)
       exact ⟨hS.ext, by subst h16; rfl⟩
      ·
       have h16 : op ≠ 16 := by simpa using hc
       refine gMv ?_; refine gBi bEq ?_; refine gPf ?_; refine gMv ?_
       refine GoH.cases (d := 25) rfl (fun hc => ?_) (fun hc => ?_)
       ·
        have h19 : op = 19 := by simpa using hc
        iterate 2 refine gNo ?_
        refine gPt ?_; refine gAs ?_; refine gE ?_
        refine GoH.ret Tryd.f93 Tryd.func93 rfl (fun w' hS => ?_)
        exact ⟨hS.ext, by subst h19; rfl⟩
       ·
        have h19 : op ≠ 19 := by simpa using hc
        refine gMv ?_; refine gBi bEq ?_; refine gPf ?_; refine gAs ?_; refine gE ?_
        refine GoH.ret Tryd.f93 Tryd.func93 rfl (fun w' hS => ?_)
        exact ⟨hS.ext, by simp [usY, hlo, h13, h14, h16, h19, retV]⟩
  ·
   have h5 : ¬ 5 ≤ op := by simpa using hc
   have hlo : (decide (5 ≤ op) && decide (op ≤ 8)) = false := by rw [decide_eq_false h5, Bool.false_and]
   iterate 2 refine gNo ?_
   refine gPf ?_
   iterate 2 refine gMv ?_
   refine gBi bEq ?_; refine gPf ?_; refine gMv ?_
   refine GoH.cases (d := 13) rfl (fun hc => ?_) (fun hc => ?_)
   ·
    have h13 : op = 13 := by simpa using hc
    iterate 2 refine gNo ?_
    refine gPt ?_; refine gMv ?_
    iterate 2 refine gNo ?_
    refine gPt ?_; refine gMv ?_
    iterate 2 refine gNo ?_
    refine gPt ?_; refine gMv ?_
    iterate 2 refine gNo ?_
    refine gPt ?_; refine gAs ?_; refine gE ?_
    refine GoH.ret Tryd.f93 Tryd.func93 rfl (fun w' hS => ?_)
    exact ⟨hS.ext, by subst h13; rfl⟩
   ·
    have h13 : op ≠ 13 := by simpa using hc
    refine gMv ?_; refine gBi bEq ?_; refine gPf ?_; refine gMv ?_
    refine GoH.cases (d := 17) rfl (fun hc => ?_) (fun hc => ?_)
    ·
     have h14 : op = 14 := by simpa using hc
     iterate 2 refine gNo ?_
     refine gPt ?_; refine gMv ?_
     iterate 2 refine gNo ?_
     refine gPt ?_; refine gMv ?_
     iterate 2 refine gNo ?_
     refine gPt ?_; refine gAs ?_; refine gE ?_
     refine GoH.ret Tryd.f93 Tryd.func93 rfl (fun w' hS => ?_)
     exact ⟨hS.ext, by subst h14; rfl⟩
    ·
     have h14 : op ≠ 14 := by simpa using hc
     refine gMv ?_; refine gBi bEq ?_; refine gPf ?_; refine gMv ?_
     refine GoH.cases (d := 21) rfl (fun hc => ?_) (fun hc => ?_)
     ·
      have h16 : op = 16 := by simpa using hc
      iterate 2 refine gNo ?_
      refine gPt ?_; refine gMv ?_
      iterate 2 refine gNo ?_
      refine gPt ?_; refine gAs ?_; refine gE ?_
      refine GoH.ret Tryd.f93 Tryd.func93 rfl (fun w' hS => ?_)
      exact ⟨hS.ext, by subst h16; rfl⟩
     ·
      have h16 : op ≠ 16 := by simpa using hc
      refine gMv ?_; refine gBi bEq ?_; refine gPf ?_; refine gMv ?_
      refine GoH.cases (d := 25) rfl (fun hc => ?_) (fun hc => ?_)
      ·
       have h19 : op = 19 := by simpa using hc
       iterate 2 refine gNo ?_
       refine gPt ?_; refine gAs ?_; refine gE ?_
       refine GoH.ret Tryd.f93 Tryd.func93 rfl (fun w' hS => ?_)
       exact ⟨hS.ext, by subst h19; rfl⟩
      ·
       have h19 : op ≠ 19 := by simpa using hc
       refine gMv ?_; refine gBi bEq ?_; refine gPf ?_; refine gAs ?_; refine gE ?_
       refine GoH.ret Tryd.f93 Tryd.func93 rfl (fun w' hS => ?_)
       exact ⟨hS.ext, by simp [usY, hlo, h13, h14, h16, h19, retV]⟩
set_option maxRecDepth 2000 in
theorem rnode_leaf (n : NV) (at_ : Int) (w : World) (hop : 1 ≤ n.op ∧ n.op ≤ 21) (hX : usX n.op = false) (hY : usY n.op = false) (h3 : (n.op == 3) = false) (hA : agO n.op = false) (h17 : (n.op == 17) = false) (hG : grO n.op = false) :
    Cn Tryd.prog 56 [n.v, .int .i64 at_] w (fun v _ => v = .int .i64 (nodeE n at_)) := by
  refine Cn.of Tryd.func56 rfl rfl ?_
  refine gS (gR ?_)
  refine GoH.bx rfl rfl rfl rfl (fun b2 => ?_)
  refine gAs ?_; refine gE (gS (gS (gR ?_))); refine gFp Tryd.underlying80 Tryd.sizeOf3 0 ?_; refine gLo Tryd.isAgg3 0 ?_
  refine GoH.v (Vop.bin rfl rfl rfl rfl (bLtV (v := false) (decide_eq_false (by omega))) rfl) ?_
  refine gMv ?_; refine gFp Tryd.underlying80 Tryd.sizeOf3 0 ?_; refine gLo Tryd.isAgg3 0 ?_
  refine GoH.v (Vop.bin rfl rfl rfl rfl (bGtV (v := false) (decide_eq_false (by omega))) rfl) ?_
  refine gPf ?_; refine gE (GoH.condF rfl (gK (gS (gS (gR ?_))))); refine gFp Tryd.underlying80 Tryd.sizeOf3 0 ?_; refine gLo Tryd.isAgg3 0 ?_
  refine GoH.callP rfl rfl rfl rfl rfl (fun _ _ => Tryd.call92 _ _) (fun w _ hS => (by have := usesX_c n.op w; rw [hX] at this; exact this)) ?_
  refine gMv ?_
  iterate 9 refine gNo ?_
  refine gPf ?_; refine gMv ?_; refine gFp Tryd.underlying80 Tryd.sizeOf3 0 ?_; refine gLo Tryd.isAgg3 0 ?_
  refine GoH.callP rfl rfl rfl rfl rfl (fun _ _ => Tryd.call92 _ _) (fun w _ hS => (by have := usesX_c n.op w; rw [hX] at this; exact this)) ?_
  refine gUn uNot ?_; refine gMv ?_; refine gFp Tryd.underlying80 Tryd.sizeOf3 4 ?_; refine gLo Tryd.isAgg3 0 ?_; refine gBi bNe ?_; refine gPt ?_; refine gPf ?_; refine gE ?_
  refine GoH.cond rfl (fun hc => ?_) (fun hc => ?_)
  ·
   have hb : n.x ≠ 0 := by simpa using hc
   refine gS (gR ?_); refine gAs ?_; refine gE ?_
   refine GoH.ret Tryd.f56 Tryd.func56 rfl (fun w' hS => ?_)
   exact ⟨hS.ext, by rw [show nodeE n at_ = 3 from nodeE_x hop (by simp [opB, hX]; omega)]; rfl⟩
  ·
   have hzx : n.x = 0 := by simpa using hc
   have hox : opB (usX n.op) n.x at_ = true := by simp [opB, hX]; omega
   refine gK (gS (gS (gR ?_))); refine gFp Tryd.underlying80 Tryd.sizeOf3 0 ?_; refine gLo Tryd.isAgg3 0 ?_
   refine GoH.callP rfl rfl rfl rfl rfl (fun _ _ => Tryd.call93 _ _) (fun w _ hS => (by have := usesY_c n.op w; rw [hY] at this; exact this)) ?_
   refine gMv ?_
   iterate 9 refine gNo ?_
   refine gPf ?_; refine gMv ?_; refine gFp Tryd.underlying80 Tryd.sizeOf3 0 ?_; refine gLo Tryd.isAgg3 0 ?_
   refine GoH.callP rfl rfl rfl rfl rfl (fun _ _ => Tryd.call93 _ _) (fun w _ hS => (by have := usesY_c n.op w; rw [hY] at this; exact this)) ?_
   refine gUn uNot ?_; refine gMv ?_; refine gFp Tryd.underlying80 Tryd.sizeOf3 5 ?_; refine gLo Tryd.isAgg3 0 ?_; refine gBi bNe ?_; refine gPt ?_; refine gPf ?_; refine gE ?_
   refine GoH.cond rfl (fun hc => ?_) (fun hc => ?_)
   ·
    have hb : n.y ≠ 0 := by simpa using hc
    refine gS (gR ?_); refine gAs ?_; refine gE ?_
    refine GoH.ret Tryd.f56 Tryd.func56 rfl (fun w' hS => ?_)
    exact ⟨hS.ext, by rw [show nodeE n at_ = 3 from nodeE_y hop (by simp [opB, hY]; omega)]; rfl⟩
   ·
    have hzy : n.y = 0 := by simpa using hc
    have hoy : opB (usY n.op) n.y at_ = true := by simp [opB, hY]; omega
    refine gK (gS (gR ?_)); refine gFp Tryd.underlying80 Tryd.sizeOf3 0 ?_; refine gLo Tryd.isAgg3 0 ?_
    refine GoH.v (Vop.bin rfl rfl rfl rfl (bEqV (v := false) h3) rfl) ?_
    refine gMv ?_; refine gFp Tryd.underlying80 Tryd.sizeOf3 0 ?_; refine gLo Tryd.isAgg3 0 ?_
    refine GoH.callP rfl rfl rfl rfl rfl (fun _ _ => Tryd.call90 _ _) (fun w _ hS => (by have := agent_c n.op w; rw [hA] at this; exact this)) ?_
    refine gPf ?_; refine gMv ?_; refine gFp Tryd.underlying80 Tryd.sizeOf3 0 ?_; refine gLo Tryd.isAgg3 0 ?_
    refine GoH.v (Vop.bin rfl rfl rfl rfl (bEqV (v := false) h17) rfl) ?_
    refine gPf ?_; refine gAs ?_; refine gE (gS (gS (gR ?_))); refine gMv ?_; refine gUn uNot ?_; refine gMv ?_; refine gFp Tryd.underlying80 Tryd.sizeOf3 1 ?_; refine gLo Tryd.isAgg3 0 ?_; refine gBi bNe ?_; refine gPt ?_; refine gMv ?_
    refine GoH.cases (d := 84) rfl (fun hc => ?_) (fun hc => ?_)
    ·
     have hb : n.i ≠ 0 := by simpa using hc
     iterate 8 refine gNo ?_
     refine gPt ?_; refine gMv ?_
     iterate 9 refine gNo ?_
     refine gPt ?_; refine gE (GoH.condT rfl (gS (gR ?_))); refine gAs ?_; refine gE ?_
     refine GoH.ret Tryd.f56 Tryd.func56 rfl (fun w' hS => ?_)
     exact ⟨hS.ext, by rw [show nodeE n at_ = 3 from (nodeE_f hop hox hoy).trans (fldE_3 (by simp [iO, bne, h3, h17, hA, hG]; omega))]; rfl⟩
    ·
     have hzi : n.i = 0 := by simpa using hc
     refine gFp Tryd.underlying80 Tryd.sizeOf3 0 ?_; refine gLo Tryd.isAgg3 0 ?_
     refine GoH.v (Vop.bin rfl rfl rfl rfl (bNeV (v := true) (by rw [bne, h17]; rfl)) rfl) ?_
     refine gMv ?_; refine gFp Tryd.underlying80 Tryd.sizeOf3 2 ?_; refine gLo Tryd.isAgg3 0 ?_; refine gBi bNe ?_; refine gPt ?_; refine gPf ?_; refine gMv ?_
     refine GoH.cases (d := 94) rfl (fun hc => ?_) (fun hc => ?_)
     ·
      have hb : n.e ≠ 0 := by simpa using hc
      iterate 9 refine gNo ?_
      refine gPt ?_; refine gE (GoH.condT rfl (gS (gR ?_))); refine gAs ?_; refine gE ?_
      refine GoH.ret Tryd.f56 Tryd.func56 rfl (fun w' hS => ?_)
      exact ⟨hS.ext, by rw [show nodeE n at_ = 3 from (nodeE_f hop hox hoy).trans (fldE_3 (by simp [iO, bne, h3, h17, hA, hG]; omega))]; rfl⟩
     ·
      have hze : n.e = 0 := by simpa using hc
      refine gFp Tryd.underlying80 Tryd.sizeOf3 0 ?_; refine gLo Tryd.isAgg3 0 ?_
      refine GoH.callP rfl rfl rfl rfl rfl (fun _ _ => Tryd.call97 _ _) (fun w _ hS => (by have := group_c n.op w; rw [hG] at this; exact this)) ?_
      refine gUn uNot ?_; refine gMv ?_; refine gFp Tryd.underlying80 Tryd.sizeOf3 3 ?_; refine gLo Tryd.isAgg3 0 ?_; refine gBi bNe ?_; refine gPt ?_; refine gPf ?_; refine gE ?_
      refine GoH.cond rfl (fun hc => ?_) (fun hc => ?_)
      ·
       have hb : n.g ≠ 0 := by simpa using hc
       refine gS (gR ?_); refine gAs ?_; refine gE ?_
       refine GoH.ret Tryd.f56 Tryd.func56 rfl (fun w' hS => ?_)
       exact ⟨hS.ext, by rw [show nodeE n at_ = 3 from (nodeE_f hop hox hoy).trans (fldE_3 (by simp [iO, bne, h3, h17, hA, hG]; omega))]; rfl⟩
      ·
       have hzg : n.g = 0 := by simpa using hc
       have hfa : (!iO n.op && n.i != 0 || n.op != 17 && n.e != 0 || !grO n.op && n.g != 0) = false := by simp [iO, bne, h3, h17, hA, hG]; omega
       refine gK (gS (gS (gR ?_))); refine gFp Tryd.underlying80 Tryd.sizeOf3 0 ?_; refine gLo Tryd.isAgg3 0 ?_
       refine GoH.v (Vop.bin rfl rfl rfl rfl (bEqV (v := false) h3) rfl) ?_
       refine gMv ?_
       iterate 8 refine gNo ?_
       refine gPf ?_; refine gMv ?_; refine gFp Tryd.underlying80 Tryd.sizeOf3 0 ?_; refine gLo Tryd.isAgg3 0 ?_
       refine GoH.callP rfl rfl rfl rfl rfl (fun _ _ => Tryd.call90 _ _) (fun w _ hS => (by have := agent_c n.op w; rw [hA] at this; exact this)) ?_
       refine gMv ?_
       iterate 8 refine gNo ?_
       iterate 2 refine gPf ?_
       refine gE (GoH.condF rfl (gK (gS (gS (gR ?_))))); refine gFp Tryd.underlying80 Tryd.sizeOf3 0 ?_; refine gLo Tryd.isAgg3 0 ?_
       refine GoH.v (Vop.bin rfl rfl rfl rfl (bEqV (v := false) h17) rfl) ?_
       refine gMv ?_
       iterate 18 refine gNo ?_
       refine gPf ?_; refine gE (GoH.condF rfl (gK (gS (gS (gR ?_))))); refine gFp Tryd.underlying80 Tryd.sizeOf3 0 ?_; refine gLo Tryd.isAgg3 0 ?_
       refine GoH.callP rfl rfl rfl rfl rfl (fun _ _ => Tryd.call97 _ _) (fun w _ hS => (by have := group_c n.op w; rw [hG] at this; exact this)) ?_
       refine gMv ?_
       iterate 8 refine gNo ?_
       refine gPf ?_; refine gE (GoH.condF rfl (gK (gS (gR ?_)))); refine gAs ?_; refine gE ?_
       refine GoH.ret Tryd.f56 Tryd.func56 rfl (fun w' hS => ?_)
       exact ⟨hS.ext, by rw [show nodeE n at_ = 0 from (nodeE_f hop hox hoy).trans (fldE_0 hfa (by simp [h3, h17, hA, hG]))]; rfl⟩
set_option maxRecDepth 2000 in
theorem rnode_fact (n : NV) (at_ : Int) (w : World) (hop : 1 ≤ n.op ∧ n.op ≤ 21) (hX : usX n.op = false) (hY : usY n.op = false) (h3 : (n.op == 3) = true) (hA : agO n.op = false) (h17 : (n.op == 17) = false) (hG : grO n.op = false) :
    Cn Tryd.prog 56 [n.v, .int .i64 at_] w (fun v _ => v = .int .i64 (nodeE n at_)) := by
  refine Cn.of Tryd.func56 rfl rfl ?_
  refine gS (gR ?_)
  refine GoH.bx rfl rfl rfl rfl (fun b2 => ?_)
  refine gAs ?_; refine gE (gS (gS (gR ?_))); refine gFp Tryd.underlying80 Tryd.sizeOf3 0 ?_; refine gLo Tryd.isAgg3 0 ?_
  refine GoH.v (Vop.bin rfl rfl rfl rfl (bLtV (v := false) (decide_eq_false (by omega))) rfl) ?_
  refine gMv ?_; refine gFp Tryd.underlying80 Tryd.sizeOf3 0 ?_; refine gLo Tryd.isAgg3 0 ?_
  refine GoH.v (Vop.bin rfl rfl rfl rfl (bGtV (v := false) (decide_eq_false (by omega))) rfl) ?_
  refine gPf ?_; refine gE (GoH.condF rfl (gK (gS (gS (gR ?_))))); refine gFp Tryd.underlying80 Tryd.sizeOf3 0 ?_; refine gLo Tryd.isAgg3 0 ?_
  refine GoH.callP rfl rfl rfl rfl rfl (fun _ _ => Tryd.call92 _ _) (fun w _ hS => (by have := usesX_c n.op w; rw [hX] at this; exact this)) ?_
  refine gMv ?_
  iterate 9 refine gNo ?_
  refine gPf ?_; refine gMv ?_; refine gFp Tryd.underlying80 Tryd.sizeOf3 0 ?_; refine gLo Tryd.isAgg3 0 ?_
  refine GoH.callP rfl rfl rfl rfl rfl (fun _ _ => Tryd.call92 _ _) (fun w _ hS => (by have := usesX_c n.op w; rw [hX] at this; exact this)) ?_
  refine gUn uNot ?_; refine gMv ?_; refine gFp Tryd.underlying80 Tryd.sizeOf3 4 ?_; refine gLo Tryd.isAgg3 0 ?_; refine gBi bNe ?_; refine gPt ?_; refine gPf ?_; refine gE ?_
  refine GoH.cond rfl (fun hc => ?_) (fun hc => ?_)
  ·
   have hb : n.x ≠ 0 := by simpa using hc
   refine gS (gR ?_); refine gAs ?_; refine gE ?_
   refine GoH.ret Tryd.f56 Tryd.func56 rfl (fun w' hS => ?_)
   exact ⟨hS.ext, by rw [show nodeE n at_ = 3 from nodeE_x hop (by simp [opB, hX]; omega)]; rfl⟩
  ·
   have hzx : n.x = 0 := by simpa using hc
   have hox : opB (usX n.op) n.x at_ = true := by simp [opB, hX]; omega
   refine gK (gS (gS (gR ?_))); refine gFp Tryd.underlying80 Tryd.sizeOf3 0 ?_; refine gLo Tryd.isAgg3 0 ?_
   refine GoH.callP rfl rfl rfl rfl rfl (fun _ _ => Tryd.call93 _ _) (fun w _ hS => (by have := usesY_c n.op w; rw [hY] at this; exact this)) ?_
   refine gMv ?_
   iterate 9 refine gNo ?_
   refine gPf ?_; refine gMv ?_; refine gFp Tryd.underlying80 Tryd.sizeOf3 0 ?_; refine gLo Tryd.isAgg3 0 ?_
   refine GoH.callP rfl rfl rfl rfl rfl (fun _ _ => Tryd.call93 _ _) (fun w _ hS => (by have := usesY_c n.op w; rw [hY] at this; exact this)) ?_
   refine gUn uNot ?_; refine gMv ?_; refine gFp Tryd.underlying80 Tryd.sizeOf3 5 ?_; refine gLo Tryd.isAgg3 0 ?_; refine gBi bNe ?_; refine gPt ?_; refine gPf ?_; refine gE ?_
   refine GoH.cond rfl (fun hc => ?_) (fun hc => ?_)
   ·
    have hb : n.y ≠ 0 := by simpa using hc
    refine gS (gR ?_); refine gAs ?_; refine gE ?_
    refine GoH.ret Tryd.f56 Tryd.func56 rfl (fun w' hS => ?_)
    exact ⟨hS.ext, by rw [show nodeE n at_ = 3 from nodeE_y hop (by simp [opB, hY]; omega)]; rfl⟩
   ·
    have hzy : n.y = 0 := by simpa using hc
    have hoy : opB (usY n.op) n.y at_ = true := by simp [opB, hY]; omega
    refine gK (gS (gR ?_)); refine gFp Tryd.underlying80 Tryd.sizeOf3 0 ?_; refine gLo Tryd.isAgg3 0 ?_
    refine GoH.v (Vop.bin rfl rfl rfl rfl (bEqV (v := true) h3) rfl) ?_
    refine gMv ?_
    iterate 3 refine gNo ?_
    refine gPt ?_; refine gMv ?_
    iterate 3 refine gNo ?_
    refine gPt ?_; refine gAs ?_; refine gE (gS (gS (gR ?_))); refine gMv ?_; refine gUn uNot ?_; refine gMv ?_
    iterate 3 refine gNo ?_
    refine gPf ?_; refine gMv ?_; refine gFp Tryd.underlying80 Tryd.sizeOf3 0 ?_; refine gLo Tryd.isAgg3 0 ?_
    refine GoH.v (Vop.bin rfl rfl rfl rfl (bNeV (v := true) (by rw [bne, h17]; rfl)) rfl) ?_
    refine gMv ?_; refine gFp Tryd.underlying80 Tryd.sizeOf3 2 ?_; refine gLo Tryd.isAgg3 0 ?_; refine gBi bNe ?_; refine gPt ?_; refine gPf ?_; refine gMv ?_
    refine GoH.cases (d := 94) rfl (fun hc => ?_) (fun hc => ?_)
    ·
     have hb : n.e ≠ 0 := by simpa using hc
     iterate 9 refine gNo ?_
     refine gPt ?_; refine gE (GoH.condT rfl (gS (gR ?_))); refine gAs ?_; refine gE ?_
     refine GoH.ret Tryd.f56 Tryd.func56 rfl (fun w' hS => ?_)
     exact ⟨hS.ext, by rw [show nodeE n at_ = 3 from (nodeE_f hop hox hoy).trans (fldE_3 (by simp [iO, bne, h3, h17, hA, hG]; omega))]; rfl⟩
    ·
     have hze : n.e = 0 := by simpa using hc
     refine gFp Tryd.underlying80 Tryd.sizeOf3 0 ?_; refine gLo Tryd.isAgg3 0 ?_
     refine GoH.callP rfl rfl rfl rfl rfl (fun _ _ => Tryd.call97 _ _) (fun w _ hS => (by have := group_c n.op w; rw [hG] at this; exact this)) ?_
     refine gUn uNot ?_; refine gMv ?_; refine gFp Tryd.underlying80 Tryd.sizeOf3 3 ?_; refine gLo Tryd.isAgg3 0 ?_; refine gBi bNe ?_; refine gPt ?_; refine gPf ?_; refine gE ?_
     refine GoH.cond rfl (fun hc => ?_) (fun hc => ?_)
     ·
      have hb : n.g ≠ 0 := by simpa using hc
      refine gS (gR ?_); refine gAs ?_; refine gE ?_
      refine GoH.ret Tryd.f56 Tryd.func56 rfl (fun w' hS => ?_)
      exact ⟨hS.ext, by rw [show nodeE n at_ = 3 from (nodeE_f hop hox hoy).trans (fldE_3 (by simp [iO, bne, h3, h17, hA, hG]; omega))]; rfl⟩
     ·
      have hzg : n.g = 0 := by simpa using hc
      have hfa : (!iO n.op && n.i != 0 || n.op != 17 && n.e != 0 || !grO n.op && n.g != 0) = false := by simp [iO, bne, h3, h17, hA, hG]; omega
      refine gK (gS (gS (gR ?_))); refine gFp Tryd.underlying80 Tryd.sizeOf3 0 ?_; refine gLo Tryd.isAgg3 0 ?_
      refine GoH.v (Vop.bin rfl rfl rfl rfl (bEqV (v := true) h3) rfl) ?_
      refine gMv ?_; refine gFp Tryd.underlying80 Tryd.sizeOf3 1 ?_; refine gLo Tryd.isAgg3 0 ?_; refine gBi bLt ?_; refine gMv ?_
      refine GoH.cases (d := 112) rfl (fun hc => ?_) (fun hc => ?_)
      ·
       have hb : n.i < 0 := by simpa using hc
       iterate 3 refine gNo ?_
       iterate 2 refine gPt ?_
       refine gMv ?_
       iterate 13 refine gNo ?_
       refine gPt ?_; refine gE (GoH.condT rfl (gS (gR ?_))); refine gAs ?_; refine gE ?_
       refine GoH.ret Tryd.f56 Tryd.func56 rfl (fun w' hS => ?_)
       exact ⟨hS.ext, by rw [show nodeE n at_ = 2 from (nodeE_f hop hox hoy).trans (fldE_2 hfa (by simp [h3, h17, hA, hG]; omega))]; rfl⟩
      ·
       have hli : ¬ n.i < 0 := by simpa using hc
       refine gFp Tryd.underlying80 Tryd.sizeOf3 1 ?_; refine gLo Tryd.isAgg3 0 ?_; refine gBi bGe ?_; refine gPf ?_; refine gPt ?_; refine gMv ?_
       refine GoH.cases (d := 118) rfl (fun hc => ?_) (fun hc => ?_)
       ·
        have hb : 8 ≤ n.i := by simpa using hc
        iterate 13 refine gNo ?_
        refine gPt ?_; refine gE (GoH.condT rfl (gS (gR ?_))); refine gAs ?_; refine gE ?_
        refine GoH.ret Tryd.f56 Tryd.func56 rfl (fun w' hS => ?_)
        exact ⟨hS.ext, by rw [show nodeE n at_ = 2 from (nodeE_f hop hox hoy).trans (fldE_2 hfa (by simp [h3, h17, hA, hG]; omega))]; rfl⟩
       ·
        have hhi : ¬ 8 ≤ n.i := by simpa using hc
        refine gFp Tryd.underlying80 Tryd.sizeOf3 0 ?_; refine gLo Tryd.isAgg3 0 ?_
        refine GoH.callP rfl rfl rfl rfl rfl (fun _ _ => Tryd.call90 _ _) (fun w _ hS => (by have := agent_c n.op w; rw [hA] at this; exact this)) ?_
        refine gMv ?_
        iterate 8 refine gNo ?_
        iterate 2 refine gPf ?_
        refine gE (GoH.condF rfl (gK (gS (gS (gR ?_))))); refine gFp Tryd.underlying80 Tryd.sizeOf3 0 ?_; refine gLo Tryd.isAgg3 0 ?_
        refine GoH.v (Vop.bin rfl rfl rfl rfl (bEqV (v := false) h17) rfl) ?_
        refine gMv ?_
        iterate 18 refine gNo ?_
        refine gPf ?_; refine gE (GoH.condF rfl (gK (gS (gS (gR ?_))))); refine gFp Tryd.underlying80 Tryd.sizeOf3 0 ?_; refine gLo Tryd.isAgg3 0 ?_
        refine GoH.callP rfl rfl rfl rfl rfl (fun _ _ => Tryd.call97 _ _) (fun w _ hS => (by have := group_c n.op w; rw [hG] at this; exact this)) ?_
        refine gMv ?_
        iterate 8 refine gNo ?_
        refine gPf ?_; refine gE (GoH.condF rfl (gK (gS (gR ?_)))); refine gAs ?_; refine gE ?_
        refine GoH.ret Tryd.f56 Tryd.func56 rfl (fun w' hS => ?_)
        exact ⟨hS.ext, by rw [show nodeE n at_ = 0 from (nodeE_f hop hox hoy).trans (fldE_0 hfa (by simp [h3, h17, hA, hG]; omega))]; rfl⟩
set_option maxRecDepth 2000 in
theorem rnode_not (n : NV) (at_ : Int) (w : World) (hop : 1 ≤ n.op ∧ n.op ≤ 21) (hX : usX n.op = true) (hY : usY n.op = false) (h3 : (n.op == 3) = false) (hA : agO n.op = false) (h17 : (n.op == 17) = false) (hG : grO n.op = false) :
    Cn Tryd.prog 56 [n.v, .int .i64 at_] w (fun v _ => v = .int .i64 (nodeE n at_)) := by
  refine Cn.of Tryd.func56 rfl rfl ?_
  refine gS (gR ?_)
  refine GoH.bx rfl rfl rfl rfl (fun b2 => ?_)
  refine gAs ?_; refine gE (gS (gS (gR ?_))); refine gFp Tryd.underlying80 Tryd.sizeOf3 0 ?_; refine gLo Tryd.isAgg3 0 ?_
  refine GoH.v (Vop.bin rfl rfl rfl rfl (bLtV (v := false) (decide_eq_false (by omega))) rfl) ?_
  refine gMv ?_; refine gFp Tryd.underlying80 Tryd.sizeOf3 0 ?_; refine gLo Tryd.isAgg3 0 ?_
  refine GoH.v (Vop.bin rfl rfl rfl rfl (bGtV (v := false) (decide_eq_false (by omega))) rfl) ?_
  refine gPf ?_; refine gE (GoH.condF rfl (gK (gS (gS (gR ?_))))); refine gFp Tryd.underlying80 Tryd.sizeOf3 0 ?_; refine gLo Tryd.isAgg3 0 ?_
  refine GoH.callP rfl rfl rfl rfl rfl (fun _ _ => Tryd.call92 _ _) (fun w _ hS => (by have := usesX_c n.op w; rw [hX] at this; exact this)) ?_
  refine gMv ?_; refine gFp Tryd.underlying80 Tryd.sizeOf3 4 ?_; refine gLo Tryd.isAgg3 0 ?_; refine gBi bLt ?_; refine gMv ?_
  refine GoH.cases (d := 21) rfl (fun hc => ?_) (fun hc => ?_)
  ·
   have hb : n.x < 0 := by simpa using hc
   iterate 4 refine gNo ?_
   iterate 2 refine gPt ?_
   refine gMv ?_
   iterate 9 refine gNo ?_
   refine gPt ?_; refine gE (GoH.condT rfl (gS (gR ?_))); refine gAs ?_; refine gE ?_
   refine GoH.ret Tryd.f56 Tryd.func56 rfl (fun w' hS => ?_)
   exact ⟨hS.ext, by rw [show nodeE n at_ = 3 from nodeE_x hop (by simp [opB, hX]; omega)]; rfl⟩
  ·
   have hlx : ¬ n.x < 0 := by simpa using hc
   refine gFp Tryd.underlying80 Tryd.sizeOf3 4 ?_; refine gLo Tryd.isAgg3 0 ?_; refine gMv ?_; refine gBi bGe ?_; refine gPf ?_; refine gPt ?_; refine gMv ?_
   refine GoH.cases (d := 28) rfl (fun hc => ?_) (fun hc => ?_)
   ·
    have hb : at_ ≤ n.x := by simpa using hc
    iterate 9 refine gNo ?_
    refine gPt ?_; refine gE (GoH.condT rfl (gS (gR ?_))); refine gAs ?_; refine gE ?_
    refine GoH.ret Tryd.f56 Tryd.func56 rfl (fun w' hS => ?_)
    exact ⟨hS.ext, by rw [show nodeE n at_ = 3 from nodeE_x hop (by simp [opB, hX]; omega)]; rfl⟩
   ·
    have hhx : ¬ at_ ≤ n.x := by simpa using hc
    have hox : opB (usX n.op) n.x at_ = true := by simp [opB, hX]; omega
    refine gFp Tryd.underlying80 Tryd.sizeOf3 0 ?_; refine gLo Tryd.isAgg3 0 ?_
    refine GoH.callP rfl rfl rfl rfl rfl (fun _ _ => Tryd.call92 _ _) (fun w _ hS => (by have := usesX_c n.op w; rw [hX] at this; exact this)) ?_
    refine gUn uNot ?_; refine gMv ?_
    iterate 3 refine gNo ?_
    iterate 2 refine gPf ?_
    refine gE (GoH.condF rfl (gK (gS (gS (gR ?_))))); refine gFp Tryd.underlying80 Tryd.sizeOf3 0 ?_; refine gLo Tryd.isAgg3 0 ?_
    refine GoH.callP rfl rfl rfl rfl rfl (fun _ _ => Tryd.call93 _ _) (fun w _ hS => (by have := usesY_c n.op w; rw [hY] at this; exact this)) ?_
    refine gMv ?_
    iterate 9 refine gNo ?_
    refine gPf ?_; refine gMv ?_; refine gFp Tryd.underlying80 Tryd.sizeOf3 0 ?_; refine gLo Tryd.isAgg3 0 ?_
    refine GoH.callP rfl rfl rfl rfl rfl (fun _ _ => Tryd.call93 _ _) (fun w _ hS => (by have := usesY_c n.op w; rw [hY] at this; exact this)) ?_
    refine gUn uNot ?_; refine gMv ?_; refine gFp Tryd.underlying80 Tryd.sizeOf3 5 ?_; refine gLo Tryd.isAgg3 0 ?_; refine gBi bNe ?_; refine gPt ?_; refine gPf ?_; refine gE ?_
    refine GoH.cond rfl (fun hc => ?_) (fun hc => ?_)
    ·
     have hb : n.y ≠ 0 := by simpa using hc
     refine gS (gR ?_); refine gAs ?_; refine gE ?_
     refine GoH.ret Tryd.f56 Tryd.func56 rfl (fun w' hS => ?_)
     exact ⟨hS.ext, by rw [show nodeE n at_ = 3 from nodeE_y hop (by simp [opB, hY]; omega)]; rfl⟩
    ·
     have hzy : n.y = 0 := by simpa using hc
     have hoy : opB (usY n.op) n.y at_ = true := by simp [opB, hY]; omega
     refine gK (gS (gR ?_)); refine gFp Tryd.underlying80 Tryd.sizeOf3 0 ?_; refine gLo Tryd.isAgg3 0 ?_
     refine GoH.v (Vop.bin rfl rfl rfl rfl (bEqV (v := false) h3) rfl) ?_
     refine gMv ?_; refine gFp Tryd.underlying80 Tryd.sizeOf3 0 ?_; refine gLo Tryd.isAgg3 0 ?_
     refine GoH.callP rfl rfl rfl rfl rfl (fun _ _ => Tryd.call90 _ _) (fun w _ hS => (by have := agent_c n.op w; rw [hA] at this; exact this)) ?_
     refine gPf ?_; refine gMv ?_; refine gFp Tryd.underlying80 Tryd.sizeOf3 0 ?_; refine gLo Tryd.isAgg3 0 ?_
     refine GoH.v (Vop.bin rfl rfl rfl rfl (bEqV (v := false) h17) rfl) ?_
     refine gPf ?_; refine gAs ?_; refine gE (gS (gS (gR ?_))); refine gMv ?_; refine gUn uNot ?_; refine gMv ?_; refine gFp Tryd.underlying80 Tryd.sizeOf3 1 ?_; refine gLo Tryd.isAgg3 0 ?_; refine gBi bNe ?_; refine gPt ?_; refine gMv ?_
     refine GoH.cases (d := 84) rfl (fun hc => ?_) (fun hc => ?_)
     ·
      have hb : n.i ≠ 0 := by simpa using hc
      iterate 8 refine gNo ?_
      refine gPt ?_; refine gMv ?_
      iterate 9 refine gNo ?_
      refine gPt ?_; refine gE (GoH.condT rfl (gS (gR ?_))); refine gAs ?_; refine gE ?_
      refine GoH.ret Tryd.f56 Tryd.func56 rfl (fun w' hS => ?_)
      exact ⟨hS.ext, by rw [show nodeE n at_ = 3 from (nodeE_f hop hox hoy).trans (fldE_3 (by simp [iO, bne, h3, h17, hA, hG]; omega))]; rfl⟩
     ·
      have hzi : n.i = 0 := by simpa using hc
      refine gFp Tryd.underlying80 Tryd.sizeOf3 0 ?_; refine gLo Tryd.isAgg3 0 ?_
      refine GoH.v (Vop.bin rfl rfl rfl rfl (bNeV (v := true) (by rw [bne, h17]; rfl)) rfl) ?_
      refine gMv ?_; refine gFp Tryd.underlying80 Tryd.sizeOf3 2 ?_; refine gLo Tryd.isAgg3 0 ?_; refine gBi bNe ?_; refine gPt ?_; refine gPf ?_; refine gMv ?_
      refine GoH.cases (d := 94) rfl (fun hc => ?_) (fun hc => ?_)
      ·
       have hb : n.e ≠ 0 := by simpa using hc
       iterate 9 refine gNo ?_
       refine gPt ?_; refine gE (GoH.condT rfl (gS (gR ?_))); refine gAs ?_; refine gE ?_
       refine GoH.ret Tryd.f56 Tryd.func56 rfl (fun w' hS => ?_)
       exact ⟨hS.ext, by rw [show nodeE n at_ = 3 from (nodeE_f hop hox hoy).trans (fldE_3 (by simp [iO, bne, h3, h17, hA, hG]; omega))]; rfl⟩
      ·
       have hze : n.e = 0 := by simpa using hc
       refine gFp Tryd.underlying80 Tryd.sizeOf3 0 ?_; refine gLo Tryd.isAgg3 0 ?_
       refine GoH.callP rfl rfl rfl rfl rfl (fun _ _ => Tryd.call97 _ _) (fun w _ hS => (by have := group_c n.op w; rw [hG] at this; exact this)) ?_
       refine gUn uNot ?_; refine gMv ?_; refine gFp Tryd.underlying80 Tryd.sizeOf3 3 ?_; refine gLo Tryd.isAgg3 0 ?_; refine gBi bNe ?_; refine gPt ?_; refine gPf ?_; refine gE ?_
       refine GoH.cond rfl (fun hc => ?_) (fun hc => ?_)
       ·
        have hb : n.g ≠ 0 := by simpa using hc
        refine gS (gR ?_); refine gAs ?_; refine gE ?_
        refine GoH.ret Tryd.f56 Tryd.func56 rfl (fun w' hS => ?_)
        exact ⟨hS.ext, by rw [show nodeE n at_ = 3 from (nodeE_f hop hox hoy).trans (fldE_3 (by simp [iO, bne, h3, h17, hA, hG]; omega))]; rfl⟩
       ·
        have hzg : n.g = 0 := by simpa using hc
        have hfa : (!iO n.op && n.i != 0 || n.op != 17 && n.e != 0 || !grO n.op && n.g != 0) = false := by simp [iO, bne, h3, h17, hA, hG]; omega
        refine gK (gS (gS (gR ?_))); refine gFp Tryd.underlying80 Tryd.sizeOf3 0 ?_; refine gLo Tryd.isAgg3 0 ?_
        refine GoH.v (Vop.bin rfl rfl rfl rfl (bEqV (v := false) h3) rfl) ?_
        refine gMv ?_
        iterate 8 refine gNo ?_
        refine gPf ?_; refine gMv ?_; refine gFp Tryd.underlying80 Tryd.sizeOf3 0 ?_; refine gLo Tryd.isAgg3 0 ?_
        refine GoH.callP rfl rfl rfl rfl rfl (fun _ _ => Tryd.call90 _ _) (fun w _ hS => (by have := agent_c n.op w; rw [hA] at this; exact this)) ?_
        refine gMv ?_
        iterate 8 refine gNo ?_
        iterate 2 refine gPf ?_
        refine gE (GoH.condF rfl (gK (gS (gS (gR ?_))))); refine gFp Tryd.underlying80 Tryd.sizeOf3 0 ?_; refine gLo Tryd.isAgg3 0 ?_
        refine GoH.v (Vop.bin rfl rfl rfl rfl (bEqV (v := false) h17) rfl) ?_
        refine gMv ?_
        iterate 18 refine gNo ?_
        refine gPf ?_; refine gE (GoH.condF rfl (gK (gS (gS (gR ?_))))); refine gFp Tryd.underlying80 Tryd.sizeOf3 0 ?_; refine gLo Tryd.isAgg3 0 ?_
        refine GoH.callP rfl rfl rfl rfl rfl (fun _ _ => Tryd.call97 _ _) (fun w _ hS => (by have := group_c n.op w; rw [hG] at this; exact this)) ?_
        refine gMv ?_
        iterate 8 refine gNo ?_
        refine gPf ?_; refine gE (GoH.condF rfl (gK (gS (gR ?_)))); refine gAs ?_; refine gE ?_
        refine GoH.ret Tryd.f56 Tryd.func56 rfl (fun w' hS => ?_)
        exact ⟨hS.ext, by rw [show nodeE n at_ = 0 from (nodeE_f hop hox hoy).trans (fldE_0 hfa (by simp [h3, h17, hA, hG]))]; rfl⟩
set_option maxRecDepth 2000 in
theorem rnode_bin (n : NV) (at_ : Int) (w : World) (hop : 1 ≤ n.op ∧ n.op ≤ 21) (hX : usX n.op = true) (hY : usY n.op = true) (h3 : (n.op == 3) = false) (hA : agO n.op = false) (h17 : (n.op == 17) = false) (hG : grO n.op = false) :
    Cn Tryd.prog 56 [n.v, .int .i64 at_] w (fun v _ => v = .int .i64 (nodeE n at_)) := by
  refine Cn.of Tryd.func56 rfl rfl ?_
  refine gS (gR ?_)
  refine GoH.bx rfl rfl rfl rfl (fun b2 => ?_)
  refine gAs ?_; refine gE (gS (gS (gR ?_))); refine gFp Tryd.underlying80 Tryd.sizeOf3 0 ?_; refine gLo Tryd.isAgg3 0 ?_
  refine GoH.v (Vop.bin rfl rfl rfl rfl (bLtV (v := false) (decide_eq_false (by omega))) rfl) ?_
  refine gMv ?_; refine gFp Tryd.underlying80 Tryd.sizeOf3 0 ?_; refine gLo Tryd.isAgg3 0 ?_
  refine GoH.v (Vop.bin rfl rfl rfl rfl (bGtV (v := false) (decide_eq_false (by omega))) rfl) ?_
  refine gPf ?_; refine gE (GoH.condF rfl (gK (gS (gS (gR ?_))))); refine gFp Tryd.underlying80 Tryd.sizeOf3 0 ?_; refine gLo Tryd.isAgg3 0 ?_
  refine GoH.callP rfl rfl rfl rfl rfl (fun _ _ => Tryd.call92 _ _) (fun w _ hS => (by have := usesX_c n.op w; rw [hX] at this; exact this)) ?_
  refine gMv ?_; refine gFp Tryd.underlying80 Tryd.sizeOf3 4 ?_; refine gLo Tryd.isAgg3 0 ?_; refine gBi bLt ?_; refine gMv ?_
  refine GoH.cases (d := 21) rfl (fun hc => ?_) (fun hc => ?_)
  ·
   have hb : n.x < 0 := by simpa using hc
   iterate 4 refine gNo ?_
   iterate 2 refine gPt ?_
   refine gMv ?_
   iterate 9 refine gNo ?_
   refine gPt ?_; refine gE (GoH.condT rfl (gS (gR ?_))); refine gAs ?_; refine gE ?_
   refine GoH.ret Tryd.f56 Tryd.func56 rfl (fun w' hS => ?_)
   exact ⟨hS.ext, by rw [show nodeE n at_ = 3 from nodeE_x hop (by simp [opB, hX]; omega)]; rfl⟩
  ·
   have hlx : ¬ n.x < 0 := by simpa using hc
   refine gFp Tryd.underlying80 Tryd.sizeOf3 4 ?_; refine gLo Tryd.isAgg3 0 ?_; refine gMv ?_; refine gBi bGe ?_; refine gPf ?_; refine gPt ?_; refine gMv ?_
   refine GoH.cases (d := 28) rfl (fun hc => ?_) (fun hc => ?_)
   ·
    have hb : at_ ≤ n.x := by simpa using hc
    iterate 9 refine gNo ?_
    refine gPt ?_; refine gE (GoH.condT rfl (gS (gR ?_))); refine gAs ?_; refine gE ?_
    refine GoH.ret Tryd.f56 Tryd.func56 rfl (fun w' hS => ?_)
    exact ⟨hS.ext, by rw [show nodeE n at_ = 3 from nodeE_x hop (by simp [opB, hX]; omega)]; rfl⟩
   ·
    have hhx : ¬ at_ ≤ n.x := by simpa using hc
    have hox : opB (usX n.op) n.x at_ = true := by simp [opB, hX]; omega
    refine gFp Tryd.underlying80 Tryd.sizeOf3 0 ?_; refine gLo Tryd.isAgg3 0 ?_
    refine GoH.callP rfl rfl rfl rfl rfl (fun _ _ => Tryd.call92 _ _) (fun w _ hS => (by have := usesX_c n.op w; rw [hX] at this; exact this)) ?_
    refine gUn uNot ?_; refine gMv ?_
    iterate 3 refine gNo ?_
    iterate 2 refine gPf ?_
    refine gE (GoH.condF rfl (gK (gS (gS (gR ?_))))); refine gFp Tryd.underlying80 Tryd.sizeOf3 0 ?_; refine gLo Tryd.isAgg3 0 ?_
    refine GoH.callP rfl rfl rfl rfl rfl (fun _ _ => Tryd.call93 _ _) (fun w _ hS => (by have := usesY_c n.op w; rw [hY] at this; exact this)) ?_
    refine gMv ?_; refine gFp Tryd.underlying80 Tryd.sizeOf3 5 ?_; refine gLo Tryd.isAgg3 0 ?_; refine gBi bLt ?_; refine gMv ?_
    refine GoH.cases (d := 46) rfl (fun hc => ?_) (fun hc => ?_)
    ·
     have hb : n.y < 0 := by simpa using hc
     iterate 4 refine gNo ?_
     iterate 2 refine gPt ?_
     refine gMv ?_
     iterate 9 refine gNo ?_
     refine gPt ?_; refine gE (GoH.condT rfl (gS (gR ?_))); refine gAs ?_; refine gE ?_
     refine GoH.ret Tryd.f56 Tryd.func56 rfl (fun w' hS => ?_)
     exact ⟨hS.ext, by rw [show nodeE n at_ = 3 from nodeE_y hop (by simp [opB, hY]; omega)]; rfl⟩
    ·
     have hly : ¬ n.y < 0 := by simpa using hc
     refine gFp Tryd.underlying80 Tryd.sizeOf3 5 ?_; refine gLo Tryd.isAgg3 0 ?_; refine gMv ?_; refine gBi bGe ?_; refine gPf ?_; refine gPt ?_; refine gMv ?_
     refine GoH.cases (d := 53) rfl (fun hc => ?_) (fun hc => ?_)
     ·
      have hb : at_ ≤ n.y := by simpa using hc
      iterate 9 refine gNo ?_
      refine gPt ?_; refine gE (GoH.condT rfl (gS (gR ?_))); refine gAs ?_; refine gE ?_
      refine GoH.ret Tryd.f56 Tryd.func56 rfl (fun w' hS => ?_)
      exact ⟨hS.ext, by rw [show nodeE n at_ = 3 from nodeE_y hop (by simp [opB, hY]; omega)]; rfl⟩
     ·
      have hhy : ¬ at_ ≤ n.y := by simpa using hc
      have hoy : opB (usY n.op) n.y at_ = true := by simp [opB, hY]; omega
      refine gFp Tryd.underlying80 Tryd.sizeOf3 0 ?_; refine gLo Tryd.isAgg3 0 ?_
      refine GoH.callP rfl rfl rfl rfl rfl (fun _ _ => Tryd.call93 _ _) (fun w _ hS => (by have := usesY_c n.op w; rw [hY] at this; exact this)) ?_
      refine gUn uNot ?_; refine gMv ?_
      iterate 3 refine gNo ?_
      iterate 2 refine gPf ?_
      refine gE (GoH.condF rfl (gK (gS (gR ?_)))); refine gFp Tryd.underlying80 Tryd.sizeOf3 0 ?_; refine gLo Tryd.isAgg3 0 ?_
      refine GoH.v (Vop.bin rfl rfl rfl rfl (bEqV (v := false) h3) rfl) ?_
      refine gMv ?_; refine gFp Tryd.underlying80 Tryd.sizeOf3 0 ?_; refine gLo Tryd.isAgg3 0 ?_
      refine GoH.callP rfl rfl rfl rfl rfl (fun _ _ => Tryd.call90 _ _) (fun w _ hS => (by have := agent_c n.op w; rw [hA] at this; exact this)) ?_
      refine gPf ?_; refine gMv ?_; refine gFp Tryd.underlying80 Tryd.sizeOf3 0 ?_; refine gLo Tryd.isAgg3 0 ?_
      refine GoH.v (Vop.bin rfl rfl rfl rfl (bEqV (v := false) h17) rfl) ?_
      refine gPf ?_; refine gAs ?_; refine gE (gS (gS (gR ?_))); refine gMv ?_; refine gUn uNot ?_; refine gMv ?_; refine gFp Tryd.underlying80 Tryd.sizeOf3 1 ?_; refine gLo Tryd.isAgg3 0 ?_; refine gBi bNe ?_; refine gPt ?_; refine gMv ?_
      refine GoH.cases (d := 84) rfl (fun hc => ?_) (fun hc => ?_)
      ·
       have hb : n.i ≠ 0 := by simpa using hc
       iterate 8 refine gNo ?_
       refine gPt ?_; refine gMv ?_
       iterate 9 refine gNo ?_
       refine gPt ?_; refine gE (GoH.condT rfl (gS (gR ?_))); refine gAs ?_; refine gE ?_
       refine GoH.ret Tryd.f56 Tryd.func56 rfl (fun w' hS => ?_)
       exact ⟨hS.ext, by rw [show nodeE n at_ = 3 from (nodeE_f hop hox hoy).trans (fldE_3 (by simp [iO, bne, h3, h17, hA, hG]; omega))]; rfl⟩
      ·
       have hzi : n.i = 0 := by simpa using hc
       refine gFp Tryd.underlying80 Tryd.sizeOf3 0 ?_; refine gLo Tryd.isAgg3 0 ?_
       refine GoH.v (Vop.bin rfl rfl rfl rfl (bNeV (v := true) (by rw [bne, h17]; rfl)) rfl) ?_
       refine gMv ?_; refine gFp Tryd.underlying80 Tryd.sizeOf3 2 ?_; refine gLo Tryd.isAgg3 0 ?_; refine gBi bNe ?_; refine gPt ?_; refine gPf ?_; refine gMv ?_
       refine GoH.cases (d := 94) rfl (fun hc => ?_) (fun hc => ?_)
       ·
        have hb : n.e ≠ 0 := by simpa using hc
        iterate 9 refine gNo ?_
        refine gPt ?_; refine gE (GoH.condT rfl (gS (gR ?_))); refine gAs ?_; refine gE ?_
        refine GoH.ret Tryd.f56 Tryd.func56 rfl (fun w' hS => ?_)
        exact ⟨hS.ext, by rw [show nodeE n at_ = 3 from (nodeE_f hop hox hoy).trans (fldE_3 (by simp [iO, bne, h3, h17, hA, hG]; omega))]; rfl⟩
       ·
        have hze : n.e = 0 := by simpa using hc
        refine gFp Tryd.underlying80 Tryd.sizeOf3 0 ?_; refine gLo Tryd.isAgg3 0 ?_
        refine GoH.callP rfl rfl rfl rfl rfl (fun _ _ => Tryd.call97 _ _) (fun w _ hS => (by have := group_c n.op w; rw [hG] at this; exact this)) ?_
        refine gUn uNot ?_; refine gMv ?_; refine gFp Tryd.underlying80 Tryd.sizeOf3 3 ?_; refine gLo Tryd.isAgg3 0 ?_; refine gBi bNe ?_; refine gPt ?_; refine gPf ?_; refine gE ?_
        refine GoH.cond rfl (fun hc => ?_) (fun hc => ?_)
        ·
         have hb : n.g ≠ 0 := by simpa using hc
         refine gS (gR ?_); refine gAs ?_; refine gE ?_
         refine GoH.ret Tryd.f56 Tryd.func56 rfl (fun w' hS => ?_)
         exact ⟨hS.ext, by rw [show nodeE n at_ = 3 from (nodeE_f hop hox hoy).trans (fldE_3 (by simp [iO, bne, h3, h17, hA, hG]; omega))]; rfl⟩
        ·
         have hzg : n.g = 0 := by simpa using hc
         have hfa : (!iO n.op && n.i != 0 || n.op != 17 && n.e != 0 || !grO n.op && n.g != 0) = false := by simp [iO, bne, h3, h17, hA, hG]; omega
         refine gK (gS (gS (gR ?_))); refine gFp Tryd.underlying80 Tryd.sizeOf3 0 ?_; refine gLo Tryd.isAgg3 0 ?_
         refine GoH.v (Vop.bin rfl rfl rfl rfl (bEqV (v := false) h3) rfl) ?_
         refine gMv ?_
         iterate 8 refine gNo ?_
         refine gPf ?_; refine gMv ?_; refine gFp Tryd.underlying80 Tryd.sizeOf3 0 ?_; refine gLo Tryd.isAgg3 0 ?_
         refine GoH.callP rfl rfl rfl rfl rfl (fun _ _ => Tryd.call90 _ _) (fun w _ hS => (by have := agent_c n.op w; rw [hA] at this; exact this)) ?_
         refine gMv ?_
         iterate 8 refine gNo ?_
         iterate 2 refine gPf ?_
         refine gE (GoH.condF rfl (gK (gS (gS (gR ?_))))); refine gFp Tryd.underlying80 Tryd.sizeOf3 0 ?_; refine gLo Tryd.isAgg3 0 ?_
         refine GoH.v (Vop.bin rfl rfl rfl rfl (bEqV (v := false) h17) rfl) ?_
         refine gMv ?_
         iterate 18 refine gNo ?_
         refine gPf ?_; refine gE (GoH.condF rfl (gK (gS (gS (gR ?_))))); refine gFp Tryd.underlying80 Tryd.sizeOf3 0 ?_; refine gLo Tryd.isAgg3 0 ?_
         refine GoH.callP rfl rfl rfl rfl rfl (fun _ _ => Tryd.call97 _ _) (fun w _ hS => (by have := group_c n.op w; rw [hG] at this; exact this)) ?_
         refine gMv ?_
         iterate 8 refine gNo ?_
         refine gPf ?_; refine gE (GoH.condF rfl (gK (gS (gR ?_)))); refine gAs ?_; refine gE ?_
         refine GoH.ret Tryd.f56 Tryd.func56 rfl (fun w' hS => ?_)
         exact ⟨hS.ext, by rw [show nodeE n at_ = 0 from (nodeE_f hop hox hoy).trans (fldE_0 hfa (by simp [h3, h17, hA, hG]))]; rfl⟩
set_option maxRecDepth 2000 in
theorem rnode_know (n : NV) (at_ : Int) (w : World) (hop : 1 ≤ n.op ∧ n.op ≤ 21) (hX : usX n.op = true) (hY : usY n.op = false) (h3 : (n.op == 3) = false) (hA : agO n.op = true) (h17 : (n.op == 17) = false) (hG : grO n.op = false) :
    Cn Tryd.prog 56 [n.v, .int .i64 at_] w (fun v _ => v = .int .i64 (nodeE n at_)) := by
  refine Cn.of Tryd.func56 rfl rfl ?_
  refine gS (gR ?_)
  refine GoH.bx rfl rfl rfl rfl (fun b2 => ?_)
  refine gAs ?_; refine gE (gS (gS (gR ?_))); refine gFp Tryd.underlying80 Tryd.sizeOf3 0 ?_; refine gLo Tryd.isAgg3 0 ?_
  refine GoH.v (Vop.bin rfl rfl rfl rfl (bLtV (v := false) (decide_eq_false (by omega))) rfl) ?_
  refine gMv ?_; refine gFp Tryd.underlying80 Tryd.sizeOf3 0 ?_; refine gLo Tryd.isAgg3 0 ?_
  refine GoH.v (Vop.bin rfl rfl rfl rfl (bGtV (v := false) (decide_eq_false (by omega))) rfl) ?_
  refine gPf ?_; refine gE (GoH.condF rfl (gK (gS (gS (gR ?_))))); refine gFp Tryd.underlying80 Tryd.sizeOf3 0 ?_; refine gLo Tryd.isAgg3 0 ?_
  refine GoH.callP rfl rfl rfl rfl rfl (fun _ _ => Tryd.call92 _ _) (fun w _ hS => (by have := usesX_c n.op w; rw [hX] at this; exact this)) ?_
  refine gMv ?_; refine gFp Tryd.underlying80 Tryd.sizeOf3 4 ?_; refine gLo Tryd.isAgg3 0 ?_; refine gBi bLt ?_; refine gMv ?_
  refine GoH.cases (d := 21) rfl (fun hc => ?_) (fun hc => ?_)
  ·
   have hb : n.x < 0 := by simpa using hc
   iterate 4 refine gNo ?_
   iterate 2 refine gPt ?_
   refine gMv ?_
   iterate 9 refine gNo ?_
   refine gPt ?_; refine gE (GoH.condT rfl (gS (gR ?_))); refine gAs ?_; refine gE ?_
   refine GoH.ret Tryd.f56 Tryd.func56 rfl (fun w' hS => ?_)
   exact ⟨hS.ext, by rw [show nodeE n at_ = 3 from nodeE_x hop (by simp [opB, hX]; omega)]; rfl⟩
  ·
   have hlx : ¬ n.x < 0 := by simpa using hc
   refine gFp Tryd.underlying80 Tryd.sizeOf3 4 ?_; refine gLo Tryd.isAgg3 0 ?_; refine gMv ?_; refine gBi bGe ?_; refine gPf ?_; refine gPt ?_; refine gMv ?_
   refine GoH.cases (d := 28) rfl (fun hc => ?_) (fun hc => ?_)
   ·
    have hb : at_ ≤ n.x := by simpa using hc
    iterate 9 refine gNo ?_
    refine gPt ?_; refine gE (GoH.condT rfl (gS (gR ?_))); refine gAs ?_; refine gE ?_
    refine GoH.ret Tryd.f56 Tryd.func56 rfl (fun w' hS => ?_)
    exact ⟨hS.ext, by rw [show nodeE n at_ = 3 from nodeE_x hop (by simp [opB, hX]; omega)]; rfl⟩
   ·
    have hhx : ¬ at_ ≤ n.x := by simpa using hc
    have hox : opB (usX n.op) n.x at_ = true := by simp [opB, hX]; omega
    refine gFp Tryd.underlying80 Tryd.sizeOf3 0 ?_; refine gLo Tryd.isAgg3 0 ?_
    refine GoH.callP rfl rfl rfl rfl rfl (fun _ _ => Tryd.call92 _ _) (fun w _ hS => (by have := usesX_c n.op w; rw [hX] at this; exact this)) ?_
    refine gUn uNot ?_; refine gMv ?_
    iterate 3 refine gNo ?_
    iterate 2 refine gPf ?_
    refine gE (GoH.condF rfl (gK (gS (gS (gR ?_))))); refine gFp Tryd.underlying80 Tryd.sizeOf3 0 ?_; refine gLo Tryd.isAgg3 0 ?_
    refine GoH.callP rfl rfl rfl rfl rfl (fun _ _ => Tryd.call93 _ _) (fun w _ hS => (by have := usesY_c n.op w; rw [hY] at this; exact this)) ?_
    refine gMv ?_
    iterate 9 refine gNo ?_
    refine gPf ?_; refine gMv ?_; refine gFp Tryd.underlying80 Tryd.sizeOf3 0 ?_; refine gLo Tryd.isAgg3 0 ?_
    refine GoH.callP rfl rfl rfl rfl rfl (fun _ _ => Tryd.call93 _ _) (fun w _ hS => (by have := usesY_c n.op w; rw [hY] at this; exact this)) ?_
    refine gUn uNot ?_; refine gMv ?_; refine gFp Tryd.underlying80 Tryd.sizeOf3 5 ?_; refine gLo Tryd.isAgg3 0 ?_; refine gBi bNe ?_; refine gPt ?_; refine gPf ?_; refine gE ?_
    refine GoH.cond rfl (fun hc => ?_) (fun hc => ?_)
    ·
     have hb : n.y ≠ 0 := by simpa using hc
     refine gS (gR ?_); refine gAs ?_; refine gE ?_
     refine GoH.ret Tryd.f56 Tryd.func56 rfl (fun w' hS => ?_)
     exact ⟨hS.ext, by rw [show nodeE n at_ = 3 from nodeE_y hop (by simp [opB, hY]; omega)]; rfl⟩
    ·
     have hzy : n.y = 0 := by simpa using hc
     have hoy : opB (usY n.op) n.y at_ = true := by simp [opB, hY]; omega
     refine gK (gS (gR ?_)); refine gFp Tryd.underlying80 Tryd.sizeOf3 0 ?_; refine gLo Tryd.isAgg3 0 ?_
     refine GoH.v (Vop.bin rfl rfl rfl rfl (bEqV (v := false) h3) rfl) ?_
     refine gMv ?_; refine gFp Tryd.underlying80 Tryd.sizeOf3 0 ?_; refine gLo Tryd.isAgg3 0 ?_
     refine GoH.callP rfl rfl rfl rfl rfl (fun _ _ => Tryd.call90 _ _) (fun w _ hS => (by have := agent_c n.op w; rw [hA] at this; exact this)) ?_
     refine gPf ?_; refine gMv ?_
     iterate 3 refine gNo ?_
     refine gPt ?_; refine gAs ?_; refine gE (gS (gS (gR ?_))); refine gMv ?_; refine gUn uNot ?_; refine gMv ?_
     iterate 3 refine gNo ?_
     refine gPf ?_; refine gMv ?_; refine gFp Tryd.underlying80 Tryd.sizeOf3 0 ?_; refine gLo Tryd.isAgg3 0 ?_
     refine GoH.v (Vop.bin rfl rfl rfl rfl (bNeV (v := true) (by rw [bne, h17]; rfl)) rfl) ?_
     refine gMv ?_; refine gFp Tryd.underlying80 Tryd.sizeOf3 2 ?_; refine gLo Tryd.isAgg3 0 ?_; refine gBi bNe ?_; refine gPt ?_; refine gPf ?_; refine gMv ?_
     refine GoH.cases (d := 94) rfl (fun hc => ?_) (fun hc => ?_)
     ·
      have hb : n.e ≠ 0 := by simpa using hc
      iterate 9 refine gNo ?_
      refine gPt ?_; refine gE (GoH.condT rfl (gS (gR ?_))); refine gAs ?_; refine gE ?_
      refine GoH.ret Tryd.f56 Tryd.func56 rfl (fun w' hS => ?_)
      exact ⟨hS.ext, by rw [show nodeE n at_ = 3 from (nodeE_f hop hox hoy).trans (fldE_3 (by simp [iO, bne, h3, h17, hA, hG]; omega))]; rfl⟩
     ·
      have hze : n.e = 0 := by simpa using hc
      refine gFp Tryd.underlying80 Tryd.sizeOf3 0 ?_; refine gLo Tryd.isAgg3 0 ?_
      refine GoH.callP rfl rfl rfl rfl rfl (fun _ _ => Tryd.call97 _ _) (fun w _ hS => (by have := group_c n.op w; rw [hG] at this; exact this)) ?_
      refine gUn uNot ?_; refine gMv ?_; refine gFp Tryd.underlying80 Tryd.sizeOf3 3 ?_; refine gLo Tryd.isAgg3 0 ?_; refine gBi bNe ?_; refine gPt ?_; refine gPf ?_; refine gE ?_
      refine GoH.cond rfl (fun hc => ?_) (fun hc => ?_)
      ·
       have hb : n.g ≠ 0 := by simpa using hc
       refine gS (gR ?_); refine gAs ?_; refine gE ?_
       refine GoH.ret Tryd.f56 Tryd.func56 rfl (fun w' hS => ?_)
       exact ⟨hS.ext, by rw [show nodeE n at_ = 3 from (nodeE_f hop hox hoy).trans (fldE_3 (by simp [iO, bne, h3, h17, hA, hG]; omega))]; rfl⟩
      ·
       have hzg : n.g = 0 := by simpa using hc
       have hfa : (!iO n.op && n.i != 0 || n.op != 17 && n.e != 0 || !grO n.op && n.g != 0) = false := by simp [iO, bne, h3, h17, hA, hG]; omega
       refine gK (gS (gS (gR ?_))); refine gFp Tryd.underlying80 Tryd.sizeOf3 0 ?_; refine gLo Tryd.isAgg3 0 ?_
       refine GoH.v (Vop.bin rfl rfl rfl rfl (bEqV (v := false) h3) rfl) ?_
       refine gMv ?_
       iterate 8 refine gNo ?_
       refine gPf ?_; refine gMv ?_; refine gFp Tryd.underlying80 Tryd.sizeOf3 0 ?_; refine gLo Tryd.isAgg3 0 ?_
       refine GoH.callP rfl rfl rfl rfl rfl (fun _ _ => Tryd.call90 _ _) (fun w _ hS => (by have := agent_c n.op w; rw [hA] at this; exact this)) ?_
       refine gMv ?_; refine gFp Tryd.underlying80 Tryd.sizeOf3 1 ?_; refine gLo Tryd.isAgg3 0 ?_; refine gBi bLt ?_; refine gMv ?_
       refine GoH.cases (d := 126) rfl (fun hc => ?_) (fun hc => ?_)
       ·
        have hb : n.i < 0 := by simpa using hc
        iterate 3 refine gNo ?_
        iterate 2 refine gPt ?_
        refine gPf ?_; refine gE (GoH.condT rfl (gS (gR ?_))); refine gAs ?_; refine gE ?_
        refine GoH.ret Tryd.f56 Tryd.func56 rfl (fun w' hS => ?_)
        exact ⟨hS.ext, by rw [show nodeE n at_ = 2 from (nodeE_f hop hox hoy).trans (fldE_2 hfa (by simp [h3, h17, hA, hG]; omega))]; rfl⟩
       ·
        have hli : ¬ n.i < 0 := by simpa using hc
        refine gFp Tryd.underlying80 Tryd.sizeOf3 1 ?_; refine gLo Tryd.isAgg3 0 ?_; refine gBi bGe ?_; refine gPf ?_; refine gPt ?_; refine gPf ?_; refine gE ?_
        refine GoH.cond rfl (fun hc => ?_) (fun hc => ?_)
        ·
         have hb : 4 ≤ n.i := by simpa using hc
         refine gS (gR ?_); refine gAs ?_; refine gE ?_
         refine GoH.ret Tryd.f56 Tryd.func56 rfl (fun w' hS => ?_)
         exact ⟨hS.ext, by rw [show nodeE n at_ = 2 from (nodeE_f hop hox hoy).trans (fldE_2 hfa (by simp [h3, h17, hA, hG]; omega))]; rfl⟩
        ·
         have hhi : ¬ 4 ≤ n.i := by simpa using hc
         refine gK (gS (gS (gR ?_))); refine gFp Tryd.underlying80 Tryd.sizeOf3 0 ?_; refine gLo Tryd.isAgg3 0 ?_
         refine GoH.v (Vop.bin rfl rfl rfl rfl (bEqV (v := false) h17) rfl) ?_
         refine gMv ?_
         iterate 18 refine gNo ?_
         refine gPf ?_; refine gE (GoH.condF rfl (gK (gS (gS (gR ?_))))); refine gFp Tryd.underlying80 Tryd.sizeOf3 0 ?_; refine gLo Tryd.isAgg3 0 ?_
         refine GoH.callP rfl rfl rfl rfl rfl (fun _ _ => Tryd.call97 _ _) (fun w _ hS => (by have := group_c n.op w; rw [hG] at this; exact this)) ?_
         refine gMv ?_
         iterate 8 refine gNo ?_
         refine gPf ?_; refine gE (GoH.condF rfl (gK (gS (gR ?_)))); refine gAs ?_; refine gE ?_
         refine GoH.ret Tryd.f56 Tryd.func56 rfl (fun w' hS => ?_)
         exact ⟨hS.ext, by rw [show nodeE n at_ = 0 from (nodeE_f hop hox hoy).trans (fldE_0 hfa (by simp [h3, h17, hA, hG]; omega))]; rfl⟩
set_option maxRecDepth 2000 in
theorem rnode_evy (n : NV) (at_ : Int) (w : World) (hop : 1 ≤ n.op ∧ n.op ≤ 21) (hX : usX n.op = true) (hY : usY n.op = false) (h3 : (n.op == 3) = false) (hA : agO n.op = false) (h17 : (n.op == 17) = false) (hG : grO n.op = true) :
    Cn Tryd.prog 56 [n.v, .int .i64 at_] w (fun v _ => v = .int .i64 (nodeE n at_)) := by
  refine Cn.of Tryd.func56 rfl rfl ?_
  refine gS (gR ?_)
  refine GoH.bx rfl rfl rfl rfl (fun b2 => ?_)
  refine gAs ?_; refine gE (gS (gS (gR ?_))); refine gFp Tryd.underlying80 Tryd.sizeOf3 0 ?_; refine gLo Tryd.isAgg3 0 ?_
  refine GoH.v (Vop.bin rfl rfl rfl rfl (bLtV (v := false) (decide_eq_false (by omega))) rfl) ?_
  refine gMv ?_; refine gFp Tryd.underlying80 Tryd.sizeOf3 0 ?_; refine gLo Tryd.isAgg3 0 ?_
  refine GoH.v (Vop.bin rfl rfl rfl rfl (bGtV (v := false) (decide_eq_false (by omega))) rfl) ?_
  refine gPf ?_; refine gE (GoH.condF rfl (gK (gS (gS (gR ?_))))); refine gFp Tryd.underlying80 Tryd.sizeOf3 0 ?_; refine gLo Tryd.isAgg3 0 ?_
  refine GoH.callP rfl rfl rfl rfl rfl (fun _ _ => Tryd.call92 _ _) (fun w _ hS => (by have := usesX_c n.op w; rw [hX] at this; exact this)) ?_
  refine gMv ?_; refine gFp Tryd.underlying80 Tryd.sizeOf3 4 ?_; refine gLo Tryd.isAgg3 0 ?_; refine gBi bLt ?_; refine gMv ?_
  refine GoH.cases (d := 21) rfl (fun hc => ?_) (fun hc => ?_)
  ·
   have hb : n.x < 0 := by simpa using hc
   iterate 4 refine gNo ?_
   iterate 2 refine gPt ?_
   refine gMv ?_
   iterate 9 refine gNo ?_
   refine gPt ?_; refine gE (GoH.condT rfl (gS (gR ?_))); refine gAs ?_; refine gE ?_
   refine GoH.ret Tryd.f56 Tryd.func56 rfl (fun w' hS => ?_)
   exact ⟨hS.ext, by rw [show nodeE n at_ = 3 from nodeE_x hop (by simp [opB, hX]; omega)]; rfl⟩
  ·
   have hlx : ¬ n.x < 0 := by simpa using hc
   refine gFp Tryd.underlying80 Tryd.sizeOf3 4 ?_; refine gLo Tryd.isAgg3 0 ?_; refine gMv ?_; refine gBi bGe ?_; refine gPf ?_; refine gPt ?_; refine gMv ?_
   refine GoH.cases (d := 28) rfl (fun hc => ?_) (fun hc => ?_)
   ·
    have hb : at_ ≤ n.x := by simpa using hc
    iterate 9 refine gNo ?_
    refine gPt ?_; refine gE (GoH.condT rfl (gS (gR ?_))); refine gAs ?_; refine gE ?_
    refine GoH.ret Tryd.f56 Tryd.func56 rfl (fun w' hS => ?_)
    exact ⟨hS.ext, by rw [show nodeE n at_ = 3 from nodeE_x hop (by simp [opB, hX]; omega)]; rfl⟩
   ·
    have hhx : ¬ at_ ≤ n.x := by simpa using hc
    have hox : opB (usX n.op) n.x at_ = true := by simp [opB, hX]; omega
    refine gFp Tryd.underlying80 Tryd.sizeOf3 0 ?_; refine gLo Tryd.isAgg3 0 ?_
    refine GoH.callP rfl rfl rfl rfl rfl (fun _ _ => Tryd.call92 _ _) (fun w _ hS => (by have := usesX_c n.op w; rw [hX] at this; exact this)) ?_
    refine gUn uNot ?_; refine gMv ?_
    iterate 3 refine gNo ?_
    iterate 2 refine gPf ?_
    refine gE (GoH.condF rfl (gK (gS (gS (gR ?_))))); refine gFp Tryd.underlying80 Tryd.sizeOf3 0 ?_; refine gLo Tryd.isAgg3 0 ?_
    refine GoH.callP rfl rfl rfl rfl rfl (fun _ _ => Tryd.call93 _ _) (fun w _ hS => (by have := usesY_c n.op w; rw [hY] at this; exact this)) ?_
    refine gMv ?_
    iterate 9 refine gNo ?_
    refine gPf ?_; refine gMv ?_; refine gFp Tryd.underlying80 Tryd.sizeOf3 0 ?_; refine gLo Tryd.isAgg3 0 ?_
    refine GoH.callP rfl rfl rfl rfl rfl (fun _ _ => Tryd.call93 _ _) (fun w _ hS => (by have := usesY_c n.op w; rw [hY] at this; exact this)) ?_
    refine gUn uNot ?_; refine gMv ?_; refine gFp Tryd.underlying80 Tryd.sizeOf3 5 ?_; refine gLo Tryd.isAgg3 0 ?_; refine gBi bNe ?_; refine gPt ?_; refine gPf ?_; refine gE ?_
    refine GoH.cond rfl (fun hc => ?_) (fun hc => ?_)
    ·
     have hb : n.y ≠ 0 := by simpa using hc
     refine gS (gR ?_); refine gAs ?_; refine gE ?_
     refine GoH.ret Tryd.f56 Tryd.func56 rfl (fun w' hS => ?_)
     exact ⟨hS.ext, by rw [show nodeE n at_ = 3 from nodeE_y hop (by simp [opB, hY]; omega)]; rfl⟩
    ·
     have hzy : n.y = 0 := by simpa using hc
     have hoy : opB (usY n.op) n.y at_ = true := by simp [opB, hY]; omega
     refine gK (gS (gR ?_)); refine gFp Tryd.underlying80 Tryd.sizeOf3 0 ?_; refine gLo Tryd.isAgg3 0 ?_
     refine GoH.v (Vop.bin rfl rfl rfl rfl (bEqV (v := false) h3) rfl) ?_
     refine gMv ?_; refine gFp Tryd.underlying80 Tryd.sizeOf3 0 ?_; refine gLo Tryd.isAgg3 0 ?_
     refine GoH.callP rfl rfl rfl rfl rfl (fun _ _ => Tryd.call90 _ _) (fun w _ hS => (by have := agent_c n.op w; rw [hA] at this; exact this)) ?_
     refine gPf ?_; refine gMv ?_; refine gFp Tryd.underlying80 Tryd.sizeOf3 0 ?_; refine gLo Tryd.isAgg3 0 ?_
     refine GoH.v (Vop.bin rfl rfl rfl rfl (bEqV (v := false) h17) rfl) ?_
     refine gPf ?_; refine gAs ?_; refine gE (gS (gS (gR ?_))); refine gMv ?_; refine gUn uNot ?_; refine gMv ?_; refine gFp Tryd.underlying80 Tryd.sizeOf3 1 ?_; refine gLo Tryd.isAgg3 0 ?_; refine gBi bNe ?_; refine gPt ?_; refine gMv ?_
     refine GoH.cases (d := 84) rfl (fun hc => ?_) (fun hc => ?_)
     ·
      have hb : n.i ≠ 0 := by simpa using hc
      iterate 8 refine gNo ?_
      refine gPt ?_; refine gMv ?_
      iterate 9 refine gNo ?_
      refine gPt ?_; refine gE (GoH.condT rfl (gS (gR ?_))); refine gAs ?_; refine gE ?_
      refine GoH.ret Tryd.f56 Tryd.func56 rfl (fun w' hS => ?_)
      exact ⟨hS.ext, by rw [show nodeE n at_ = 3 from (nodeE_f hop hox hoy).trans (fldE_3 (by simp [iO, bne, h3, h17, hA, hG]; omega))]; rfl⟩
     ·
      have hzi : n.i = 0 := by simpa using hc
      refine gFp Tryd.underlying80 Tryd.sizeOf3 0 ?_; refine gLo Tryd.isAgg3 0 ?_
      refine GoH.v (Vop.bin rfl rfl rfl rfl (bNeV (v := true) (by rw [bne, h17]; rfl)) rfl) ?_
      refine gMv ?_; refine gFp Tryd.underlying80 Tryd.sizeOf3 2 ?_; refine gLo Tryd.isAgg3 0 ?_; refine gBi bNe ?_; refine gPt ?_; refine gPf ?_; refine gMv ?_
      refine GoH.cases (d := 94) rfl (fun hc => ?_) (fun hc => ?_)
      ·
       have hb : n.e ≠ 0 := by simpa using hc
       iterate 9 refine gNo ?_
       refine gPt ?_; refine gE (GoH.condT rfl (gS (gR ?_))); refine gAs ?_; refine gE ?_
       refine GoH.ret Tryd.f56 Tryd.func56 rfl (fun w' hS => ?_)
       exact ⟨hS.ext, by rw [show nodeE n at_ = 3 from (nodeE_f hop hox hoy).trans (fldE_3 (by simp [iO, bne, h3, h17, hA, hG]; omega))]; rfl⟩
      ·
       have hze : n.e = 0 := by simpa using hc
       refine gFp Tryd.underlying80 Tryd.sizeOf3 0 ?_; refine gLo Tryd.isAgg3 0 ?_
       refine GoH.callP rfl rfl rfl rfl rfl (fun _ _ => Tryd.call97 _ _) (fun w _ hS => (by have := group_c n.op w; rw [hG] at this; exact this)) ?_
       have hfa : (!iO n.op && n.i != 0 || n.op != 17 && n.e != 0 || !grO n.op && n.g != 0) = false := by simp [iO, bne, h3, h17, hA, hG]; omega
       refine gUn uNot ?_; refine gMv ?_
       iterate 3 refine gNo ?_
       iterate 2 refine gPf ?_
       refine gE (GoH.condF rfl (gK (gS (gS (gR ?_))))); refine gFp Tryd.underlying80 Tryd.sizeOf3 0 ?_; refine gLo Tryd.isAgg3 0 ?_
       refine GoH.v (Vop.bin rfl rfl rfl rfl (bEqV (v := false) h3) rfl) ?_
       refine gMv ?_
       iterate 8 refine gNo ?_
       refine gPf ?_; refine gMv ?_; refine gFp Tryd.underlying80 Tryd.sizeOf3 0 ?_; refine gLo Tryd.isAgg3 0 ?_
       refine GoH.callP rfl rfl rfl rfl rfl (fun _ _ => Tryd.call90 _ _) (fun w _ hS => (by have := agent_c n.op w; rw [hA] at this; exact this)) ?_
       refine gMv ?_
       iterate 8 refine gNo ?_
       iterate 2 refine gPf ?_
       refine gE (GoH.condF rfl (gK (gS (gS (gR ?_))))); refine gFp Tryd.underlying80 Tryd.sizeOf3 0 ?_; refine gLo Tryd.isAgg3 0 ?_
       refine GoH.v (Vop.bin rfl rfl rfl rfl (bEqV (v := false) h17) rfl) ?_
       refine gMv ?_
       iterate 18 refine gNo ?_
       refine gPf ?_; refine gE (GoH.condF rfl (gK (gS (gS (gR ?_))))); refine gFp Tryd.underlying80 Tryd.sizeOf3 0 ?_; refine gLo Tryd.isAgg3 0 ?_
       refine GoH.callP rfl rfl rfl rfl rfl (fun _ _ => Tryd.call97 _ _) (fun w _ hS => (by have := group_c n.op w; rw [hG] at this; exact this)) ?_
       refine gMv ?_; refine gFp Tryd.underlying80 Tryd.sizeOf3 3 ?_; refine gLo Tryd.isAgg3 0 ?_; refine gBi bLt ?_; refine gMv ?_
       refine GoH.cases (d := 163) rfl (fun hc => ?_) (fun hc => ?_)
       ·
        have hb : n.g < 1 := by simpa using hc
        iterate 3 refine gNo ?_
        iterate 2 refine gPt ?_
        refine gE (GoH.condT rfl (gS (gR ?_))); refine gAs ?_; refine gE ?_
        refine GoH.ret Tryd.f56 Tryd.func56 rfl (fun w' hS => ?_)
        exact ⟨hS.ext, by rw [show nodeE n at_ = 2 from (nodeE_f hop hox hoy).trans (fldE_2 hfa (by simp [h3, h17, hA, hG]; omega))]; rfl⟩
       ·
        have hlg : ¬ n.g < 1 := by simpa using hc
        refine gFp Tryd.underlying80 Tryd.sizeOf3 3 ?_; refine gLo Tryd.isAgg3 0 ?_; refine gBi bGe ?_; refine gPf ?_; refine gPt ?_; refine gE ?_
        refine GoH.cond rfl (fun hc => ?_) (fun hc => ?_)
        ·
         have hb : 16 ≤ n.g := by simpa using hc
         refine gS (gR ?_); refine gAs ?_; refine gE ?_
         refine GoH.ret Tryd.f56 Tryd.func56 rfl (fun w' hS => ?_)
         exact ⟨hS.ext, by rw [show nodeE n at_ = 2 from (nodeE_f hop hox hoy).trans (fldE_2 hfa (by simp [h3, h17, hA, hG]; omega))]; rfl⟩
        ·
         have hhg : ¬ 16 ≤ n.g := by simpa using hc
         refine gK (gS (gR ?_)); refine gAs ?_; refine gE ?_
         refine GoH.ret Tryd.f56 Tryd.func56 rfl (fun w' hS => ?_)
         exact ⟨hS.ext, by rw [show nodeE n at_ = 0 from (nodeE_f hop hox hoy).trans (fldE_0 hfa (by simp [h3, h17, hA, hG]; omega))]; rfl⟩
set_option maxRecDepth 2000 in
theorem rnode_com (n : NV) (at_ : Int) (w : World) (hop : 1 ≤ n.op ∧ n.op ≤ 21) (hX : usX n.op = true) (hY : usY n.op = true) (h3 : (n.op == 3) = false) (hA : agO n.op = false) (h17 : (n.op == 17) = false) (hG : grO n.op = true) :
    Cn Tryd.prog 56 [n.v, .int .i64 at_] w (fun v _ => v = .int .i64 (nodeE n at_)) := by
  refine Cn.of Tryd.func56 rfl rfl ?_
  refine gS (gR ?_)
  refine GoH.bx rfl rfl rfl rfl (fun b2 => ?_)
  refine gAs ?_; refine gE (gS (gS (gR ?_))); refine gFp Tryd.underlying80 Tryd.sizeOf3 0 ?_; refine gLo Tryd.isAgg3 0 ?_
  refine GoH.v (Vop.bin rfl rfl rfl rfl (bLtV (v := false) (decide_eq_false (by omega))) rfl) ?_
  refine gMv ?_; refine gFp Tryd.underlying80 Tryd.sizeOf3 0 ?_; refine gLo Tryd.isAgg3 0 ?_
  refine GoH.v (Vop.bin rfl rfl rfl rfl (bGtV (v := false) (decide_eq_false (by omega))) rfl) ?_
  refine gPf ?_; refine gE (GoH.condF rfl (gK (gS (gS (gR ?_))))); refine gFp Tryd.underlying80 Tryd.sizeOf3 0 ?_; refine gLo Tryd.isAgg3 0 ?_
  refine GoH.callP rfl rfl rfl rfl rfl (fun _ _ => Tryd.call92 _ _) (fun w _ hS => (by have := usesX_c n.op w; rw [hX] at this; exact this)) ?_
  refine gMv ?_; refine gFp Tryd.underlying80 Tryd.sizeOf3 4 ?_; refine gLo Tryd.isAgg3 0 ?_; refine gBi bLt ?_; refine gMv ?_
  refine GoH.cases (d := 21) rfl (fun hc => ?_) (fun hc => ?_)
  ·
   have hb : n.x < 0 := by simpa using hc
   iterate 4 refine gNo ?_
   iterate 2 refine gPt ?_
   refine gMv ?_
   iterate 9 refine gNo ?_
   refine gPt ?_; refine gE (GoH.condT rfl (gS (gR ?_))); refine gAs ?_; refine gE ?_
   refine GoH.ret Tryd.f56 Tryd.func56 rfl (fun w' hS => ?_)
   exact ⟨hS.ext, by rw [show nodeE n at_ = 3 from nodeE_x hop (by simp [opB, hX]; omega)]; rfl⟩
  ·
   have hlx : ¬ n.x < 0 := by simpa using hc
   refine gFp Tryd.underlying80 Tryd.sizeOf3 4 ?_; refine gLo Tryd.isAgg3 0 ?_; refine gMv ?_; refine gBi bGe ?_; refine gPf ?_; refine gPt ?_; refine gMv ?_
   refine GoH.cases (d := 28) rfl (fun hc => ?_) (fun hc => ?_)
   ·
    have hb : at_ ≤ n.x := by simpa using hc
    iterate 9 refine gNo ?_
    refine gPt ?_; refine gE (GoH.condT rfl (gS (gR ?_))); refine gAs ?_; refine gE ?_
    refine GoH.ret Tryd.f56 Tryd.func56 rfl (fun w' hS => ?_)
    exact ⟨hS.ext, by rw [show nodeE n at_ = 3 from nodeE_x hop (by simp [opB, hX]; omega)]; rfl⟩
   ·
    have hhx : ¬ at_ ≤ n.x := by simpa using hc
    have hox : opB (usX n.op) n.x at_ = true := by simp [opB, hX]; omega
    refine gFp Tryd.underlying80 Tryd.sizeOf3 0 ?_; refine gLo Tryd.isAgg3 0 ?_
    refine GoH.callP rfl rfl rfl rfl rfl (fun _ _ => Tryd.call92 _ _) (fun w _ hS => (by have := usesX_c n.op w; rw [hX] at this; exact this)) ?_
    refine gUn uNot ?_; refine gMv ?_
    iterate 3 refine gNo ?_
    iterate 2 refine gPf ?_
    refine gE (GoH.condF rfl (gK (gS (gS (gR ?_))))); refine gFp Tryd.underlying80 Tryd.sizeOf3 0 ?_; refine gLo Tryd.isAgg3 0 ?_
    refine GoH.callP rfl rfl rfl rfl rfl (fun _ _ => Tryd.call93 _ _) (fun w _ hS => (by have := usesY_c n.op w; rw [hY] at this; exact this)) ?_
    refine gMv ?_; refine gFp Tryd.underlying80 Tryd.sizeOf3 5 ?_; refine gLo Tryd.isAgg3 0 ?_; refine gBi bLt ?_; refine gMv ?_
    refine GoH.cases (d := 46) rfl (fun hc => ?_) (fun hc => ?_)
    ·
     have hb : n.y < 0 := by simpa using hc
     iterate 4 refine gNo ?_
     iterate 2 refine gPt ?_
     refine gMv ?_
     iterate 9 refine gNo ?_
     refine gPt ?_; refine gE (GoH.condT rfl (gS (gR ?_))); refine gAs ?_; refine gE ?_
     refine GoH.ret Tryd.f56 Tryd.func56 rfl (fun w' hS => ?_)
     exact ⟨hS.ext, by rw [show nodeE n at_ = 3 from nodeE_y hop (by simp [opB, hY]; omega)]; rfl⟩
    ·
     have hly : ¬ n.y < 0 := by simpa using hc
     refine gFp Tryd.underlying80 Tryd.sizeOf3 5 ?_; refine gLo Tryd.isAgg3 0 ?_; refine gMv ?_; refine gBi bGe ?_; refine gPf ?_; refine gPt ?_; refine gMv ?_
     refine GoH.cases (d := 53) rfl (fun hc => ?_) (fun hc => ?_)
     ·
      have hb : at_ ≤ n.y := by simpa using hc
      iterate 9 refine gNo ?_
      refine gPt ?_; refine gE (GoH.condT rfl (gS (gR ?_))); refine gAs ?_; refine gE ?_
      refine GoH.ret Tryd.f56 Tryd.func56 rfl (fun w' hS => ?_)
      exact ⟨hS.ext, by rw [show nodeE n at_ = 3 from nodeE_y hop (by simp [opB, hY]; omega)]; rfl⟩
     ·
      have hhy : ¬ at_ ≤ n.y := by simpa using hc
      have hoy : opB (usY n.op) n.y at_ = true := by simp [opB, hY]; omega
      refine gFp Tryd.underlying80 Tryd.sizeOf3 0 ?_; refine gLo Tryd.isAgg3 0 ?_
      refine GoH.callP rfl rfl rfl rfl rfl (fun _ _ => Tryd.call93 _ _) (fun w _ hS => (by have := usesY_c n.op w; rw [hY] at this; exact this)) ?_
      refine gUn uNot ?_; refine gMv ?_
      iterate 3 refine gNo ?_
      iterate 2 refine gPf ?_
      refine gE (GoH.condF rfl (gK (gS (gR ?_)))); refine gFp Tryd.underlying80 Tryd.sizeOf3 0 ?_; refine gLo Tryd.isAgg3 0 ?_
      refine GoH.v (Vop.bin rfl rfl rfl rfl (bEqV (v := false) h3) rfl) ?_
      refine gMv ?_; refine gFp Tryd.underlying80 Tryd.sizeOf3 0 ?_; refine gLo Tryd.isAgg3 0 ?_
      refine GoH.callP rfl rfl rfl rfl rfl (fun _ _ => Tryd.call90 _ _) (fun w _ hS => (by have := agent_c n.op w; rw [hA] at this; exact this)) ?_
      refine gPf ?_; refine gMv ?_; refine gFp Tryd.underlying80 Tryd.sizeOf3 0 ?_; refine gLo Tryd.isAgg3 0 ?_
      refine GoH.v (Vop.bin rfl rfl rfl rfl (bEqV (v := false) h17) rfl) ?_
      refine gPf ?_; refine gAs ?_; refine gE (gS (gS (gR ?_))); refine gMv ?_; refine gUn uNot ?_; refine gMv ?_; refine gFp Tryd.underlying80 Tryd.sizeOf3 1 ?_; refine gLo Tryd.isAgg3 0 ?_; refine gBi bNe ?_; refine gPt ?_; refine gMv ?_
      refine GoH.cases (d := 84) rfl (fun hc => ?_) (fun hc => ?_)
      ·
       have hb : n.i ≠ 0 := by simpa using hc
       iterate 8 refine gNo ?_
       refine gPt ?_; refine gMv ?_
       iterate 9 refine gNo ?_
       refine gPt ?_; refine gE (GoH.condT rfl (gS (gR ?_))); refine gAs ?_; refine gE ?_
       refine GoH.ret Tryd.f56 Tryd.func56 rfl (fun w' hS => ?_)
       exact ⟨hS.ext, by rw [show nodeE n at_ = 3 from (nodeE_f hop hox hoy).trans (fldE_3 (by simp [iO, bne, h3, h17, hA, hG]; omega))]; rfl⟩
      ·
       have hzi : n.i = 0 := by simpa using hc
       refine gFp Tryd.underlying80 Tryd.sizeOf3 0 ?_; refine gLo Tryd.isAgg3 0 ?_
       refine GoH.v (Vop.bin rfl rfl rfl rfl (bNeV (v := true) (by rw [bne, h17]; rfl)) rfl) ?_
       refine gMv ?_; refine gFp Tryd.underlying80 Tryd.sizeOf3 2 ?_; refine gLo Tryd.isAgg3 0 ?_; refine gBi bNe ?_; refine gPt ?_; refine gPf ?_; refine gMv ?_
       refine GoH.cases (d := 94) rfl (fun hc => ?_) (fun hc => ?_)
       ·
        have hb : n.e ≠ 0 := by simpa using hc
        iterate 9 refine gNo ?_
        refine gPt ?_; refine gE (GoH.condT rfl (gS (gR ?_))); refine gAs ?_; refine gE ?_
        refine GoH.ret Tryd.f56 Tryd.func56 rfl (fun w' hS => ?_)
        exact ⟨hS.ext, by rw [show nodeE n at_ = 3 from (nodeE_f hop hox hoy).trans (fldE_3 (by simp [iO, bne, h3, h17, hA, hG]; omega))]; rfl⟩
       ·
        have hze : n.e = 0 := by simpa using hc
        refine gFp Tryd.underlying80 Tryd.sizeOf3 0 ?_; refine gLo Tryd.isAgg3 0 ?_
        refine GoH.callP rfl rfl rfl rfl rfl (fun _ _ => Tryd.call97 _ _) (fun w _ hS => (by have := group_c n.op w; rw [hG] at this; exact this)) ?_
        have hfa : (!iO n.op && n.i != 0 || n.op != 17 && n.e != 0 || !grO n.op && n.g != 0) = false := by simp [iO, bne, h3, h17, hA, hG]; omega
        refine gUn uNot ?_; refine gMv ?_
        iterate 3 refine gNo ?_
        iterate 2 refine gPf ?_
        refine gE (GoH.condF rfl (gK (gS (gS (gR ?_))))); refine gFp Tryd.underlying80 Tryd.sizeOf3 0 ?_; refine gLo Tryd.isAgg3 0 ?_
        refine GoH.v (Vop.bin rfl rfl rfl rfl (bEqV (v := false) h3) rfl) ?_
        refine gMv ?_
        iterate 8 refine gNo ?_
        refine gPf ?_; refine gMv ?_; refine gFp Tryd.underlying80 Tryd.sizeOf3 0 ?_; refine gLo Tryd.isAgg3 0 ?_
        refine GoH.callP rfl rfl rfl rfl rfl (fun _ _ => Tryd.call90 _ _) (fun w _ hS => (by have := agent_c n.op w; rw [hA] at this; exact this)) ?_
        refine gMv ?_
        iterate 8 refine gNo ?_
        iterate 2 refine gPf ?_
        refine gE (GoH.condF rfl (gK (gS (gS (gR ?_))))); refine gFp Tryd.underlying80 Tryd.sizeOf3 0 ?_; refine gLo Tryd.isAgg3 0 ?_
        refine GoH.v (Vop.bin rfl rfl rfl rfl (bEqV (v := false) h17) rfl) ?_
        refine gMv ?_
        iterate 18 refine gNo ?_
        refine gPf ?_; refine gE (GoH.condF rfl (gK (gS (gS (gR ?_))))); refine gFp Tryd.underlying80 Tryd.sizeOf3 0 ?_; refine gLo Tryd.isAgg3 0 ?_
        refine GoH.callP rfl rfl rfl rfl rfl (fun _ _ => Tryd.call97 _ _) (fun w _ hS => (by have := group_c n.op w; rw [hG] at this; exact this)) ?_
        refine gMv ?_; refine gFp Tryd.underlying80 Tryd.sizeOf3 3 ?_; refine gLo Tryd.isAgg3 0 ?_; refine gBi bLt ?_; refine gMv ?_
        refine GoH.cases (d := 163) rfl (fun hc => ?_) (fun hc => ?_)
        ·
         have hb : n.g < 1 := by simpa using hc
         iterate 3 refine gNo ?_
         iterate 2 refine gPt ?_
         refine gE (GoH.condT rfl (gS (gR ?_))); refine gAs ?_; refine gE ?_
         refine GoH.ret Tryd.f56 Tryd.func56 rfl (fun w' hS => ?_)
         exact ⟨hS.ext, by rw [show nodeE n at_ = 2 from (nodeE_f hop hox hoy).trans (fldE_2 hfa (by simp [h3, h17, hA, hG]; omega))]; rfl⟩
        ·
         have hlg : ¬ n.g < 1 := by simpa using hc
         refine gFp Tryd.underlying80 Tryd.sizeOf3 3 ?_; refine gLo Tryd.isAgg3 0 ?_; refine gBi bGe ?_; refine gPf ?_; refine gPt ?_; refine gE ?_
         refine GoH.cond rfl (fun hc => ?_) (fun hc => ?_)
         ·
          have hb : 16 ≤ n.g := by simpa using hc
          refine gS (gR ?_); refine gAs ?_; refine gE ?_
          refine GoH.ret Tryd.f56 Tryd.func56 rfl (fun w' hS => ?_)
          exact ⟨hS.ext, by rw [show nodeE n at_ = 2 from (nodeE_f hop hox hoy).trans (fldE_2 hfa (by simp [h3, h17, hA, hG]; omega))]; rfl⟩
         ·
          have hhg : ¬ 16 ≤ n.g := by simpa using hc
          refine gK (gS (gR ?_)); refine gAs ?_; refine gE ?_
          refine GoH.ret Tryd.f56 Tryd.func56 rfl (fun w' hS => ?_)
          exact ⟨hS.ext, by rw [show nodeE n at_ = 0 from (nodeE_f hop hox hoy).trans (fldE_0 hfa (by simp [h3, h17, hA, hG]; omega))]; rfl⟩
set_option maxRecDepth 2000 in
theorem rnode_bel (n : NV) (at_ : Int) (w : World) (hop : 1 ≤ n.op ∧ n.op ≤ 21) (hX : usX n.op = true) (hY : usY n.op = true) (h3 : (n.op == 3) = false) (hA : agO n.op = true) (h17 : (n.op == 17) = false) (hG : grO n.op = false) :
    Cn Tryd.prog 56 [n.v, .int .i64 at_] w (fun v _ => v = .int .i64 (nodeE n at_)) := by
  refine Cn.of Tryd.func56 rfl rfl ?_
  refine gS (gR ?_)
  refine GoH.bx rfl rfl rfl rfl (fun b2 => ?_)
  refine gAs ?_; refine gE (gS (gS (gR ?_))); refine gFp Tryd.underlying80 Tryd.sizeOf3 0 ?_; refine gLo Tryd.isAgg3 0 ?_
  refine GoH.v (Vop.bin rfl rfl rfl rfl (bLtV (v := false) (decide_eq_false (by omega))) rfl) ?_
  refine gMv ?_; refine gFp Tryd.underlying80 Tryd.sizeOf3 0 ?_; refine gLo Tryd.isAgg3 0 ?_
  refine GoH.v (Vop.bin rfl rfl rfl rfl (bGtV (v := false) (decide_eq_false (by omega))) rfl) ?_
  refine gPf ?_; refine gE (GoH.condF rfl (gK (gS (gS (gR ?_))))); refine gFp Tryd.underlying80 Tryd.sizeOf3 0 ?_; refine gLo Tryd.isAgg3 0 ?_
  refine GoH.callP rfl rfl rfl rfl rfl (fun _ _ => Tryd.call92 _ _) (fun w _ hS => (by have := usesX_c n.op w; rw [hX] at this; exact this)) ?_
  refine gMv ?_; refine gFp Tryd.underlying80 Tryd.sizeOf3 4 ?_; refine gLo Tryd.isAgg3 0 ?_; refine gBi bLt ?_; refine gMv ?_
  refine GoH.cases (d := 21) rfl (fun hc => ?_) (fun hc => ?_)
  ·
   have hb : n.x < 0 := by simpa using hc
   iterate 4 refine gNo ?_
   iterate 2 refine gPt ?_
   refine gMv ?_
   iterate 9 refine gNo ?_
   refine gPt ?_; refine gE (GoH.condT rfl (gS (gR ?_))); refine gAs ?_; refine gE ?_
   refine GoH.ret Tryd.f56 Tryd.func56 rfl (fun w' hS => ?_)
   exact ⟨hS.ext, by rw [show nodeE n at_ = 3 from nodeE_x hop (by simp [opB, hX]; omega)]; rfl⟩
  ·
   have hlx : ¬ n.x < 0 := by simpa using hc
   refine gFp Tryd.underlying80 Tryd.sizeOf3 4 ?_; refine gLo Tryd.isAgg3 0 ?_; refine gMv ?_; refine gBi bGe ?_; refine gPf ?_; refine gPt ?_; refine gMv ?_
   refine GoH.cases (d := 28) rfl (fun hc => ?_) (fun hc => ?_)
   ·
    have hb : at_ ≤ n.x := by simpa using hc
    iterate 9 refine gNo ?_
    refine gPt ?_; refine gE (GoH.condT rfl (gS (gR ?_))); refine gAs ?_; refine gE ?_
    refine GoH.ret Tryd.f56 Tryd.func56 rfl (fun w' hS => ?_)
    exact ⟨hS.ext, by rw [show nodeE n at_ = 3 from nodeE_x hop (by simp [opB, hX]; omega)]; rfl⟩
   ·
    have hhx : ¬ at_ ≤ n.x := by simpa using hc
    have hox : opB (usX n.op) n.x at_ = true := by simp [opB, hX]; omega
    refine gFp Tryd.underlying80 Tryd.sizeOf3 0 ?_; refine gLo Tryd.isAgg3 0 ?_
    refine GoH.callP rfl rfl rfl rfl rfl (fun _ _ => Tryd.call92 _ _) (fun w _ hS => (by have := usesX_c n.op w; rw [hX] at this; exact this)) ?_
    refine gUn uNot ?_; refine gMv ?_
    iterate 3 refine gNo ?_
    iterate 2 refine gPf ?_
    refine gE (GoH.condF rfl (gK (gS (gS (gR ?_))))); refine gFp Tryd.underlying80 Tryd.sizeOf3 0 ?_; refine gLo Tryd.isAgg3 0 ?_
    refine GoH.callP rfl rfl rfl rfl rfl (fun _ _ => Tryd.call93 _ _) (fun w _ hS => (by have := usesY_c n.op w; rw [hY] at this; exact this)) ?_
    refine gMv ?_; refine gFp Tryd.underlying80 Tryd.sizeOf3 5 ?_; refine gLo Tryd.isAgg3 0 ?_; refine gBi bLt ?_; refine gMv ?_
    refine GoH.cases (d := 46) rfl (fun hc => ?_) (fun hc => ?_)
    ·
     have hb : n.y < 0 := by simpa using hc
     iterate 4 refine gNo ?_
     iterate 2 refine gPt ?_
     refine gMv ?_
     iterate 9 refine gNo ?_
     refine gPt ?_; refine gE (GoH.condT rfl (gS (gR ?_))); refine gAs ?_; refine gE ?_
     refine GoH.ret Tryd.f56 Tryd.func56 rfl (fun w' hS => ?_)
     exact ⟨hS.ext, by rw [show nodeE n at_ = 3 from nodeE_y hop (by simp [opB, hY]; omega)]; rfl⟩
    ·
     have hly : ¬ n.y < 0 := by simpa using hc
     refine gFp Tryd.underlying80 Tryd.sizeOf3 5 ?_; refine gLo Tryd.isAgg3 0 ?_; refine gMv ?_; refine gBi bGe ?_; refine gPf ?_; refine gPt ?_; refine gMv ?_
     refine GoH.cases (d := 53) rfl (fun hc => ?_) (fun hc => ?_)
     ·
      have hb : at_ ≤ n.y := by simpa using hc
      iterate 9 refine gNo ?_
      refine gPt ?_; refine gE (GoH.condT rfl (gS (gR ?_))); refine gAs ?_; refine gE ?_
      refine GoH.ret Tryd.f56 Tryd.func56 rfl (fun w' hS => ?_)
      exact ⟨hS.ext, by rw [show nodeE n at_ = 3 from nodeE_y hop (by simp [opB, hY]; omega)]; rfl⟩
     ·
      have hhy : ¬ at_ ≤ n.y := by simpa using hc
      have hoy : opB (usY n.op) n.y at_ = true := by simp [opB, hY]; omega
      refine gFp Tryd.underlying80 Tryd.sizeOf3 0 ?_; refine gLo Tryd.isAgg3 0 ?_
      refine GoH.callP rfl rfl rfl rfl rfl (fun _ _ => Tryd.call93 _ _) (fun w _ hS => (by have := usesY_c n.op w; rw [hY] at this; exact this)) ?_
      refine gUn uNot ?_; refine gMv ?_
      iterate 3 refine gNo ?_
      iterate 2 refine gPf ?_
      refine gE (GoH.condF rfl (gK (gS (gR ?_)))); refine gFp Tryd.underlying80 Tryd.sizeOf3 0 ?_; refine gLo Tryd.isAgg3 0 ?_
      refine GoH.v (Vop.bin rfl rfl rfl rfl (bEqV (v := false) h3) rfl) ?_
      refine gMv ?_; refine gFp Tryd.underlying80 Tryd.sizeOf3 0 ?_; refine gLo Tryd.isAgg3 0 ?_
      refine GoH.callP rfl rfl rfl rfl rfl (fun _ _ => Tryd.call90 _ _) (fun w _ hS => (by have := agent_c n.op w; rw [hA] at this; exact this)) ?_
      refine gPf ?_; refine gMv ?_
      iterate 3 refine gNo ?_
      refine gPt ?_; refine gAs ?_; refine gE (gS (gS (gR ?_))); refine gMv ?_; refine gUn uNot ?_; refine gMv ?_
      iterate 3 refine gNo ?_
      refine gPf ?_; refine gMv ?_; refine gFp Tryd.underlying80 Tryd.sizeOf3 0 ?_; refine gLo Tryd.isAgg3 0 ?_
      refine GoH.v (Vop.bin rfl rfl rfl rfl (bNeV (v := true) (by rw [bne, h17]; rfl)) rfl) ?_
      refine gMv ?_; refine gFp Tryd.underlying80 Tryd.sizeOf3 2 ?_; refine gLo Tryd.isAgg3 0 ?_; refine gBi bNe ?_; refine gPt ?_; refine gPf ?_; refine gMv ?_
      refine GoH.cases (d := 94) rfl (fun hc => ?_) (fun hc => ?_)
      ·
       have hb : n.e ≠ 0 := by simpa using hc
       iterate 9 refine gNo ?_
       refine gPt ?_; refine gE (GoH.condT rfl (gS (gR ?_))); refine gAs ?_; refine gE ?_
       refine GoH.ret Tryd.f56 Tryd.func56 rfl (fun w' hS => ?_)
       exact ⟨hS.ext, by rw [show nodeE n at_ = 3 from (nodeE_f hop hox hoy).trans (fldE_3 (by simp [iO, bne, h3, h17, hA, hG]; omega))]; rfl⟩
      ·
       have hze : n.e = 0 := by simpa using hc
       refine gFp Tryd.underlying80 Tryd.sizeOf3 0 ?_; refine gLo Tryd.isAgg3 0 ?_
       refine GoH.callP rfl rfl rfl rfl rfl (fun _ _ => Tryd.call97 _ _) (fun w _ hS => (by have := group_c n.op w; rw [hG] at this; exact this)) ?_
       refine gUn uNot ?_; refine gMv ?_; refine gFp Tryd.underlying80 Tryd.sizeOf3 3 ?_; refine gLo Tryd.isAgg3 0 ?_; refine gBi bNe ?_; refine gPt ?_; refine gPf ?_; refine gE ?_
       refine GoH.cond rfl (fun hc => ?_) (fun hc => ?_)
       ·
        have hb : n.g ≠ 0 := by simpa using hc
        refine gS (gR ?_); refine gAs ?_; refine gE ?_
        refine GoH.ret Tryd.f56 Tryd.func56 rfl (fun w' hS => ?_)
        exact ⟨hS.ext, by rw [show nodeE n at_ = 3 from (nodeE_f hop hox hoy).trans (fldE_3 (by simp [iO, bne, h3, h17, hA, hG]; omega))]; rfl⟩
       ·
        have hzg : n.g = 0 := by simpa using hc
        have hfa : (!iO n.op && n.i != 0 || n.op != 17 && n.e != 0 || !grO n.op && n.g != 0) = false := by simp [iO, bne, h3, h17, hA, hG]; omega
        refine gK (gS (gS (gR ?_))); refine gFp Tryd.underlying80 Tryd.sizeOf3 0 ?_; refine gLo Tryd.isAgg3 0 ?_
        refine GoH.v (Vop.bin rfl rfl rfl rfl (bEqV (v := false) h3) rfl) ?_
        refine gMv ?_
        iterate 8 refine gNo ?_
        refine gPf ?_; refine gMv ?_; refine gFp Tryd.underlying80 Tryd.sizeOf3 0 ?_; refine gLo Tryd.isAgg3 0 ?_
        refine GoH.callP rfl rfl rfl rfl rfl (fun _ _ => Tryd.call90 _ _) (fun w _ hS => (by have := agent_c n.op w; rw [hA] at this; exact this)) ?_
        refine gMv ?_; refine gFp Tryd.underlying80 Tryd.sizeOf3 1 ?_; refine gLo Tryd.isAgg3 0 ?_; refine gBi bLt ?_; refine gMv ?_
        refine GoH.cases (d := 126) rfl (fun hc => ?_) (fun hc => ?_)
        ·
         have hb : n.i < 0 := by simpa using hc
         iterate 3 refine gNo ?_
         iterate 2 refine gPt ?_
         refine gPf ?_; refine gE (GoH.condT rfl (gS (gR ?_))); refine gAs ?_; refine gE ?_
         refine GoH.ret Tryd.f56 Tryd.func56 rfl (fun w' hS => ?_)
         exact ⟨hS.ext, by rw [show nodeE n at_ = 2 from (nodeE_f hop hox hoy).trans (fldE_2 hfa (by simp [h3, h17, hA, hG]; omega))]; rfl⟩
        ·
         have hli : ¬ n.i < 0 := by simpa using hc
         refine gFp Tryd.underlying80 Tryd.sizeOf3 1 ?_; refine gLo Tryd.isAgg3 0 ?_; refine gBi bGe ?_; refine gPf ?_; refine gPt ?_; refine gPf ?_; refine gE ?_
         refine GoH.cond rfl (fun hc => ?_) (fun hc => ?_)
         ·
          have hb : 4 ≤ n.i := by simpa using hc
          refine gS (gR ?_); refine gAs ?_; refine gE ?_
          refine GoH.ret Tryd.f56 Tryd.func56 rfl (fun w' hS => ?_)
          exact ⟨hS.ext, by rw [show nodeE n at_ = 2 from (nodeE_f hop hox hoy).trans (fldE_2 hfa (by simp [h3, h17, hA, hG]; omega))]; rfl⟩
         ·
          have hhi : ¬ 4 ≤ n.i := by simpa using hc
          refine gK (gS (gS (gR ?_))); refine gFp Tryd.underlying80 Tryd.sizeOf3 0 ?_; refine gLo Tryd.isAgg3 0 ?_
          refine GoH.v (Vop.bin rfl rfl rfl rfl (bEqV (v := false) h17) rfl) ?_
          refine gMv ?_
          iterate 18 refine gNo ?_
          refine gPf ?_; refine gE (GoH.condF rfl (gK (gS (gS (gR ?_))))); refine gFp Tryd.underlying80 Tryd.sizeOf3 0 ?_; refine gLo Tryd.isAgg3 0 ?_
          refine GoH.callP rfl rfl rfl rfl rfl (fun _ _ => Tryd.call97 _ _) (fun w _ hS => (by have := group_c n.op w; rw [hG] at this; exact this)) ?_
          refine gMv ?_
          iterate 8 refine gNo ?_
          refine gPf ?_; refine gE (GoH.condF rfl (gK (gS (gR ?_)))); refine gAs ?_; refine gE ?_
          refine GoH.ret Tryd.f56 Tryd.func56 rfl (fun w' hS => ?_)
          exact ⟨hS.ext, by rw [show nodeE n at_ = 0 from (nodeE_f hop hox hoy).trans (fldE_0 hfa (by simp [h3, h17, hA, hG]; omega))]; rfl⟩
set_option maxRecDepth 2000 in
theorem rnode_act (n : NV) (at_ : Int) (w : World) (hop : 1 ≤ n.op ∧ n.op ≤ 21) (hX : usX n.op = true) (hY : usY n.op = false) (h3 : (n.op == 3) = false) (hA : agO n.op = false) (h17 : (n.op == 17) = true) (hG : grO n.op = false) :
    Cn Tryd.prog 56 [n.v, .int .i64 at_] w (fun v _ => v = .int .i64 (nodeE n at_)) := by
  refine Cn.of Tryd.func56 rfl rfl ?_
  refine gS (gR ?_)
  refine GoH.bx rfl rfl rfl rfl (fun b2 => ?_)
  refine gAs ?_; refine gE (gS (gS (gR ?_))); refine gFp Tryd.underlying80 Tryd.sizeOf3 0 ?_; refine gLo Tryd.isAgg3 0 ?_
  refine GoH.v (Vop.bin rfl rfl rfl rfl (bLtV (v := false) (decide_eq_false (by omega))) rfl) ?_
  refine gMv ?_; refine gFp Tryd.underlying80 Tryd.sizeOf3 0 ?_; refine gLo Tryd.isAgg3 0 ?_
  refine GoH.v (Vop.bin rfl rfl rfl rfl (bGtV (v := false) (decide_eq_false (by omega))) rfl) ?_
  refine gPf ?_; refine gE (GoH.condF rfl (gK (gS (gS (gR ?_))))); refine gFp Tryd.underlying80 Tryd.sizeOf3 0 ?_; refine gLo Tryd.isAgg3 0 ?_
  refine GoH.callP rfl rfl rfl rfl rfl (fun _ _ => Tryd.call92 _ _) (fun w _ hS => (by have := usesX_c n.op w; rw [hX] at this; exact this)) ?_
  refine gMv ?_; refine gFp Tryd.underlying80 Tryd.sizeOf3 4 ?_; refine gLo Tryd.isAgg3 0 ?_; refine gBi bLt ?_; refine gMv ?_
  refine GoH.cases (d := 21) rfl (fun hc => ?_) (fun hc => ?_)
  ·
   have hb : n.x < 0 := by simpa using hc
   iterate 4 refine gNo ?_
   iterate 2 refine gPt ?_
   refine gMv ?_
   iterate 9 refine gNo ?_
   refine gPt ?_; refine gE (GoH.condT rfl (gS (gR ?_))); refine gAs ?_; refine gE ?_
   refine GoH.ret Tryd.f56 Tryd.func56 rfl (fun w' hS => ?_)
   exact ⟨hS.ext, by rw [show nodeE n at_ = 3 from nodeE_x hop (by simp [opB, hX]; omega)]; rfl⟩
  ·
   have hlx : ¬ n.x < 0 := by simpa using hc
   refine gFp Tryd.underlying80 Tryd.sizeOf3 4 ?_; refine gLo Tryd.isAgg3 0 ?_; refine gMv ?_; refine gBi bGe ?_; refine gPf ?_; refine gPt ?_; refine gMv ?_
   refine GoH.cases (d := 28) rfl (fun hc => ?_) (fun hc => ?_)
   ·
    have hb : at_ ≤ n.x := by simpa using hc
    iterate 9 refine gNo ?_
    refine gPt ?_; refine gE (GoH.condT rfl (gS (gR ?_))); refine gAs ?_; refine gE ?_
    refine GoH.ret Tryd.f56 Tryd.func56 rfl (fun w' hS => ?_)
    exact ⟨hS.ext, by rw [show nodeE n at_ = 3 from nodeE_x hop (by simp [opB, hX]; omega)]; rfl⟩
   ·
    have hhx : ¬ at_ ≤ n.x := by simpa using hc
    have hox : opB (usX n.op) n.x at_ = true := by simp [opB, hX]; omega
    refine gFp Tryd.underlying80 Tryd.sizeOf3 0 ?_; refine gLo Tryd.isAgg3 0 ?_
    refine GoH.callP rfl rfl rfl rfl rfl (fun _ _ => Tryd.call92 _ _) (fun w _ hS => (by have := usesX_c n.op w; rw [hX] at this; exact this)) ?_
    refine gUn uNot ?_; refine gMv ?_
    iterate 3 refine gNo ?_
    iterate 2 refine gPf ?_
    refine gE (GoH.condF rfl (gK (gS (gS (gR ?_))))); refine gFp Tryd.underlying80 Tryd.sizeOf3 0 ?_; refine gLo Tryd.isAgg3 0 ?_
    refine GoH.callP rfl rfl rfl rfl rfl (fun _ _ => Tryd.call93 _ _) (fun w _ hS => (by have := usesY_c n.op w; rw [hY] at this; exact this)) ?_
    refine gMv ?_
    iterate 9 refine gNo ?_
    refine gPf ?_; refine gMv ?_; refine gFp Tryd.underlying80 Tryd.sizeOf3 0 ?_; refine gLo Tryd.isAgg3 0 ?_
    refine GoH.callP rfl rfl rfl rfl rfl (fun _ _ => Tryd.call93 _ _) (fun w _ hS => (by have := usesY_c n.op w; rw [hY] at this; exact this)) ?_
    refine gUn uNot ?_; refine gMv ?_; refine gFp Tryd.underlying80 Tryd.sizeOf3 5 ?_; refine gLo Tryd.isAgg3 0 ?_; refine gBi bNe ?_; refine gPt ?_; refine gPf ?_; refine gE ?_
    refine GoH.cond rfl (fun hc => ?_) (fun hc => ?_)
    ·
     have hb : n.y ≠ 0 := by simpa using hc
     refine gS (gR ?_); refine gAs ?_; refine gE ?_
     refine GoH.ret Tryd.f56 Tryd.func56 rfl (fun w' hS => ?_)
     exact ⟨hS.ext, by rw [show nodeE n at_ = 3 from nodeE_y hop (by simp [opB, hY]; omega)]; rfl⟩
    ·
     have hzy : n.y = 0 := by simpa using hc
     have hoy : opB (usY n.op) n.y at_ = true := by simp [opB, hY]; omega
     refine gK (gS (gR ?_)); refine gFp Tryd.underlying80 Tryd.sizeOf3 0 ?_; refine gLo Tryd.isAgg3 0 ?_
     refine GoH.v (Vop.bin rfl rfl rfl rfl (bEqV (v := false) h3) rfl) ?_
     refine gMv ?_; refine gFp Tryd.underlying80 Tryd.sizeOf3 0 ?_; refine gLo Tryd.isAgg3 0 ?_
     refine GoH.callP rfl rfl rfl rfl rfl (fun _ _ => Tryd.call90 _ _) (fun w _ hS => (by have := agent_c n.op w; rw [hA] at this; exact this)) ?_
     refine gPf ?_; refine gMv ?_; refine gFp Tryd.underlying80 Tryd.sizeOf3 0 ?_; refine gLo Tryd.isAgg3 0 ?_
     refine GoH.v (Vop.bin rfl rfl rfl rfl (bEqV (v := true) h17) rfl) ?_
     refine gPf ?_; refine gAs ?_; refine gE (gS (gS (gR ?_))); refine gMv ?_; refine gUn uNot ?_; refine gMv ?_
     iterate 3 refine gNo ?_
     refine gPf ?_; refine gMv ?_; refine gFp Tryd.underlying80 Tryd.sizeOf3 0 ?_; refine gLo Tryd.isAgg3 0 ?_
     refine GoH.v (Vop.bin rfl rfl rfl rfl (bNeV (v := false) (by rw [bne, h17]; rfl)) rfl) ?_
     refine gMv ?_
     iterate 3 refine gNo ?_
     iterate 2 refine gPf ?_
     refine gMv ?_; refine gFp Tryd.underlying80 Tryd.sizeOf3 0 ?_; refine gLo Tryd.isAgg3 0 ?_
     refine GoH.callP rfl rfl rfl rfl rfl (fun _ _ => Tryd.call97 _ _) (fun w _ hS => (by have := group_c n.op w; rw [hG] at this; exact this)) ?_
     refine gUn uNot ?_; refine gMv ?_; refine gFp Tryd.underlying80 Tryd.sizeOf3 3 ?_; refine gLo Tryd.isAgg3 0 ?_; refine gBi bNe ?_; refine gPt ?_; refine gPf ?_; refine gE ?_
     refine GoH.cond rfl (fun hc => ?_) (fun hc => ?_)
     ·
      have hb : n.g ≠ 0 := by simpa using hc
      refine gS (gR ?_); refine gAs ?_; refine gE ?_
      refine GoH.ret Tryd.f56 Tryd.func56 rfl (fun w' hS => ?_)
      exact ⟨hS.ext, by rw [show nodeE n at_ = 3 from (nodeE_f hop hox hoy).trans (fldE_3 (by simp [iO, bne, h3, h17, hA, hG]; omega))]; rfl⟩
     ·
      have hzg : n.g = 0 := by simpa using hc
      have hfa : (!iO n.op && n.i != 0 || n.op != 17 && n.e != 0 || !grO n.op && n.g != 0) = false := by simp [iO, bne, h3, h17, hA, hG]; omega
      refine gK (gS (gS (gR ?_))); refine gFp Tryd.underlying80 Tryd.sizeOf3 0 ?_; refine gLo Tryd.isAgg3 0 ?_
      refine GoH.v (Vop.bin rfl rfl rfl rfl (bEqV (v := false) h3) rfl) ?_
      refine gMv ?_
      iterate 8 refine gNo ?_
      refine gPf ?_; refine gMv ?_; refine gFp Tryd.underlying80 Tryd.sizeOf3 0 ?_; refine gLo Tryd.isAgg3 0 ?_
      refine GoH.callP rfl rfl rfl rfl rfl (fun _ _ => Tryd.call90 _ _) (fun w _ hS => (by have := agent_c n.op w; rw [hA] at this; exact this)) ?_
      refine gMv ?_
      iterate 8 refine gNo ?_
      iterate 2 refine gPf ?_
      refine gE (GoH.condF rfl (gK (gS (gS (gR ?_))))); refine gFp Tryd.underlying80 Tryd.sizeOf3 0 ?_; refine gLo Tryd.isAgg3 0 ?_
      refine GoH.v (Vop.bin rfl rfl rfl rfl (bEqV (v := true) h17) rfl) ?_
      refine gMv ?_; refine gFp Tryd.underlying80 Tryd.sizeOf3 1 ?_; refine gLo Tryd.isAgg3 0 ?_; refine gBi bLt ?_; refine gMv ?_
      refine GoH.cases (d := 140) rfl (fun hc => ?_) (fun hc => ?_)
      ·
       have hb : n.i < 0 := by simpa using hc
       iterate 3 refine gNo ?_
       refine gPt ?_; refine gMv ?_
       iterate 3 refine gNo ?_
       refine gPt ?_; refine gMv ?_
       iterate 3 refine gNo ?_
       iterate 2 refine gPt ?_
       refine gE (GoH.condT rfl (gS (gR ?_))); refine gAs ?_; refine gE ?_
       refine GoH.ret Tryd.f56 Tryd.func56 rfl (fun w' hS => ?_)
       exact ⟨hS.ext, by rw [show nodeE n at_ = 2 from (nodeE_f hop hox hoy).trans (fldE_2 hfa (by simp [h3, h17, hA, hG]; omega))]; rfl⟩
      ·
       have hli : ¬ n.i < 0 := by simpa using hc
       refine gFp Tryd.underlying80 Tryd.sizeOf3 1 ?_; refine gLo Tryd.isAgg3 0 ?_; refine gBi bGe ?_; refine gPf ?_; refine gMv ?_
       refine GoH.cases (d := 145) rfl (fun hc => ?_) (fun hc => ?_)
       ·
        have hb : 8 ≤ n.i := by simpa using hc
        iterate 3 refine gNo ?_
        refine gPt ?_; refine gMv ?_
        iterate 3 refine gNo ?_
        iterate 2 refine gPt ?_
        refine gE (GoH.condT rfl (gS (gR ?_))); refine gAs ?_; refine gE ?_
        refine GoH.ret Tryd.f56 Tryd.func56 rfl (fun w' hS => ?_)
        exact ⟨hS.ext, by rw [show nodeE n at_ = 2 from (nodeE_f hop hox hoy).trans (fldE_2 hfa (by simp [h3, h17, hA, hG]; omega))]; rfl⟩
       ·
        have hhi : ¬ 8 ≤ n.i := by simpa using hc
        refine gFp Tryd.underlying80 Tryd.sizeOf3 2 ?_; refine gLo Tryd.isAgg3 0 ?_; refine gBi bLt ?_; refine gPf ?_; refine gMv ?_
        refine GoH.cases (d := 150) rfl (fun hc => ?_) (fun hc => ?_)
        ·
         have hb : n.e < 0 := by simpa using hc
         iterate 3 refine gNo ?_
         iterate 2 refine gPt ?_
         refine gE (GoH.condT rfl (gS (gR ?_))); refine gAs ?_; refine gE ?_
         refine GoH.ret Tryd.f56 Tryd.func56 rfl (fun w' hS => ?_)
         exact ⟨hS.ext, by rw [show nodeE n at_ = 2 from (nodeE_f hop hox hoy).trans (fldE_2 hfa (by simp [h3, h17, hA, hG]; omega))]; rfl⟩
        ·
         have hle : ¬ n.e < 0 := by simpa using hc
         refine gFp Tryd.underlying80 Tryd.sizeOf3 2 ?_; refine gLo Tryd.isAgg3 0 ?_; refine gBi bGe ?_; refine gPf ?_; refine gPt ?_; refine gE ?_
         refine GoH.cond rfl (fun hc => ?_) (fun hc => ?_)
         ·
          have hb : 8 ≤ n.e := by simpa using hc
          refine gS (gR ?_); refine gAs ?_; refine gE ?_
          refine GoH.ret Tryd.f56 Tryd.func56 rfl (fun w' hS => ?_)
          exact ⟨hS.ext, by rw [show nodeE n at_ = 2 from (nodeE_f hop hox hoy).trans (fldE_2 hfa (by simp [h3, h17, hA, hG]; omega))]; rfl⟩
         ·
          have hhe : ¬ 8 ≤ n.e := by simpa using hc
          refine gK (gS (gS (gR ?_))); refine gFp Tryd.underlying80 Tryd.sizeOf3 0 ?_; refine gLo Tryd.isAgg3 0 ?_
          refine GoH.callP rfl rfl rfl rfl rfl (fun _ _ => Tryd.call97 _ _) (fun w _ hS => (by have := group_c n.op w; rw [hG] at this; exact this)) ?_
          refine gMv ?_
          iterate 8 refine gNo ?_
          refine gPf ?_; refine gE (GoH.condF rfl (gK (gS (gR ?_)))); refine gAs ?_; refine gE ?_
          refine GoH.ret Tryd.f56 Tryd.func56 rfl (fun w' hS => ?_)
          exact ⟨hS.ext, by rw [show nodeE n at_ = 0 from (nodeE_f hop hox hoy).trans (fldE_0 hfa (by simp [h3, h17, hA, hG]; omega))]; rfl⟩
theorem rnode_c (n : NV) (at_ : Int) (w : World) : Cn Tryd.prog 56 [n.v, .int .i64 at_] w (fun v _ => v = .int .i64 (nodeE n at_)) := by
  by_cases hop : 1 ≤ n.op ∧ n.op ≤ 21
  · obtain ⟨op, i, e, g, x, y⟩ := n
    dsimp only at hop
    have hcs : op = 1 ∨ op = 2 ∨ op = 3 ∨ op = 4 ∨ op = 5 ∨ op = 6 ∨ op = 7 ∨ op = 8 ∨ op = 9 ∨ op = 10 ∨ op = 11 ∨ op = 12 ∨ op = 13 ∨ op = 14 ∨ op = 15 ∨ op = 16 ∨ op = 17 ∨ op = 18 ∨ op = 19 ∨ op = 20 ∨ op = 21 := by omega
    rcases hcs with rfl | rfl | rfl | rfl | rfl | rfl | rfl | rfl | rfl | rfl | rfl | rfl | rfl | rfl | rfl | rfl | rfl | rfl | rfl | rfl | rfl
    · exact rnode_leaf ⟨1, i, e, g, x, y⟩ at_ w hop rfl rfl rfl rfl rfl rfl
    · exact rnode_leaf ⟨2, i, e, g, x, y⟩ at_ w hop rfl rfl rfl rfl rfl rfl
    · exact rnode_fact ⟨3, i, e, g, x, y⟩ at_ w hop rfl rfl rfl rfl rfl rfl
    · exact rnode_not ⟨4, i, e, g, x, y⟩ at_ w hop rfl rfl rfl rfl rfl rfl
    · exact rnode_bin ⟨5, i, e, g, x, y⟩ at_ w hop rfl rfl rfl rfl rfl rfl
    · exact rnode_bin ⟨6, i, e, g, x, y⟩ at_ w hop rfl rfl rfl rfl rfl rfl
    · exact rnode_bin ⟨7, i, e, g, x, y⟩ at_ w hop rfl rfl rfl rfl rfl rfl
    · exact rnode_bin ⟨8, i, e, g, x, y⟩ at_ w hop rfl rfl rfl rfl rfl rfl
    · exact rnode_know ⟨9, i, e, g, x, y⟩ at_ w hop rfl rfl rfl rfl rfl rfl
    · exact rnode_know ⟨10, i, e, g, x, y⟩ at_ w hop rfl rfl rfl rfl rfl rfl
    · exact rnode_evy ⟨11, i, e, g, x, y⟩ at_ w hop rfl rfl rfl rfl rfl rfl
    · exact rnode_evy ⟨12, i, e, g, x, y⟩ at_ w hop rfl rfl rfl rfl rfl rfl
    · exact rnode_com ⟨13, i, e, g, x, y⟩ at_ w hop rfl rfl rfl rfl rfl rfl
    · exact rnode_bel ⟨14, i, e, g, x, y⟩ at_ w hop rfl rfl rfl rfl rfl rfl
    · exact rnode_know ⟨15, i, e, g, x, y⟩ at_ w hop rfl rfl rfl rfl rfl rfl
    · exact rnode_bin ⟨16, i, e, g, x, y⟩ at_ w hop rfl rfl rfl rfl rfl rfl
    · exact rnode_act ⟨17, i, e, g, x, y⟩ at_ w hop rfl rfl rfl rfl rfl rfl
    · exact rnode_not ⟨18, i, e, g, x, y⟩ at_ w hop rfl rfl rfl rfl rfl rfl
    · exact rnode_bin ⟨19, i, e, g, x, y⟩ at_ w hop rfl rfl rfl rfl rfl rfl
    · exact rnode_not ⟨20, i, e, g, x, y⟩ at_ w hop rfl rfl rfl rfl rfl rfl
    · exact rnode_bin ⟨21, i, e, g, x, y⟩ at_ w hop rfl rfl rfl rfl rfl rfl
  · refine Cn.of Tryd.func56 rfl rfl ?_
    refine gS (gR ?_)
    refine GoH.bx rfl rfl rfl rfl (fun b2 => ?_)
    refine gAs ?_; refine gE (gS (gS (gR ?_))); refine gFp Tryd.underlying80 Tryd.sizeOf3 0 ?_; refine gLo Tryd.isAgg3 0 ?_; refine gBi bLt ?_; refine gMv ?_
    refine GoH.cases (d := 9) rfl (fun hc => ?_) (fun hc => ?_)
    ·
     have h1 : n.op < 1 := by simpa using hc
     iterate 3 refine gNo ?_
     refine gPt ?_; refine gE (GoH.condT rfl (gS (gR ?_))); refine gAs ?_; refine gE ?_
     refine GoH.ret Tryd.f56 Tryd.func56 rfl (fun w' hS => ?_)
     exact ⟨hS.ext, by rw [nodeE_op hop]; rfl⟩
    ·
     have h1 : ¬ n.op < 1 := by simpa using hc
     refine gFp Tryd.underlying80 Tryd.sizeOf3 0 ?_; refine gLo Tryd.isAgg3 0 ?_
     refine GoH.v (Vop.bin rfl rfl rfl rfl (bGtV (v := true) (decide_eq_true (by omega))) rfl) ?_
     refine gPf ?_; refine gE (GoH.condT rfl (gS (gR ?_))); refine gAs ?_; refine gE ?_
     refine GoH.ret Tryd.f56 Tryd.func56 rfl (fun w' hS => ?_)
     exact ⟨hS.ext, by rw [nodeE_op hop]; rfl⟩
end Go.Proofs.YtlihcmknfdckdaaDoor
